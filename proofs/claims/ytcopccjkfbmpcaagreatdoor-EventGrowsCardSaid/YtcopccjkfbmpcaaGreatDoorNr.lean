/-
  Sums: the error of a list, the sum of a list (the program's text).
-/
import Derived.Test.YtcopccjkfbmpcaaGreatDoorNi
set_option maxHeartbeats 0
set_option maxRecDepth 100000
namespace Go.Vm.Seat
variable {b l:List Tm} {a key t x:Tm} {i:Nat}
open Go.Proofs
theorem Zav {es:Nat} {L:List (List PV)} {out:PV} {lv:List Nat} {nt:Nat} (h:ApV false es L out lv nt):∃ tl,out= .sl tl es L:=by
 cases h with
 |nil _ _ h=>cases h
 |full=>exact ⟨_,rfl⟩
 |tok=>exact ⟨_,rfl⟩
theorem Zmd (nm:Bs) (hlen:l.length≤10000) (b:Bool):∀ H,CallOk E0 Tryz.prog 129 [.str nm,slV b 4 (Za l)] H (.agg (Tm.mk 3 nm 0 false l).cells) H:=by
 have hA0:ApV false 4 [] (.sl .full 4 []) [] 0:= .full [] _ _ rfl rfl
 obtain ⟨out',lv',nt',hap,hA', -⟩:=hA0.app Yh (.slV b 4 (Za l)) (Zn _) (ZD (by simp only [Zb,List.length_nil];omega) (by decide)) (ZO _)
 rw [List.nil_append] at hA'
 have hco:=ZaJ hA' 3 nm 0
 have hfr:=fun m H=>Zkq hA' m H 3 nm 0
 simp only [Tm.cells]
 obtain ⟨tl,rfl⟩:=Zav hA'
 refine Jw tOk fe129.ok (ZS _ _ _ _ _ _ _) ?_
 repeat' first|refine Js ?_|refine JA ?_|refine Jo ?_|fail
 exact hfr _ _
theorem Zdt (nm:Bs) (x:Tm):∀ H,CallOk E0 Tryz.prog 129 [.str nm,.sl .full 4 [x.cells]] H (.agg (Tm.mk 3 nm 0 true [x]).cells) H:=fun H=>by
 have:=Zmd nm (l:=[x]) (by simp) true H
 simp only [Tm.cells,Za,Zm] at this ⊢
 exact Zs this rfl
theorem Zql (h:x.Ok∧x.size≤100000):(Tm.mk 3 pkN 0 true [x]).Ok∧(Tm.mk 3 pkN 0 true [x]).size≤200000:=⟨cls_ok.app (by decide) (by simp) rfl (fun y hy=>by
 rw [List.mem_singleton] at hy
 rw [hy]
 exact h.1),by
 simp only [Tm.size,Zl]
 have:=h.2
 omega⟩
theorem Zit (ha:a.okA=true) (hk:key.okA=true) (ha':a.Ok∧a.size≤100000) (hk':key.Ok∧key.size≤100000) (b:Bool):∀ H,CallOk E0 Tryz.prog 151 [.agg (Tm.mk 3 YQ 0 b [a,key]).cells] H (.tup [.agg (Xz (.mk 3 YQ 0 b [a,key])).cells,.bool (isA a Wy&&decide ((a.kd 1).cmp (.mk 3 pkN 0 true [key])=0))]) H:=by
 have hi:=isR a Wy
 have hd:Xz (.mk 3 YQ 0 b [a,key])=if (isA a Wy&&decide ((a.kd 1).cmp (.mk 3 pkN 0 true [key])=0))=true then a.kd 0 else .mk 3 YQ 0 b [a,key]:=by
  rw [← Zgu (t:= .mk 3 YQ 0 b [a,key]) (by simp only [Tm.okA,if_pos,ZhJ,ha,hk];rfl)]
  unfold Zdb
  simp [Zp3,Tm.nm,Tm.kd,Um,V5,VY,YQ,YO,Y7,pkN]
 rw [hd]
 cases hp:isA a Wy with
 | false =>
   rw [hp] at hi
   rw [if_neg (by simp),Bool.false_and]
   obtain ⟨k1,n1,s1,f1,l1⟩:=a
   obtain ⟨k2,n2,s2,f2,l2⟩:=key
   simp only [Tm.cells,VQ,YQ] at hi ⊢
   refine Jw tOk fe151.ok rfl ?_
   repeat' first|refine Jk ?_|refine Jt ?_|refine Jo ?_|(apply dK;rfl;rfl;rfl)|refine Jd (hi _) ?_|(apply dT (ty:=4);rfl;rfl;rfl;rfl)|(apply dF (ty:=4);rfl;rfl;rfl;rfl)|refine Jh ?_|(apply Wp.draw tOk follows;kernel_rfl)|fail
   all_goals first
    | exact Yd _ _ _ _ _ _ _ _
    | rfl
    | (exfalso;simp at hb;done)
 | true =>
   rw [hp] at hi
   obtain ⟨b1,x,y,rfl⟩:=Xp ha hp rfl
   have hs:=Zfe (up2 (V6 ha' (x:=y) (by simp))) (Zql hk')
   have hj:=Zdt pkN key
   show ∀ H,CallOk E0 Tryz.prog 151 _ H (.tup [.agg (Tm.cells (if (true&&decide (y.cmp (.mk 3 pkN 0 true [key])=0))=true then x else _)),.bool (true&&decide (y.cmp (.mk 3 pkN 0 true [key])=0))]) H
   rw [Bool.true_and]
   generalize decide (y.cmp (.mk 3 pkN 0 true [key])=0)=c at hs ⊢
   obtain ⟨k1,n1,s1,f1,l1⟩:=x
   obtain ⟨k2,n2,s2,f2,l2⟩:=y
   obtain ⟨k3,n3,s3,f3,l3⟩:=key
   cases c
   · rw [if_neg (by decide)]
     simp only [Tm.cells,VQ,ZbJ,YQ,Wy,pkN] at hi hj hs ⊢
     refine Jw tOk fe151.ok rfl ?_
     repeat' first|refine Jk ?_|refine Jt ?_|refine Jo ?_|(apply dK;rfl;rfl;rfl)|(apply dCl;rfl;rfl;rfl;rfl;rfl;first|exact hi _|exact hj _|exact hs _)|refine JB ?_|(apply dT (ty:=4);rfl;rfl;rfl;rfl)|(apply dF (ty:=4);rfl;rfl;rfl;rfl)|refine Jh ?_|(apply Wp.draw tOk follows;kernel_rfl)|fail
     all_goals first
      | exact Yd _ _ _ _ _ _ _ _
      | rfl
      | (exfalso;simp at hb;done)
   · rw [if_pos rfl]
     simp only [Tm.cells,VQ,ZbJ,YQ,Wy,pkN] at hi hj hs ⊢
     refine Jw tOk fe151.ok (Yd _ _ _ _ _ _ _ _) ?_
     repeat' first|refine Jk ?_|refine Jt ?_|refine Jo ?_|(apply dK;rfl;rfl;rfl)|(apply dCl;rfl;rfl;rfl;rfl;rfl;first|exact hi _|exact hj _|exact hs _)|refine JB ?_|(apply dT (ty:=4);rfl;rfl;rfl;rfl)|(apply dF (ty:=4);rfl;rfl;rfl;rfl)|refine Jh ?_|(apply Wp.draw tOk follows;kernel_rfl)|fail
     all_goals first
      | exact Yd _ _ _ _ _ _ _ _
      | rfl
      | (exfalso;simp at hb;done)
theorem Zke (ha:a.okA=true) (hk:key.okA=true) (ha':a.Ok∧a.size≤100000) (hk':key.Ok∧key.size≤100000) (b:Bool):∀ H,CallOk E0 Tryz.prog 151 [.agg (Tm.mk 3 YO 0 b [a,key]).cells] H (.tup [.agg (Xz (.mk 3 YO 0 b [a,key])).cells,.bool (isA a Y9&&decide (key.cmp (.mk 3 pkN 0 true [a.kd 1])=0))]) H:=by
 have hi:=isR a Y9
 have hd:Xz (.mk 3 YO 0 b [a,key])=if (isA a Y9&&decide (key.cmp (.mk 3 pkN 0 true [a.kd 1])=0))=true then a.kd 0 else .mk 3 YO 0 b [a,key]:=by
  rw [← Zgu (t:= .mk 3 YO 0 b [a,key]) (by simp only [Tm.okA,if_pos,ZhJ,ha,hk];rfl)]
  unfold Zdb
  simp [Zp3,Tm.nm,Tm.kd,Um,V5,VY,YQ,YO,Y7,pkN]
 rw [hd]
 cases hp:isA a Y9 with
 | false =>
   rw [hp] at hi
   rw [if_neg (by simp),Bool.false_and]
   obtain ⟨k1,n1,s1,f1,l1⟩:=a
   obtain ⟨k2,n2,s2,f2,l2⟩:=key
   simp only [Tm.cells,VQ,YO] at hi ⊢
   refine Jw tOk fe151.ok rfl ?_
   repeat' first|refine Jk ?_|refine Jt ?_|refine Jo ?_|(apply dK;rfl;rfl;rfl)|refine Jd (hi _) ?_|(apply dT (ty:=4);rfl;rfl;rfl;rfl)|(apply dF (ty:=4);rfl;rfl;rfl;rfl)|refine Jh ?_|(apply Wp.draw tOk follows;kernel_rfl)|fail
   all_goals first
    | exact Yd _ _ _ _ _ _ _ _
    | rfl
    | (exfalso;simp at hb;done)
 | true =>
   rw [hp] at hi
   obtain ⟨b1,x,y,rfl⟩:=Xp ha hp rfl
   have hs:=Zfe (up2 hk') (Zql (V6 ha' (x:=y) (by simp)))
   have hj:=Zdt pkN y
   show ∀ H,CallOk E0 Tryz.prog 151 _ H (.tup [.agg (Tm.cells (if (true&&decide (key.cmp (.mk 3 pkN 0 true [y])=0))=true then x else _)),.bool (true&&decide (key.cmp (.mk 3 pkN 0 true [y])=0))]) H
   rw [Bool.true_and]
   generalize decide (key.cmp (.mk 3 pkN 0 true [y])=0)=c at hs ⊢
   obtain ⟨k1,n1,s1,f1,l1⟩:=x
   obtain ⟨k2,n2,s2,f2,l2⟩:=y
   obtain ⟨k3,n3,s3,f3,l3⟩:=key
   cases c
   · rw [if_neg (by decide)]
     simp only [Tm.cells,VQ,ZbJ,YO,Y9,pkN] at hi hj hs ⊢
     refine Jw tOk fe151.ok rfl ?_
     repeat' first|refine Jk ?_|refine Jt ?_|refine Jo ?_|(apply dK;rfl;rfl;rfl)|(apply dCl;rfl;rfl;rfl;rfl;rfl;first|exact hi _|exact hj _|exact hs _)|refine JB ?_|(apply dT (ty:=4);rfl;rfl;rfl;rfl)|(apply dF (ty:=4);rfl;rfl;rfl;rfl)|refine Jh ?_|(apply Wp.draw tOk follows;kernel_rfl)|fail
     all_goals first
      | exact Yd _ _ _ _ _ _ _ _
      | rfl
      | (exfalso;simp at hb;done)
   · rw [if_pos rfl]
     simp only [Tm.cells,VQ,ZbJ,YO,Y9,pkN] at hi hj hs ⊢
     refine Jw tOk fe151.ok (Yd _ _ _ _ _ _ _ _) ?_
     repeat' first|refine Jk ?_|refine Jt ?_|refine Jo ?_|(apply dK;rfl;rfl;rfl)|(apply dCl;rfl;rfl;rfl;rfl;rfl;first|exact hi _|exact hj _|exact hs _)|refine JB ?_|(apply dT (ty:=4);rfl;rfl;rfl;rfl)|(apply dF (ty:=4);rfl;rfl;rfl;rfl)|refine Jh ?_|(apply Wp.draw tOk follows;kernel_rfl)|fail
     all_goals first
      | exact Yd _ _ _ _ _ _ _ _
      | rfl
      | (exfalso;simp at hb;done)
theorem Zu4 {nm:Bs} {ks:List Tm} (h0:(YA nm).kind=3) (h1:(YA nm).least≤ks.length) (h2:(ks.length:Int)≤(YA nm).most) (hA:∀ x,x∈ks→x.okA=true) (hS:SmL ks) (b:Bool):∃ f,∀ H,CallOk E0 Tryz.prog 151 [.agg (Tm.mk 3 nm 0 b ks).cells] H (.tup [.agg (Xz (.mk 3 nm 0 b ks)).cells,.bool f]) H:=by
 rcases ZcQ h0 with ⟨hn,e1,e2⟩|⟨hn,e1,e2⟩
 · rw [e1] at h1
   rw [e2] at h2
   obtain ⟨a,rfl⟩:=ZtU (l:=ks) (by omega)
   have ha:=hA a (by simp)
   rcases hn with rfl|rfl|rfl
   · exact ⟨_,Zlv ha b⟩
   · exact ⟨_,ZlJ ha b⟩
   · exact ⟨_,ZkH ha b⟩
 · rw [e1] at h1
   rw [e2] at h2
   obtain ⟨a,key,rfl⟩:=Zrt (l:=ks) (by omega)
   have ha:=hA a (by simp)
   have hk:=hA key (by simp)
   have ha':=hS a (by simp)
   have hk':=hS key (by simp)
   rcases hn with rfl|rfl|rfl
   · exact ⟨_,Zlz ha ha' hk' b⟩
   · exact ⟨_,Zit ha hk ha' hk' b⟩
   · exact ⟨_,Zke ha hk ha' hk' b⟩
theorem Zi9 (t:Tm) (h:l[i]? = some x):Za9 (l.drop i) t=(decide (x.cmp t=0)||Za9 (l.drop (i+1)) t):=by
 rw [Zy h]
 rfl
theorem c19 (hl:SmL l) (ht:t.Ok∧t.size≤100000) (hlen:l.length≤1000000) (b:Bool):∀ H,CallOk E0 Tryz.prog 19 [slV b 4 (Za l),.agg t.cells] H (.bool (Za9 l t)) H:=by
 have hcs:∀ x,x∈l→∀ H,CallOk E0 Tryz.prog 37 [.agg x.cells,.agg t.cells] H (.bool (decide (x.cmp t=0))) H:=fun x hx=>Zfe (up2 (hl x hx)) (up2 ht)
 obtain ⟨k,nm,s,f,kz⟩:=t
 simp only [Tm.cells] at hcs ⊢
 refine Jw tOk fe19.ok rfl ?_ (by rw [show Zx [slV b 4 (Za l),.agg [.int .i64 k,.str nm,.int .i64 s,slV f 4 (Za kz)]]=some [slV b 4 (Za l),.agg [.int .i64 k,.str nm,.int .i64 s,slV f 4 (Za kz)]] from by simp only [Zx,Z5];simp only [frzG,Xq]])
 repeat' first|refine Jt ?_|refine Jo ?_|fail
 refine Wp.while (fun m tm H => ∃ (i : Nat) (base : TM), i + m = l.length ∧ Za9 l (.mk k nm s f kz) = Za9 (l.drop i) (.mk k nm s f kz) ∧
   tm=ovr base [(0,slV b 4 (Za l)),(3,.ptr 0 4 0 0),(5,.int .i64 (i:Int))]∧H=⟨[.cells 4 [[.int .i64 k,.str nm,.int .i64 s,slV f 4 (Za kz)]]],0,[],0⟩)
  (fun m tm H hI=>?_) l.length _ _ ⟨0,_,by omega,by rw [List.drop_zero],Zf ⟨rfl,rfl,rfl,trivial⟩,rfl⟩
 obtain ⟨i,base,hi,hgo,rfl,rfl⟩:=hI
 rw [hgo]
 by_cases hlt:i<l.length
 · obtain ⟨x, hx⟩ : ∃ x, l[i]? = some x := ⟨l[i], by simp⟩
   have hc:=hcs x (List.mem_of_getElem? hx)
   have hd:=Zi9 (.mk k nm s f kz) hx
   generalize decide (x.cmp (.mk k nm s f kz)=0)=c at hc hd
   obtain ⟨k',nm',s',f',kz'⟩:=x
   have hj:=Zk hx
   simp only [Tm.cells] at hc
   cases c
   · rw [Bool.false_or] at hd
     repeat' first|refine Jl ?_|refine Jt ?_|refine Jb ?_ ?_|refine Jo ?_|refine Jd (hc _) ?_|refine JI ?_|refine Jh ?_|(apply Wp.draw tOk follows;kernel_rfl)|intro hb
     all_goals first
      | exact LoopI.go (m-1) (by omega) ⟨i+1,_,by omega,by rw [hd],Zf ⟨rfl,rfl,Ze (Zd (n:=i+1) (by omega)),trivial⟩,rfl⟩
      | (exfalso;simp at hb;done)
      | (exfalso;simp only [Zb,decide_eq_false_iff_not] at hb;omega)
   · rw [Bool.true_or] at hd
     repeat' first|refine Jl ?_|refine Jt ?_|refine Jb ?_ ?_|refine Jo ?_|refine Jd (hc _) ?_|refine JI ?_|refine Jh ?_|(apply Wp.draw tOk follows;kernel_rfl)|intro hb
     all_goals first
      | (exfalso;simp at hb;done)
      | (exfalso;simp only [Zb,decide_eq_false_iff_not] at hb;omega)
      | rw [hd]
 · have e : i = l.length := by omega
   subst e
   repeat' first|refine Jl ?_|refine Jt ?_|refine Jb ?_ ?_|refine Jo ?_|refine Jh ?_|(apply Wp.draw tOk follows;kernel_rfl)|intro hb
   · exfalso;rw [Zb] at hb;simp at hb
   · rw [List.drop_length]
     rfl
def Znm (t:Tm) (l:List Tm):List Tm:=l.filter fun x=> !decide (x.cmp t=0)
theorem ZjH (t:Tm) (h:l[i]? = some x):Znm t (l.take (i+1))=Znm t (l.take i)++if decide (x.cmp t=0)=true then [] else [x]:=by
 have e:l.take (i+1)=l.take i++ [x]:=by rw [List.take_add_one,h];rfl
 rw [e]
 unfold Znm
 rw [List.filter_append,List.filter_cons,List.filter_nil]
 cases decide (x.cmp t=0)<;>rfl
theorem ZlO (t:Tm) (l:List Tm):(Znm t l).length≤l.length:=List.length_filter_le _ _
theorem Zud (hl:SmL l) (ht:t.Ok∧t.size≤100000) (hlen:l.length≤100000) (b:Bool):∀ H,CallOk E0 Tryz.prog 195 [slV b 4 (Za l),.agg t.cells] H (slV true 4 (Za (Za3 l t))) H:=by
 have hh:=c19 hl ht (by omega) b
 have ha:=c66 b hl ht.1 ht.2 hlen
 have hcs:∀ x,x∈l→∀ H,CallOk E0 Tryz.prog 37 [.agg x.cells,.agg t.cells] H (.bool (decide (x.cmp t=0))) H:=fun x hx=>Zfe (up2 (hl x hx)) (up2 ht)
 have hns:=fun (i:Nat) (x:Tm) (h:l[i]? = some x)=>ZjH t h
 have hnl:=ZlO t
 have ht8:Za3 l t=if Za9 l t=true then Znm t l else Ux l t:=rfl
 rw [ht8]
 generalize Za9 l t=C at hh ⊢
 generalize Ux l t=AL at ha ⊢
 obtain ⟨T,hT⟩:∃ T,T=t:=⟨_,rfl⟩
 rw [show Znm t l=Znm T l from by rw [hT]]
 rw [← hT] at hns hnl
 obtain ⟨k,nm,s,f,kz⟩:=t
 simp only [Tm.cells] at hh ha hcs ⊢
 refine Jw tOk fe195.ok (ZK _ _ _ _ _) ?_ (by simp only [Zx,Z5];simp [frzG,Xq])
 cases C
 · rw [if_neg (by decide)]
   repeat' first|refine Jc (hh _) ?_|refine Jc (ha _) ?_|refine Jt ?_|refine Jo ?_|fail
   all_goals exact ZK _ _ _ _ _
 · rw [if_pos rfl]
   repeat' first|refine Jc (hh _) ?_|refine Jt ?_|refine Jo ?_|fail
   refine Wp.while (fun m tm H => ∃ (i : Nat) (base : TM) (out : PV) (lv : List Nat) (nt : Nat), i + m = l.length ∧ ApV true 4 (Za (Znm T (l.take i))) out lv nt ∧
     tm=ovr base [(5,out),(0,slV b 4 (Za l)),(3,.ptr 0 4 0 0),(6,.int .i64 (i:Int))]∧H=⟨[.cells 4 [[.int .i64 k,.str nm,.int .i64 s,slV f 4 (Za kz)]]],0,lv,nt⟩)
    (fun m tm H hI=>?_) l.length _ _ ⟨0,_,_,_,_,by omega,.nil _ _ rfl,Zf ⟨rfl,rfl,rfl,rfl,trivial⟩,rfl⟩
   obtain ⟨i,base,out,lv,nt,hi,hA,rfl,rfl⟩:=hI
   by_cases hlt:i<l.length
   · obtain ⟨x, hx⟩ : ∃ x, l[i]? = some x := ⟨l[i], by simp⟩
     have hc:=hcs x (List.mem_of_getElem? hx)
     have hd:=hns i x hx
     have hle:=hnl (l.take i)
     rw [List.length_take] at hle
     obtain ⟨o1,lv1,nt1,hap1,hA1⟩:=QN hA x (by omega)
     rw [← hT] at hc
     generalize decide (x.cmp T=0)=c at hc hd
     obtain ⟨k',nm',s',f',kz'⟩:=x
     have hj:=Zk hx
     simp only [Tm.cells] at hc hap1
     cases c
     · rw [if_neg (by decide)] at hd
       rw [← hd] at hA1
       repeat' first|refine Js ?_|refine JA ?_|refine Jl ?_|refine Jx ?_|refine Jb ?_ ?_|refine Jo ?_|refine Jd (hc _) ?_|refine JI ?_|(apply dT (ty:=4);rfl;rfl;rfl;rfl)|refine Jh ?_|(apply Wp.draw tOk follows;kernel_rfl)|intro hb
       all_goals first
        | (exfalso;simp at hb;done)
        | (exfalso;simp only [Zb,decide_eq_false_iff_not] at hb;omega)
        | exact LoopI.go (m-1) (by omega) ⟨i+1,_,o1,lv1,nt1,by omega,hA1,Zf ⟨rfl,rfl,rfl,Ze (Zd (n:=i+1) (by omega)),trivial⟩,rfl⟩
     · rw [if_pos rfl, List.append_nil] at hd
       rw [← hd] at hA
       repeat' first|refine Jl ?_|refine Jb ?_ ?_|refine Jo ?_|refine Jd (hc _) ?_|refine JI ?_|(apply dF (ty:=4);rfl;rfl;rfl;rfl)|refine Jh ?_|(apply Wp.draw tOk follows;kernel_rfl)|intro hb
       all_goals first
        | (exfalso;simp at hb;done)
        | (exfalso;simp only [Zb,decide_eq_false_iff_not] at hb;omega)
        | exact LoopI.go (m-1) (by omega) ⟨i+1,_,out,lv,nt,by omega,hA,Zf ⟨rfl,rfl,rfl,Ze (Zd (n:=i+1) (by omega)),trivial⟩,rfl⟩
   · have e : i = l.length := by omega
     subst e
     rw [List.take_length] at hA
     repeat' first|refine Jl ?_|refine Jb ?_ ?_|refine Jo ?_|refine Jh ?_|(apply Wp.draw tOk follows;kernel_rfl)|intro hb
     · exfalso;rw [Zb] at hb;simp at hb
     · exact hA.frz3 _ _
theorem ZnY (hl:SmL l) (ht:t.Ok∧t.size≤100000):SmL (Za3 l t):=fun x hx=>by
 unfold Za3 at hx
 split at hx
 · exact hl x (List.mem_filter.1 hx).1
 · rcases Zg6 hx with h | h
   · exact hl x h
   · rw [h];exact ht
theorem Zlh (l:List Tm) (t:Tm):(Za3 l t).length≤l.length+1:=by
 unfold Za3
 split
 · exact Nat.le_succ_of_le (List.length_filter_le _ _)
 · exact ZfA l t
theorem Zf2:∀ (b a:List Tm),SmL a→SmL b→SmL (ZaO a b)
 | [],_,ha,_=>ha
 |t::r,a,ha,hb=>Zf2 r (Za3 a t) (ZnY ha hb.head) hb.tail
theorem Zem:∀ (b a:List Tm),(ZaO a b).length≤a.length+b.length
 | [],_=>Nat.le_refl _
 | t :: r, a => by
   have h1:=Zem r (Za3 a t)
   have h2:=Zlh a t
   rw [List.length_cons]
   exact Nat.le_trans h1 (by omega)
theorem Zhj (a:List Tm) (h:b[i]? = some x):ZaO a (b.take (i+1))=Za3 (ZaO a (b.take i)) x:=XR h
theorem Zwl {a:List Tm} (ha:SmL a) (hb':SmL b) (hl:a.length+b.length≤100000) (ba bb:Bool):∀ H,CallOk E0 Tryz.prog 178 [slV ba 4 (Za a),slV bb 4 (Za b)] H (slV (!b.isEmpty) 4 (Za (ZaO a b))) H:=by
 have hA0:ApV false 4 [] (.sl .full 4 []) [] 0:= .full [] _ _ rfl rfl
 obtain ⟨out',lv',nt',hap,hA', -⟩:=hA0.app Yh (.slV ba 4 (Za a)) (Zn _) (ZD (by simp only [Zb,List.length_nil];omega) (by decide)) (ZO _)
 rw [List.nil_append] at hA'
 obtain ⟨tl,rfl⟩:=Zav hA'
 refine Jw tOk fe178.ok (ZK _ _ _ _ _) ?_
 repeat' first|refine Js ?_|refine JA ?_|refine Jo ?_|fail
 refine Wp.while (fun m tm H => ∃ (i : Nat) (base : TM) (V : PV), i + m = b.length ∧ (i = 0 ∧ V = .sl tl 4 (Za a) ∨ 0 < i ∧ V = slV true 4 (Za (ZaO a (b.take i)))) ∧
   tm=ovr base [(5,V),(1,slV bb 4 (Za b)),(6,.int .i64 (i:Int))]∧H=⟨[],0,lv',nt'⟩)
  (fun m tm H hI=>?_) b.length _ _ ⟨0,_,_,by omega,.inl ⟨rfl,rfl⟩,Zf ⟨rfl,rfl,rfl,trivial⟩,rfl⟩
 obtain ⟨i,base,V,hi,hV,rfl,rfl⟩:=hI
 by_cases hlt:i<b.length
 · obtain ⟨x, hx⟩ : ∃ x, b[i]? = some x := ⟨b[i], by simp⟩
   have hxs:=hb' x (List.mem_of_getElem? hx)
   have hsn:=Zhj a hx
   have h1:=Zem (b.take i) a
   rw [List.length_take] at h1
   have hct:∀ H,CallOk E0 Tryz.prog 195 [V,.agg x.cells] H (slV true 4 (Za (ZaO a (b.take (i+1))))) H:=by
    rw [hsn]
    rcases hV with ⟨h0,rfl⟩|⟨_,rfl⟩
    · intro H
      have:=Zud (l:=a) ha hxs (by omega) false H
      rw [h0,List.take_zero,show ZaO a []=a from rfl]
      obtain ⟨k',nm',s',f',kz'⟩:=x
      simp only [Tm.cells,Yb] at this ⊢
      exact Zs this (by simp only [Zx,frzG,XM,ZE];rfl)
    · exact Zud (Zf2 _ _ ha fun t ht=>hb' t (List.mem_of_mem_take ht)) hxs (by omega) true
   obtain ⟨k',nm',s',f',kz'⟩:=x
   have hj:=Zk hx
   simp only [Tm.cells] at hct
   repeat' first|refine Jc (hct _) ?_|refine Jl ?_|refine Jx ?_|refine Jb ?_ ?_|refine Jo ?_|intro hb
   all_goals first
    | (exfalso;simp at hb;done)
    | (exfalso;simp only [Zb,decide_eq_false_iff_not] at hb;omega)
    | exact LoopI.go (m-1) (by omega) ⟨i+1,_,_,by omega,.inr ⟨by omega,rfl⟩,Zf ⟨rfl,rfl,Ze (Zd (n:=i+1) (by omega)),trivial⟩,rfl⟩
 · have e : i = b.length := by omega
   subst e
   repeat' first|refine Jl ?_|refine Jb ?_ ?_|refine Jo ?_|intro hb
   · exfalso;rw [Zb] at hb;simp at hb
   · rcases hV with ⟨h0, rfl⟩ | ⟨h0, rfl⟩
     · have e0 := List.length_eq_zero_iff.1 h0
       subst e0
       show _=some (slV false 4 (Za a))
       rw [Yb]
       rfl
     · rw [List.take_length]
       cases b with
       | nil=>exact absurd h0 (by simp)
       | cons y r=>exact ZK _ _ _ _ _
end Go.Vm.Seat
namespace Go.Vm
theorem ZaK {l:List Tm} {i:Nat} {t:Tm} (h:l[i]? = some t):Xu (l.drop i)=if t.valid≠0 then t.valid else Xu (l.drop (i+1)):=by
 rw [Zy h];rfl
theorem UR (a b:List Tm):Zl (a++b)=Zl a+Zl b:=by
 induction a with
 |nil=>simp [Zl]
 |cons x r ih=>simp only [List.cons_append,Zl,ih];omega
theorem UU:∀ a b:List Tm,Zl (Ya a b)≤Zl a+Zl b
 | [],b=>by rw [Ya,Zl];omega
 |x::a,[]=>by rw [Ya];omega
 | x :: a, y :: b => by
   have h1:=UU a (y::b)
   have h2:=UU (x::a) b
   have h3:=UU a b
   rw [Ya]
   simp only [Zl] at *
   split
   · rw [Zl];omega
   · split
     · rw [Zl];omega
     · omega
termination_by a b=>a.length+b.length
mutual
theorem Zle:∀ t:Tm,Zl t.sumP≤t.size
 | .mk k nm s b kz => by
   rw [Tm.sumP,Tm.size]
   split
   · simp only [Zl];omega
   · split
     · have := UA kz []
       simp only [Zl] at this
       omega
     · simp only [Zl,Tm.size];omega
theorem UA:∀ l o:List Tm,Zl (ZY l o)≤Zl o+Zl l
 | [],o=>by rw [ZY];omega
 | t :: r, o => by
   have h1:=UA r (Ya o t.sumP)
   have h2:=UU o t.sumP
   have h3:=Zle t
   rw [ZY,Zl]
   omega
end
end Go.Vm
namespace Go.Vm.Seat
open Go.Proofs
theorem ZbY (b:Bool) (el:List (List PV)):slV b 4 el= .nils∨∃ el',slV b 4 el= .sl .none 4 el':=by
 cases el with
 | nil => cases b with
   | true=>exact .inl (Zg 4)
   | false=>exact .inr ⟨[],ZC 4⟩
 |cons x r=>exact .inr ⟨x::r,Zm _ _ _ _⟩
theorem bs2 (b c:Bool) (l m:List (List PV)):Z2 E0 204 2 [(0,slV b 4 l),(1,slV c 4 m)]=some (1,[[slV b 4 l],[slV c 4 m]]):=by
 rcases ZbY b l with e|⟨el,e⟩<;>rcases ZbY c m with e'|⟨el',e'⟩<;>rw [e,e']<;>rfl
theorem Zvv (b:Bool) (l:List (List PV)):Z2 E0 204 2 [(0,slV b 4 l),(1,.nils)]=some (1,[[slV b 4 l],[.nils]]):=by
 have:=bs2 b true l []
 rwa [show slV true 4 ([]:List (List PV))= .nils from Zg 4] at this
theorem Zvj {l:List Tm} (hl:SmL l) (hlen:l.length≤1000000) (b:Bool):∀ H,CallOk E0 Tryz.prog 214 [slV b 4 (Za l),.nils] H (.int .i64 (if 200<l.length then 3 else Xu l)) H:=by
 have hcat:=ZtM (a:=l) (b:=[]) (by simpa using hlen) b true
 rw [List.append_nil] at hcat
 have hcat:∀ H,CallOk E0 Tryz.prog 222 [.sl .full 1 [[slV b 4 (Za l)],[.nils]]] H (slV true 4 (Za l)) H:=fun H=>by
  have:=hcat H
  rw [show slV true 4 (Za [])= .nils from Zg 4] at this
  exact Zs this rfl
 have hV:∀ t,t∈l→∀ H,CallOk E0 Tryz.prog 46 [.agg t.cells] H (.int .i64 t.valid) H:=fun t ht=>c46 (hl t ht).1 (by have:=(hl t ht).2;omega)
 refine Jw tOk fe214.ok rfl ?_
 by_cases h2:200<l.length
 · rw [if_pos h2]
   repeat' first|refine Jl ?_|refine Jb ?_ ?_|refine Jo ?_|intro hb
   all_goals first
    | rfl
    | (exfalso;rw [Zb] at hb;simp only [decide_eq_false_iff_not] at hb;omega)
 · rw [if_neg h2]
   repeat' first|refine Jl ?_|refine Jb ?_ ?_|refine Jo ?_|intro hb
   · exfalso;rw [Zb] at hb;simp only [decide_eq_true_eq] at hb;omega
   apply qBs
   · rfl
   · rfl
   · rfl
   · exact Zvv b (Za l)
   · exact IsLL.n
   · simp only [Z8,XM,ZE];rfl
   repeat' first|refine Jc (hcat _) ?_|refine Jl ?_|refine Jo ?_|fail
   refine Wp.while (fun m tm H => ∃ (i : Nat) (base : TM), i + m = l.length ∧ Xu l = Xu (l.drop i) ∧
     tm=ovr base [(14,slV true 4 (Za l)),(15,.int .i64 (l.length:Int)),(16,.int .i64 (i:Int))]∧H=hNil)
    (fun m tm H hI=>Wp.drop ?_) l.length _ _ ⟨0,_,by omega,by rw [List.drop_zero],Zf ⟨rfl,Ze (by rw [Zb]),rfl,trivial⟩,rfl⟩
   obtain ⟨i,base,hi,hgo,rfl,rfl⟩:=hI
   rw [hgo]
   clear hb
   by_cases hlt:i<l.length
   · obtain ⟨t, ht⟩ : ∃ t, l[i]? = some t := ⟨l[i], by simp⟩
     have hc:=hV t (List.mem_of_getElem? ht)
     have hd:=ZaK ht
     generalize t.valid=v at hc hd
     obtain ⟨k',nm',s',f',kz'⟩:=t
     have hj:=Zk ht
     simp only [Tm.cells] at hc
     by_cases hv:v=0
     · subst hv
       rw [if_neg (by simp)] at hd
       repeat' first|refine Jc (hc _) ?_|refine Jx ?_|refine Jt ?_|refine Jz ?_ ?_|refine Jo ?_|intro hb
       all_goals first
        | (exfalso;simp at hb<;>omega)
        | exact DropQ.go [(14, slV true 4 (Za l)), (15, .int .i64 (l.length : Int)), (16, .int .i64 ((i + 1 : Nat) : Int))] ⟨rfl, rfl, Ze (Zd (n := i + 1) (by omega)), trivial⟩
            (by simp [Zh,under]) rfl rfl (LoopI.go (m-1) (by omega) ⟨i+1,_,by omega,by rw [hd],rfl,rfl⟩)
     · rw [if_pos hv] at hd
       repeat' first|refine Jc (hc _) ?_|refine Jx ?_|refine Jb ?_ ?_|refine Jz ?_ ?_|refine Jo ?_|intro hb
       all_goals first
        | (exfalso;simp at hb<;>omega)
        | (exfalso;simp_all;done)
        | rw [hd]
   · have e : i = l.length := by omega
     subst e
     repeat' first|refine Jz ?_ ?_|refine Jo ?_|intro hb
     · exfalso;simp at hb
     · rw [List.drop_length]
       rfl
