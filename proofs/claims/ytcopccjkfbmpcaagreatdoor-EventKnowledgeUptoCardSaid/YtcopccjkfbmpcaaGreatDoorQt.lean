/-
  Small casts; lists of terms that are the same; the statement's function of Event
-/
import Derived.Test.YtcopccjkfbmpcaaGreatDoorQs
set_option maxHeartbeats 0
set_option maxRecDepth 100000
namespace Go.Vm.Seat
variable {l:List Mo}
open Go.Proofs
theorem fewM_lens {m:Mo}:ZjW m=true↔m.agents.length≤8∧m.terms.length≤14∧∀ s,s∈m.agents→s.length≤40:=by
 simp only [ZjW,Bool.and_eq_true,Bool.not_eq_true',decide_eq_false_iff_not,List.all_eq_true,Nat.not_lt]
theorem ZfU {i:Nat} {x:Mo} (h:l[i]? = some x):(l.take (i+1)).flatMap (·.terms)=(l.take i).flatMap (·.terms)++x.terms:=by
 simp only [List.take_add_one,h,Option.toList_some,List.flatMap_append,List.flatMap_cons,List.flatMap_nil,List.append_nil]
theorem ZcC (h:∀ m,m∈l→ZjW m=true):(l.flatMap (·.terms)).length≤14*l.length:=by
 induction l with
 |nil=>simp
 | cons a r ih =>
   have h1:=(fewM_lens.1 (h a List.mem_cons_self)).2.1
   have h2:=ih fun m hm=>h m (List.mem_cons_of_mem _ hm)
   simp only [List.flatMap_cons,List.length_append,List.length_cons] at h2 ⊢
   omega
theorem Zh5 {m:Mo} (hm:m∈l) (h:ZjW m=false):QY l=false:=by
 unfold QY
 split
 · rfl
 · rw [if_neg]
   intro ha
   rw [List.all_eq_true] at ha
   have:=ha m hm
   rw [h] at this
   cases this
theorem c6 (hok : ∀ m, m ∈ l → m.Ok) (b : Bool) :
  ∀ H,CallOk E0 Tryz.prog 6 [slV b 6 (moC l)] H (.bool (QY l)) H:=by
 refine Jw tOk fe6.ok rfl ?_
 repeat' first|refine Jl ?_|refine Jt ?_|refine Jb ?_ ?_|refine Jo ?_|intro hb
 · rw [Y4] at hb
   have:420<l.length:=by simp at hb<;>omega
   simp only [QY,if_pos this]
 rw [Y4] at hb
 have hl:l.length≤420:=by simp at hb<;>omega
 clear hb
 refine Wp.while (fun m tm H => ∃ (i : Nat) (base : TM) (out : PV) (lv : List Nat) (nt : Nat), i + m = l.length ∧ (∀ m, m ∈ l.take i → ZjW m = true) ∧ ApV true 4 (Za ((l.take i).flatMap (·.terms))) out lv nt ∧
   tm=ovr base [(0,slV b 6 (moC l)),(3,out),(4,.int .i64 (i:Int))]∧H=⟨[],0,lv,nt⟩)
  (fun m tm H hI=>?_) l.length _ _ ⟨0,_,_,_,_,by omega,by simp,.nil _ _ rfl,Zf ⟨rfl,rfl,rfl,trivial⟩,rfl⟩
 obtain ⟨i,base,out,lv,nt,hi,hF,hA,rfl,rfl⟩:=hI
 by_cases hlt:i<l.length
 · obtain ⟨x, hx⟩ : ∃ x, l[i]? = some x := ⟨l[i], by simp⟩
   have hm:x∈l:=List.mem_of_getElem? hx
   have ho:=hok x hm
   have hs:=ZfU hx
   have hsl:=ZcC hF
   rw [List.length_take] at hsl
   have hnot:=fun h=>Zh5 hm h
   have hj:=Va hx
   have hfw:=@fewM_lens x
   have htk:∀ (h:ZjW x=true) m,m∈l.take (i+1)→ZjW m=true:=fun h m hm=>by
    rw [List.take_add_one,hx] at hm
    rcases List.mem_append.1 hm with hm|hm
    · exact hF m hm
    · simp at hm;rw [hm];exact h
   by_cases h8:x.agents.length≤8∧x.terms.length≤14
   · obtain ⟨out', lv', nt', hap, hA', -⟩ := hA.app Yd (.slV x.tn 4 (Za x.terms)) (Zn _) (ZJ (by simp only [Zb]; omega) (by decide)) (ZL _)
     rw [← Zt] at hA'
     obtain ⟨kd,nu,ro,an,ag,go,tn,te⟩:=x
     simp only [Mo.cells] at hj hs hap hA' hfw h8
     repeat' first|refine Jk ?_|refine Jl ?_|refine Jx ?_|refine Jt ?_|refine Jb ?_ ?_|refine Jo ?_|intro hb
     · exfalso;rw [Zw] at hb;simp at hb<;>omega
     · exfalso;rw [Zb] at hb;simp at hb<;>omega
     · refine Wp.while (fun m2 tm H => ∃ (k : Nat) (base : TM), k + m2 = ag.length ∧ (∀ s, s ∈ ag.take k → s.length ≤ 40) ∧
           tm=ovr base [(0,slV b 6 (moC l)),(3,out),(4,.int .i64 (i:Int)),(5,.int .i64 (k:Int))]∧H=⟨[],0,lv,nt⟩)
         (fun m2 tm H hI=>?_) ag.length _ _ ⟨0,_,by omega,by simp,Zf ⟨rfl,rfl,rfl,rfl,trivial⟩,rfl⟩
       obtain ⟨k,base,hk2,hks,rfl,rfl⟩:=hI
       by_cases hlk:k<ag.length
       · obtain ⟨y, hy⟩ : ∃ y, ag[k]? = some y := ⟨ag[k], by simp⟩
         have hj2:=ZW hy
         repeat' first|refine JA ?_|refine Jl ?_|refine Jx ?_|refine Jt ?_|refine Jb ?_ ?_|refine Jo ?_|intro hb
         · have hb' : 40 < y.length := by simp at hb <;> omega
           rw [hnot (by
            rw [← Bool.not_eq_true,hfw]
            rintro ⟨-, -,h⟩
            have:=h y (List.mem_of_getElem? hy)
            omega)]
         · have hb' : y.length ≤ 40 := by simp at hb <;> omega
           refine LoopI.go (m2-1) (by omega) ⟨k+1,_,by omega,fun s hs=>?_,Zf ⟨rfl,rfl,rfl,Ze (Zd (n:=k+1) (by omega)),trivial⟩,rfl⟩
           rw [List.take_add_one,hy] at hs
           rcases List.mem_append.1 hs with hs|hs
           · exact hks s hs
           · simp at hs;rw [hs];exact hb'
         · exfalso;rw [Zw] at hb;simp at hb<;>omega
       · have e : k = ag.length := by omega
         subst e
         rw [List.take_length] at hks
         repeat' first|refine JA ?_|refine Jl ?_|refine Jx ?_|refine Jb ?_ ?_|refine Jo ?_|intro hb
         · exfalso;rw [Zw] at hb;simp at hb
         · exact LoopI.go (m-1) (by omega) ⟨i+1,_,out',lv',nt',by omega,htk (hfw.2 ⟨h8.1,h8.2,hks⟩),by rw [hs];exact hA',Zf ⟨rfl,rfl,Ze (Zd (n:=i+1) (by omega)),trivial⟩,rfl⟩
     · exfalso;rw [Y4] at hb;simp at hb<;>omega
   · have hnf := hnot (by rw [← Bool.not_eq_true, hfw]; rintro ⟨h1, h2, -⟩; exact h8 ⟨h1, h2⟩)
     obtain ⟨kd,nu,ro,an,ag,go,tn,te⟩:=x
     simp only [Mo.cells] at hj h8
     rw [hnf]
     repeat' first|refine Jk ?_|refine Jl ?_|refine Jx ?_|refine Jt ?_|refine Jb ?_ ?_|refine Jo ?_|intro hb
     all_goals first
      | rfl
      | (exfalso;rw [Y4] at hb;simp at hb<;>omega)
      | skip
     rename_i hb0
     exfalso
     rw [Zw] at hb0
     rw [Zb] at hb
     simp at hb hb0
     omega
 · have e : i = l.length := by omega
   subst e
   rw [List.take_length] at hA hF
   have hsl:=ZcC hF
   have hc:∀ H,CallOk E0 Tryz.prog 21 [slV true 4 (Za (l.flatMap (·.terms))),.int .i64 1000,.int .i64 800] H (.bool (Zi5 (l.flatMap (·.terms)) 1000 800)) H:=
    c21 (fun t ht=>by
     obtain ⟨m,hm,ht⟩:=List.mem_flatMap.1 ht
     exact (hok m hm).ts t ht) (by unfold maxLen;omega) true (by omega) (by omega)
   have hr:QY l=Zi5 (l.flatMap (·.terms)) 1000 800:=by
    unfold QY
    rw [if_neg (by omega),if_pos (List.all_eq_true.2 hF)]
   rw [hr]
   have hc2:∀ H,CallOk E0 Tryz.prog 21 [out,.int .i64 1000,.int .i64 800] H (.bool (Zi5 (l.flatMap (·.terms)) 1000 800)) H:=fun H=>
    XI (hc hNil) (by simp only [Zz,hA.frzG];rfl) rfl H
   repeat' first|refine Jc (hc2 _) ?_|refine Jl ?_|refine Jb ?_ ?_|refine Jo ?_|intro hb
   all_goals first
    | (exfalso;rw [Y4] at hb;simp at hb;done)
    | (rw [hb];done)
theorem Zai:∀ (l:List Tm) (n:Int),Zk8 l n=true→∀ t,t∈l→(t.size:Int)≤n
 | [],_,_,t,ht=>absurd ht (by simp)
 | a :: r, n, h, t, ht => by
   simp only [Zk8] at h
   split at h
   · cases h
   · rename_i hb
     have:=a.budget_eq n (by omega)
     rcases List.mem_cons.1 ht with rfl|ht
     · omega
     · have:=Zai r _ h t ht;omega
theorem Zf5 (h:QY l=true):l.length≤420∧(∀ m,m∈l→ZjW m=true)∧∀ m,m∈l→∀ t,t∈m.terms→t.size<4611686018427387904:=by
 unfold QY at h
 split at h
 · cases h
 · split at h
   · rename_i h1 h2
     refine ⟨by omega,List.all_eq_true.1 h2,fun m hm t ht=>?_⟩
     unfold Zi5 at h
     split at h
     · cases h
     · have := Zai _ _ h t (List.mem_flatMap.2 ⟨m, hm, ht⟩)
       omega
   · cases h
end Go.Vm.Seat
namespace Go.Vm
def Znv (l:List Bs):Bool:=l.all (fun x=>decide (x.length≤60))&&decide (l.length≤20)
def Zoa (c:Ca):Bool:=Znv (c.ag++c.bad)
theorem fewC_sm {c:Ca} (h:Zoa c=true):c.Sm:=by
 simp only [Zoa,Znv,Bool.and_eq_true,List.all_eq_true,decide_eq_true_eq,List.length_append] at h
 obtain ⟨h1,h2⟩:=h
 exact ⟨by omega,by omega,fun s hs=>by have:=h1 s (List.mem_append_left _ hs);omega,fun s hs=>by have:=h1 s (List.mem_append_right _ hs);omega⟩
end Go.Vm
namespace Go.Vm.Seat
variable {l:List Mo} {c:Ca}
open Go.Proofs
theorem eSl:E0.T 22=some ⟨.slice 9,1,24,.nils⟩:=by kernel_rfl
structure Lst (L:PV) (l:List Bs):Prop where
 len:∀ H,Zgj E0 22 L H=some (.int .i64 (l.length:Int))
 get:∀ (i:Nat) (x:Bs),l[i]? = some x→ZB E0 22 L (.int .i64 (i:Int))=some (.fptr [.str x] 0)
theorem Zkw (tl:Tail) (l:List Bs):Lst (.sl tl 1 (Zp l)) l where
 len H:=by
  simp only [Zgj,eSl,Zw]
  rfl
 get i x h:=by
  have en:nat? (.int .i64 (i:Int))=some i:=rfl
  have hn:nth (Zp l) i=some [.str x]:=by rw [Zs];exact ZW h
  simp only [ZB,eSl,en,eTs,if_true,hn]
theorem ZnQ {L:PV} {l:List Bs} {lv:List Nat} {nt:Nat} (h:ApV false 1 (Zp l) L lv nt):Lst L l:=by
 generalize hX:Zp l=X at h
 cases h with
 |nil _ _ h=>cases h
 |full=>subst hX;exact Zkw .full l
 |tok _ k=>subst hX;exact Zkw (.tok k) l
theorem ZpI (b b' : Bool) (P X : List Bs) (hl : P.length + X.length ≤ 3000000) (bx : List Box) : ∃ L1 lv1 n1 L2 lv2 n2,
  (∀ ro,ZO E0 22 22 (.sl .full 1 []) (slV b 1 (Zp P)) ⟨bx,ro,[],0⟩=some (L1,⟨bx,ro,lv1,n1⟩))∧
  (∀ ro,ZO E0 22 22 L1 (slV b' 1 (Zp X)) ⟨bx,ro,lv1,n1⟩=some (L2,⟨bx,ro,lv2,n2⟩))∧Lst L2 (P++X):=by
 have h0:ApV false 1 (Zp []) (.sl .full 1 []) [] 0:= .full [] _ _ rfl rfl
 obtain ⟨L1,lv1,n1,ha1,hA1, -⟩:=h0.app Zax (.slV b 1 (Zp P)) (Zaq _) (ZJ (by simp only [Zw,List.length_nil];omega) (by decide)) (UG _)
 rw [← V1] at hA1
 obtain ⟨L2,lv2,n2,ha2,hA2, -⟩:=hA1.app Zax (.slV b' 1 (Zp X)) (Zaq _) (ZJ (by simp only [Zw,List.nil_append];omega) (by decide)) (UG _)
 rw [← V1] at hA2
 exact ⟨L1,lv1,n1,L2,lv2,n2,fun ro=>ha1 bx ro,fun ro=>ha2 bx ro,ZnQ hA2⟩
theorem c7 (hl : c.ag.length + c.bad.length ≤ 3000000) :
  ∀ H,CallOk E0 Tryz.prog 7 [.agg c.cells] H (.bool (Zoa c)) H:=by
 obtain ⟨b,P,b',X⟩:=c
 simp only [Ca.cells,Zoa] at hl ⊢
 refine ZU (own:=fun d=>Nat.beq d 5008||Nat.beq d 5011) tOk fe7.ok (by simp only [Zz,frzG,XS,ZC]) rfl ?_
 obtain ⟨L1,lv1,n1,L2,lv2,n2,ha1,ha2,hL⟩:=ZpI b b' P X hl [.cells 2 [[slV b 1 (Zp P),slV b' 1 (Zp X)]]]
 have hle:=hL.len
 refine Wp.seq ?_
 repeat' first|refine Jt ?_|refine Jo ?_|refine JB ?_|(apply dAq;rfl;rfl;rfl;rfl;rfl;rfl;(first|assumption|solve_by_elim))|refine Jh ?_|(apply Wp.draw tOk follows;kernel_rfl)|fail
 obtain ⟨l,el⟩:∃ l,l=P++X:=⟨_,rfl⟩
 have hll:l.length≤3000000:=by rw [el,List.length_append];exact hl
 rw [← el] at hL hle ⊢
 clear el ha1 ha2
 obtain ⟨bx,hbx⟩:∃ bx,bx= [Box.cells 2 [[slV b 1 (Zp P),slV b' 1 (Zp X)]]]:=⟨_,rfl⟩
 rw [← hbx]
 clear hbx
 refine Wp.while (fun m tm H => ∃ (i : Nat) (base : TM), i + m = l.length ∧ l.all (fun x => decide (x.length ≤ 60)) = (l.drop i).all (fun x => decide (x.length ≤ 60)) ∧
   tm=ovr base [(3,L2),(4,.int .i64 (i:Int))]∧H=⟨bx,0,lv2,n2⟩)
  (fun m tm H hI=>?_) l.length _ _ ⟨0,_,by omega,by simp,Zf ⟨rfl,rfl,trivial⟩,rfl⟩
 obtain ⟨i,base,hi,hf,rfl,rfl⟩:=hI
 by_cases hlt:i<l.length
 · obtain ⟨x, hx⟩ : ∃ x, l[i]? = some x := ⟨l[i], by simp⟩
   have hg:=hL.get i x hx
   rw [Zu hx,List.all_cons] at hf
   repeat' first|refine JJ ?_|(apply qLe;rfl;rfl;rfl;assumption;exact IsV.any _)|refine Jt ?_|refine Jb ?_ ?_|refine Jo ?_|intro hb
   · have hx0 : decide (x.length ≤ 60) = false := by simp at hb ⊢; omega
     rw [hx0] at hf
     simp only [Znv,hf];rfl
   · have hx0 : decide (x.length ≤ 60) = true := by simp at hb ⊢; omega
     rw [hx0] at hf
     refine LoopI.go (m-1) (by omega) ⟨i+1,_,by omega,by rw [hf];rfl,Zf ⟨rfl,Ze (Zd (n:=i+1) (by omega)),trivial⟩,rfl⟩
   all_goals (exfalso;rename_i hq;simp at hq;omega)
 · have e : i = l.length := by omega
   subst e
   rw [List.drop_length] at hf
   have hfe:Znv l=decide ((l.length:Int)≤20):=by
    simp only [Znv,hf]
    rw [Bool.eq_iff_iff];simp;omega
   repeat' first|(apply qLe;rfl;rfl;rfl;assumption;exact IsV.any _)|refine Jt ?_|refine Jb ?_ ?_|refine Jo ?_|intro hb
   · exfalso;simp at hb
   · rw [hfe,hb]
   · rw [hfe,hb]
theorem Zn5 {l m:List Tm} (hl:∀ t,t∈l→t.Ok∧t.size≤200000) (hm:∀ t,t∈m→t.Ok∧t.size≤200000) (hll:l.length≤1000000) (he:l.map Tm.cl=m.map Tm.cl) (b c:Bool):∀ H,CallOk E0 Tryz.prog 11 [slV b 4 (Za l),slV c 4 (Za m)] H (.bool true) H:=by
 have hlm:l.length=m.length:=by simpa using congrArg List.length he
 have g1':=Zb l
 have g2':=Zb m
 have hn:=ZaC ((Za l).length:Int) ((Za m).length:Int)
 rw [decide_eq_true (by omega),Bool.not_true] at hn
 refine Jw tOk fe11.ok rfl ?_
 repeat' first|refine Ji ?_|refine Jl ?_|refine Jt ?_|refine Jo ?_|fail
 refine Wp.while (fun k tm H=>∃ (i:Nat) (base:TM),i+k=l.length∧tm=ovr base [(0,slV b 4 (Za l)),(1,slV c 4 (Za m)),(5,.int .i64 (i:Int))]∧H=⟨[],0,[],0⟩)
  (fun k tm H hI=>?_) l.length _ _ ⟨0,_,by omega,Zf ⟨rfl,rfl,rfl,trivial⟩,rfl⟩
 obtain ⟨i,base,hi,rfl,rfl⟩:=hI
 by_cases hlt:i<l.length
 · obtain ⟨t', ht'⟩ : ∃ t', l[i]? = some t' := ⟨l[i], by simp⟩
   obtain ⟨u',hu'⟩:∃ u',m[i]? = some u':=⟨m[i]'(by omega),by simp⟩
   have hc:=Zep (hl t' (List.mem_of_getElem? ht')) (hm u' (List.mem_of_getElem? hu'))
   have hcl:t'.cl=u'.cl:=by
    have:=congrArg (·[i]?) he
    simpa [ht',hu'] using this
   rw [decide_eq_true (YI.2 hcl)] at hc
   have hlx:=Zr (i:Int) ((Za l).length:Int)
   rw [decide_eq_true (by omega)] at hlx
   clear hcl
   obtain ⟨k',nm',s',b',kz'⟩:=t'
   obtain ⟨k2,nm2,s2,b2,kz2⟩:=u'
   have hj1:=Zk ht'
   have hj2:=Zk hu'
   simp only [Tm.cells] at hc
   repeat' first|refine Ji ?_|refine Jl ?_|refine Jo ?_|refine Jd (hc _) ?_|refine JI ?_|(apply dF (ty:=4);rfl;rfl;rfl;rfl)|refine Jh ?_|(apply Wp.draw tOk follows;kernel_rfl)|fail
   exact LoopI.go (k-1) (by omega) ⟨i+1,_,by omega,Zf ⟨rfl,rfl,Ze (Zd (n:=i+1) (by omega)),trivial⟩,rfl⟩
 · have e : i = l.length := by omega
   subst e
   have hlx:=Zr (l.length:Int) ((Za l).length:Int)
   rw [decide_eq_false (by omega)] at hlx
   repeat' first|refine Ji ?_|refine Jl ?_|refine Jt ?_|refine Jo ?_|fail
   all_goals rfl
theorem ZnL (hc:c.Sm) (hl:TrF l):(∀ t,t∈(knP c l).1→t.Ok∧t.size≤200000)∧(knP c l).1.length≤1000000:=by
 have nil:(∀ t,t∈([]:List Tm)→t.Ok∧t.size≤200000)∧([]:List Tm).length≤1000000:=⟨fun t h=>(by cases h),by simp⟩
 unfold knP
 split
 · exact nil
 split
 · exact nil
 unfold knB
 split
 · exact nil
 have hd:=UY l c hc
 generalize (WM c l).1=d at hd ⊢
 split
 · exact nil
 rename_i hie
 have hie:=Classical.not_not.1 hie
 have hde:d.err=0:=by
  by_cases h:d.err=0
  · exact h
  · rw [show Zbr d=([],d.err) from if_pos h] at hie;exact hie
 obtain ⟨e1,e2, -⟩:=err_len hde
 rw [show Zbr d=(WN (Qf d),0) from if_neg (by omega)]
 have hne:=QN (WT e1) (N:=3) fun t ht=>(X4 hd t ht).2
 obtain ⟨-, -,hLm⟩:=Wl (WT e1) (N:=3) fun t ht=>(X4 hd t ht).2
 have hall:∀ t,t∈WN (Qf d)++YG l→t.Ok∧t.size≤90000:=fun t ht=>by
  rcases List.mem_append.1 ht with h|h
  · have:=X4 hd t (hLm t h);exact ⟨this.1,by have:=this.2;omega⟩
  · exact WY hl.s t h
 obtain ⟨-, -,hm⟩:=Wl (l:=WN (Qf d)++YG l) (fun h=>hne (List.append_eq_nil_iff.1 h).1) (N:=90000) fun t ht=>(hall t ht).2
 refine ⟨fun t ht=>?_,?_⟩
 · have:=hall t (hm t ht);exact ⟨this.1,by have:=this.2;omega⟩
 · have h1 := Zfi (YV (WN (Qf d) ++ YG l)) (WN (Qf d) ++ YG l).length
   have h2:=Nat.le_trans (Zfi (YV (Qf d)) (Qf d).length) (ZeC e2)
   have h3:=Nat.le_trans (Up hl.t) (Nat.mul_le_mul_left 14 hl.n)
   have h4:(WN (Qf d)).length≤48:=h2
   rw [List.length_append] at h1
   show (WN (WN (Qf d)++YG l)).length≤1000000
   unfold WN at h1 h4 ⊢
   rw [List.length_append]
   omega
theorem ZnZ (hc:c.Sm) (hl:TrF l):(∀ t,t∈(knR c l).1→t.Ok∧t.size≤200000):=by
 have nil:(∀ t,t∈([]:List Tm)→t.Ok∧t.size≤200000):=fun t h=>by cases h
 unfold knR
 split
 · exact nil
 rename_i he
 split
 · exact nil
 unfold knC
 split
 · exact nil
 rename_i hb
 have hd:=UY l c hc
 have hde:=Zae l c (Classical.not_not.1 he) (Classical.not_not.1 hb)
 generalize (WM c l).1=d at hd hde ⊢
 obtain ⟨i1, -⟩:=ZhC hd hde
 intro t ht
 rcases Ww _ _ _ ht with h|h
 · cases h
 rcases List.mem_append.1 h with h|h
 · have:=i1 t h;exact ⟨this.1,by have:=this.2;omega⟩
 · have:=WY hl.s t h;exact ⟨this.1,by have:=this.2;omega⟩
theorem trf_of {l:List Mo} (hok:∀ m,m∈l→m.Ok) (h:QY l=true):TrF l:=by
 obtain ⟨h1,h2, -⟩:=Zf5 h
 have hts:∀ t,t∈l.flatMap (·.terms)→t.size≤1000:=fun t ht=>by
  unfold QY at h
  rw [if_neg (by omega),if_pos (List.all_eq_true.2 h2)] at h
  unfold Zi5 at h
  split at h
  · cases h
  · have := Zai _ _ h t ht
    omega
 refine ⟨⟨by omega,fun m hm=>⟨hok m hm,by have:=(fewM_lens.1 (h2 m hm)).1;omega,by have:=(fewM_lens.1 (h2 m hm)).2.1;omega,fun t ht=>⟨(hok m hm).ts t ht,by have:=hts t (List.mem_flatMap.2 ⟨m,hm,ht⟩);omega⟩⟩⟩,h1,fun m hm=>(fewM_lens.1 (h2 m hm)).2.1⟩
theorem c3 (awakeOk : ∀ H, CallOk E0 Tryz.prog 5 [] H (.bool true) H) (hc : c.ag.length + c.bad.length ≤ 3000000) (hok : ∀ m, m ∈ l → m.Ok) (b : Bool) :
  ∀ H,CallOk E0 Tryz.prog 3 [.agg c.cells,slV b 6 (moC l)] H (.bool true) H:=by
 have kF:=c6 hok b
 have kC:=c7 hc
 have hT:=@trf_of l hok
 have hS:=@fewC_sm c
 obtain ⟨F,hF⟩:∃ F,F=QY l:=⟨_,rfl⟩
 obtain ⟨C,hC⟩:∃ C,C=Zoa c:=⟨_,rfl⟩
 rw [← hF] at kF hT
 rw [← hC] at kC hS
 have hfz:Zz [.agg c.cells,slV b 6 (moC l)]=some [.agg c.cells,slV b 6 (moC l)]:=by
  obtain ⟨an,ag,bn,bad⟩:=c
  simp only [Ca.cells,Zz,Yk];simp only [frzG,XS,ZC]
 have hsta:c.cells= [slV c.an 1 (Zp c.ag),slV c.bn 1 (Zp c.bad)]:=rfl
 cases F with
 | false =>
   rw [hsta] at hfz ⊢
   refine Jw tOk fe3.ok rfl ?_ hfz
   repeat' first|refine Jk ?_|refine Jc (awakeOk _) ?_|refine Jc (kF _) ?_|refine Jt ?_|refine Jo ?_|fail
   all_goals rfl
 | true =>
   cases C with
   | false =>
     rw [hsta] at hfz kC ⊢
     refine Jw tOk fe3.ok rfl ?_ hfz
     repeat' first|(apply qCl;rfl;rfl;rfl;rfl;first|exact awakeOk _|exact kF _|exact kC _)|refine Jt ?_|refine Jo ?_|fail
     all_goals rfl
   | true =>
     have hT:=hT rfl
     have hS:=hS rfl
     have k1:=c9 (l:=l) (by have:=hT.n;omega) b
     have k2:=c8 hS hT b
     have k3:=c10 hS hT b
     obtain ⟨s1,s2⟩:=Zl1 hS hT
     have n1:=Znd (knP c l).2 (knR c l).2
     rw [decide_eq_true s1] at n1
     have o1:=ZnL hS hT
     have o2:=ZnZ hS hT
     have k4:=Zn5 o1.1 o2 o1.2 s2 true true
     generalize (knP c l).1=A1 at k2 k4
     generalize (knP c l).2=A2 at k2 n1
     generalize (knR c l).1=B1 at k3 k4
     generalize (knR c l).2=B2 at k3 n1
     rw [hsta] at hfz kC k2 k3 ⊢
     refine Jw tOk fe3.ok rfl ?_ hfz
     repeat' first|(apply qCl;rfl;rfl;rfl;rfl;first|exact awakeOk _|exact kF _|exact kC _|exact k3 _|exact k4 _)|refine Ji ?_|refine Jt ?_|refine Jo ?_|refine Jd (k1 _) ?_|refine Jd (k2 _) ?_|refine Jh ?_|(apply Wp.draw tOk follows;kernel_rfl)|fail
     all_goals rfl
