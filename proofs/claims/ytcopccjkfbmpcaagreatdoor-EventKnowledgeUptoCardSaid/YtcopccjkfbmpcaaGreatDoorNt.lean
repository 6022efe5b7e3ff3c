/-
  Sums in the second text: the summands of a term, the term of some summands.
-/
import Derived.Test.YtcopccjkfbmpcaaGreatDoorNn
set_option maxHeartbeats 0
set_option maxRecDepth 100000
namespace Go.Vm.Seat
open Go.Proofs
theorem ZlE {l:List Tm} {t:Tm} (hl:SmL l) (ht:t.Ok∧t.size≤100000):SmL (Zaz l t):=fun x hx=>by
 unfold Zaz at hx
 split at hx
 · exact hl x (List.mem_filter.1 hx).1
 · rcases Zex hx with h | h
   · exact hl x h
   · rw [h];exact ht
theorem Zji (l:List Tm) (t:Tm):(Zaz l t).length≤l.length+1:=by
 unfold Zaz
 split
 · exact Nat.le_succ_of_le (List.length_filter_le _ _)
 · exact Ze5 l t
theorem Zfl:∀ (b a:List Tm),SmL a→SmL b→SmL (Zal a b)
 | [],_,ha,_=>ha
 |t::r,a,ha,hb=>Zfl r (Zaz a t) (ZlE ha hb.head) hb.tail
theorem ZcY:∀ (b a:List Tm),(Zal a b).length≤a.length+b.length
 | [],_=>Nat.le_refl _
 | t :: r, a => by
   have h1:=ZcY r (Zaz a t)
   have h2:=Zji a t
   rw [List.length_cons]
   exact Nat.le_trans h1 (by omega)
theorem Zf3 {b:List Tm} {i:Nat} {x:Tm} (a:List Tm) (h:b[i]? = some x):Zal a (b.take (i+1))=Zaz (Zal a (b.take i)) x:=XF h
theorem Zrx {a b:List Tm} (ha:SmL a) (hb':SmL b) (hl:a.length+b.length≤100000) (ba bb:Bool):∀ H,CallOk E0 Tryz.prog 178 [slV ba 4 (Za a),slV bb 4 (Za b)] H (slV (!b.isEmpty) 4 (Za (Zal a b))) H:=by
 have hA0:ApV false 4 [] (.sl .full 4 []) [] 0:= .full [] _ _ rfl rfl
 obtain ⟨out',lv',nt',hap,hA', -⟩:=hA0.app Yd (.slV ba 4 (Za a)) (Zn _) (ZJ (by simp only [Zb,List.length_nil];omega) (by decide)) (ZL _)
 rw [List.nil_append] at hA'
 obtain ⟨tl,rfl⟩:=QK hA'
 refine Jw tOk fe178.ok (ZD _ _ _ _ _) ?_
 repeat' first|refine Js ?_|refine JA ?_|refine Jo ?_|fail
 refine Wp.while (fun m tm H => ∃ (i : Nat) (base : TM) (V : PV), i + m = b.length ∧ (i = 0 ∧ V = .sl tl 4 (Za a) ∨ 0 < i ∧ V = slV true 4 (Za (Zal a (b.take i)))) ∧
   tm=ovr base [(5,V),(1,slV bb 4 (Za b)),(6,.int .i64 (i:Int))]∧H=⟨[],0,lv',nt'⟩)
  (fun m tm H hI=>?_) b.length _ _ ⟨0,_,_,by omega,.inl ⟨rfl,rfl⟩,Zf ⟨rfl,rfl,rfl,trivial⟩,rfl⟩
 obtain ⟨i,base,V,hi,hV,rfl,rfl⟩:=hI
 by_cases hlt:i<b.length
 · obtain ⟨x, hx⟩ : ∃ x, b[i]? = some x := ⟨b[i], by simp⟩
   have hxs:=hb' x (List.mem_of_getElem? hx)
   have hsn:=Zf3 a hx
   have h1:=ZcY (b.take i) a
   rw [List.length_take] at h1
   have hct:∀ H,CallOk E0 Tryz.prog 195 [V,.agg x.cells] H (slV true 4 (Za (Zal a (b.take (i+1))))) H:=by
    rw [hsn]
    rcases hV with ⟨h0,rfl⟩|⟨_,rfl⟩
    · intro H
      have:=ZqL (l:=a) ha hxs (by omega) false H
      rw [h0,List.take_zero,show Zal a []=a from rfl]
      obtain ⟨k',nm',s',f',kz'⟩:=x
      simp only [Tm.cells,Z0] at this ⊢
      exact ZS this (by simp only [Zz,frzG,XS,ZC];rfl)
    · exact ZqL (Zfl _ _ ha fun t ht=>hb' t (List.mem_of_mem_take ht)) hxs (by omega) true
   obtain ⟨k',nm',s',f',kz'⟩:=x
   have hj:=Zk hx
   simp only [Tm.cells] at hct
   repeat' first|refine Jc (hct _) ?_|refine Jl ?_|refine Jx ?_|refine Jb ?_ ?_|refine Jo ?_|intro hb
   all_goals first
    | (exfalso;simp at hb;done)
    | (exfalso;simp only [Zb,decide_eq_false_iff_not] at hb;omega)
    | exact LoopI.go (m-1) (by omega) ⟨i+1,_,_,by omega,.inr ⟨by omega,rfl⟩,Zf ⟨rfl,rfl,Ze (Zd (n:=i+1) (by omega)),trivial⟩,rfl⟩
 · have e : i = b.length := by omega
   subst e
   repeat' first|refine Jl ?_|refine Jb ?_ ?_|refine Jo ?_|intro hb
   · exfalso;rw [Zb] at hb;simp at hb
   · rcases hV with ⟨h0, rfl⟩ | ⟨h0, rfl⟩
     · have e0 := List.length_eq_zero_iff.1 h0
       subst e0
       show _=some (slV false 4 (Za a))
       rw [Z0]
       rfl
     · rw [List.take_length]
       cases b with
       | nil=>exact absurd h0 (by simp)
       | cons y r=>exact ZD _ _ _ _ _
end Go.Vm.Seat
namespace Go.Vm
theorem Zas {l:List Tm} {i:Nat} {t:Tm} (h:l[i]? = some t):Xe (l.drop i)=if t.valid≠0 then t.valid else Xe (l.drop (i+1)):=by
 rw [Zu h];rfl
theorem Ug (a b:List Tm):Zl (a++b)=Zl a+Zl b:=by
 induction a with
 |nil=>simp [Zl]
 |cons x r ih=>simp only [List.cons_append,Zl,ih];omega
theorem Ud:∀ a b:List Tm,Zl (Z5 a b)≤Zl a+Zl b
 | [],b=>by rw [Z5,Zl];omega
 |x::a,[]=>by rw [Z5];omega
 | x :: a, y :: b => by
   have h1:=Ud a (y::b)
   have h2:=Ud (x::a) b
   have h3:=Ud a b
   rw [Z5]
   simp only [Zl] at *
   split
   · rw [Zl];omega
   · split
     · rw [Zl];omega
     · omega
termination_by a b=>a.length+b.length
mutual
theorem Zi7:∀ t:Tm,Zl t.sumP≤t.size
 | .mk k nm s b kz => by
   rw [Tm.sumP,Tm.size]
   split
   · simp only [Zl];omega
   · split
     · have := Uc kz []
       simp only [Zl] at this
       omega
     · simp only [Zl,Tm.size];omega
theorem Uc:∀ l o:List Tm,Zl (ZT l o)≤Zl o+Zl l
 | [],o=>by rw [ZT];omega
 | t :: r, o => by
   have h1:=Uc r (Z5 o t.sumP)
   have h2:=Ud o t.sumP
   have h3:=Zi7 t
   rw [ZT,Zl]
   omega
end
end Go.Vm
namespace Go.Vm.Seat
open Go.Proofs
theorem Zba (b:Bool) (el:List (List PV)):slV b 4 el= .nils∨∃ el',slV b 4 el= .sl .none 4 el':=by
 cases el with
 | nil => cases b with
   | true=>exact .inl (Zh 4)
   | false=>exact .inr ⟨[],Zx 4⟩
 |cons x r=>exact .inr ⟨x::r,Zm _ _ _ _⟩
theorem bs2 (b c:Bool) (l m:List (List PV)):Z1 E0 204 2 [(0,slV b 4 l),(1,slV c 4 m)]=some (1,[[slV b 4 l],[slV c 4 m]]):=by
 rcases Zba b l with e|⟨el,e⟩<;>rcases Zba c m with e'|⟨el',e'⟩<;>rw [e,e']<;>rfl
theorem Zrb (b:Bool) (l:List (List PV)):Z1 E0 204 2 [(0,slV b 4 l),(1,.nils)]=some (1,[[slV b 4 l],[.nils]]):=by
 have:=bs2 b true l []
 rwa [show slV true 4 ([]:List (List PV))= .nils from Zh 4] at this
theorem ZqQ {l:List Tm} (hl:SmL l) (hlen:l.length≤1000000) (b:Bool):∀ H,CallOk E0 Tryz.prog 214 [slV b 4 (Za l),.nils] H (.int .i64 (if 200<l.length then 3 else Xe l)) H:=by
 have hcat:=Zqe (a:=l) (b:=[]) (by simpa using hlen) b true
 rw [List.append_nil] at hcat
 have hcat:∀ H,CallOk E0 Tryz.prog 222 [.sl .full 1 [[slV b 4 (Za l)],[.nils]]] H (slV true 4 (Za l)) H:=fun H=>by
  have:=hcat H
  rw [show slV true 4 (Za [])= .nils from Zh 4] at this
  exact ZS this rfl
 have hV:∀ t,t∈l→∀ H,CallOk E0 Tryz.prog 46 [.agg t.cells] H (.int .i64 t.valid) H:=fun t ht=>c46 (hl t ht).1 (by have:=(hl t ht).2;omega)
 refine Jw tOk fe214.ok rfl ?_
 by_cases h2:200<l.length
 · rw [if_pos h2]
   repeat' first|refine Jl ?_|refine Jb ?_ ?_|refine Jo ?_|intro hb
   all_goals first
    | rfl
    | (exfalso;rw [Zb] at hb;simp only [decide_eq_false_iff_not] at hb;omega)
 · rw [if_neg h2]
   repeat' first|refine Jl ?_|refine Jb ?_ ?_|refine Jo ?_|intro hb
   · exfalso;rw [Zb] at hb;simp only [decide_eq_true_eq] at hb;omega
   apply qBs
   · rfl
   · rfl
   · rfl
   · exact Zrb b (Za l)
   · exact IsLL.n
   · simp only [Yi,XS,ZC];rfl
   repeat' first|refine Jc (hcat _) ?_|refine Jl ?_|refine Jo ?_|fail
   refine Wp.while (fun m tm H => ∃ (i : Nat) (base : TM), i + m = l.length ∧ Xe l = Xe (l.drop i) ∧
     tm=ovr base [(14,slV true 4 (Za l)),(15,.int .i64 (l.length:Int)),(16,.int .i64 (i:Int))]∧H=hNil)
    (fun m tm H hI=>Wp.drop ?_) l.length _ _ ⟨0,_,by omega,by rw [List.drop_zero],Zf ⟨rfl,Ze (by rw [Zb]),rfl,trivial⟩,rfl⟩
   obtain ⟨i,base,hi,hgo,rfl,rfl⟩:=hI
   rw [hgo]
   clear hb
   by_cases hlt:i<l.length
   · obtain ⟨t, ht⟩ : ∃ t, l[i]? = some t := ⟨l[i], by simp⟩
     have hc:=hV t (List.mem_of_getElem? ht)
     have hd:=Zas ht
     generalize t.valid=v at hc hd
     obtain ⟨k',nm',s',f',kz'⟩:=t
     have hj:=Zk ht
     simp only [Tm.cells] at hc
     by_cases hv:v=0
     · subst hv
       rw [if_neg (by simp)] at hd
       repeat' first|refine Jc (hc _) ?_|refine Jx ?_|refine Jt ?_|refine Jz ?_ ?_|refine Jo ?_|intro hb
       all_goals first
        | (exfalso;simp at hb<;>omega)
        | exact DropQ.go [(14, slV true 4 (Za l)), (15, .int .i64 (l.length : Int)), (16, .int .i64 ((i + 1 : Nat) : Int))] ⟨rfl, rfl, Ze (Zd (n := i + 1) (by omega)), trivial⟩
            (by simp [Zj,under]) rfl rfl (LoopI.go (m-1) (by omega) ⟨i+1,_,by omega,by rw [hd],rfl,rfl⟩)
     · rw [if_pos hv] at hd
       repeat' first|refine Jc (hc _) ?_|refine Jx ?_|refine Jb ?_ ?_|refine Jz ?_ ?_|refine Jo ?_|intro hb
       all_goals first
        | (exfalso;simp at hb<;>omega)
        | (exfalso;simp_all;done)
        | rw [hd]
   · have e : i = l.length := by omega
     subst e
     repeat' first|refine Jz ?_ ?_|refine Jo ?_|intro hb
     · exfalso;simp at hb
     · rw [List.drop_length]
       rfl
end Go.Vm.Seat
namespace Go.Vm
theorem ZhR (m:Bool) (l:List Tm):sumG m l=if (if 200<l.length then 3 else Xe l)≠0 then (.zero,if 200<l.length then 3 else Xe l) else if (sumT m (ZdB m (ZT l []))).valid≠0 then (.zero,3) else (sumT m (ZdB m (ZT l [])),0):=by
 unfold sumG
 by_cases h:200<l.length
 · rw [if_pos h,if_pos h,if_pos (by decide)]
 · rw [if_neg h,if_neg h]
theorem ZiH {l:List Tm} {f:Bool} (h:∀ x,x∈l→x.Ok) (hl:l.length≤1000000):(sumT f l).Ok:=cls_ok.sumT h hl
theorem ZcZ (f:Bool) (l:List Tm):(sumT f l).size≤1+Zl l:=by
 match l with
 | []=>simp [sumT,Tm.size,Zl]
 | [x]=>simp only [sumT,Zl];omega
 |x::y::r=>simp only [sumT,Tm.size];omega
end Go.Vm
namespace Go.Vm.Seat
open Go.Proofs
theorem Zo:Tm.zero.cells=zcT:=by
 show [PV.int .i64 0,.str [],.int .i64 0,slV true 4 (Za [])]=_
 rw [show slV true 4 (Za [])= .nils from Zh 4]
 rfl
theorem Yb (m:Nat) (H:Heap) (e:Int):frz3 m H (.tup [.agg zcT,.int .i64 e])=some (.tup [.agg zcT,.int .i64 e]):=rfl
theorem Zsy {l:List Tm} (hl:SmL l) (hs:Zl l≤100000) (b:Bool):∀ H,CallOk E0 Tryz.prog 207 [slV b 4 (Za l)] H (.tup [.agg (sumG true l).1.cells,.int .i64 (sumG true l).2]) H:=by
 have hlen:=Yt l
 have hR:=ZqQ hl (by omega) b
 rw [ZhR]
 generalize (if 200<l.length then (3:Int) else Xe l)=R at hR ⊢
 by_cases hR0:R≠0
 · rw [if_pos hR0]
   simp only [Zo]
   refine Jw tOk fe207.ok (Yb _ _ _) ?_
   repeat' first|refine Jc (hR _) ?_|refine Jl ?_|refine Jb ?_ ?_|refine Jo ?_|intro hb
   all_goals first
    | rfl
    | (exfalso;simp_all;done)
 · have hR0 : R = 0 := Classical.not_not.1 hR0
   subst hR0
   rw [if_neg (by simp)]
   have hP:SmL (ZT l []):=hl.sumL
   have hPs:=Uc l []
   have hPl:=Y6 l []
   simp only [Zl,List.length_nil,Nat.zero_add] at hPs hPl
   have hown:∀ H,CallOk E0 Tryz.prog 217 [slV true 4 (Za (ZT l []))] H (slV false 4 (Za (ZdB true (ZT l [])))) H:=Zr1 (Zl (ZT l [])+1) hP (by omega) (by omega) true
   have hQl:(ZdB true (ZT l [])).length≤1000000:=by rw [ZfE];omega
   have hV:∀ H,CallOk E0 Tryz.prog 46 [.agg (sumT true (ZdB true (ZT l []))).cells] H (.int .i64 (sumT true (ZdB true (ZT l []))).valid) H:=c46 (ZiH (ZiD cls_ok true _ fun x hx=>(hP x hx).1) hQl) (by
    have:=ZcZ true (ZdB true (ZT l []))
    have e:Zl (ZdB true (ZT l []))=Zl (ZT l []):=Ub _
    omega)
   generalize hQ:ZdB true (ZT l [])=Q at hown hV hQl ⊢
   obtain ⟨v,hv⟩:∃ v,v=(sumT true Q).valid:=⟨_,rfl⟩
   rw [← hv] at hV ⊢
   clear hv
   obtain ⟨U,e,hUe,hU1,hU2⟩:∃ (U:Tm) (e:Int),(if v≠0 then (Tm.zero,(3:Int)) else (sumT true Q,0))=(U,e)∧(v≠0→U= .zero∧e=3)∧(v=0→U=sumT true Q∧e=0):=by
    by_cases h:v≠0
    · exact ⟨_,_,by rw [if_pos h],fun _=>⟨rfl,rfl⟩,fun h'=>absurd h' h⟩
    · exact ⟨_,_,by rw [if_neg h],fun h'=>absurd h' h,fun _=>⟨rfl,rfl⟩⟩
   rw [hUe]
   show ∀ H,CallOk E0 Tryz.prog 207 _ H (.tup [.agg U.cells,.int .i64 e]) H
   have hfr:=ZK 0 hNil U e
   refine Jw tOk fe207.ok hfr ?_
   repeat' first|refine Jc (hR _) ?_|refine Jl ?_|refine Jt ?_|refine Jo ?_|fail
   refine Wp.while (fun m tm H => ∃ (i : Nat) (base : TM), i + m = l.length ∧
     tm=ovr base [(2,.ptr 0 4 0 0),(5,slV true 4 (Za (ZT (l.take i) []))),(15,slV b 4 (Za l)),(16,.int .i64 (l.length:Int)),(17,.int .i64 (i:Int))]∧H=⟨[.cells 4 [zcT]],0,[],0⟩)
    (fun m tm H hI=>Wp.drop ?_) l.length _ _ ⟨0,_,by omega,Zf ⟨rfl,(by simp only [List.take_zero,ZT,Za,Zh];rfl),rfl,Ze (by rw [Zb]),rfl,trivial⟩,rfl⟩
   obtain ⟨i,base,hi,rfl,rfl⟩:=hI
   clear hR
   have h1:=Y6 (l.take i) []
   have h2:=ZI l i
   simp only [List.length_nil] at h1
   by_cases hlt:i<l.length
   · obtain ⟨t', ht'⟩ : ∃ t', l[i]? = some t' := ⟨l[i], by simp⟩
     have hm:t'∈l:=List.mem_of_getElem? ht'
     have hle:=Z3 hm
     have hsn:=We [] ht'
     have h3:=Ux t'
     have hc:=ZrT (hl t' hm).1 (hl t' hm).2
     have hp:=ZqP (hl.take i).sumL (SmL.sum (hl t' hm).1 (hl t' hm).2) (by omega) true true
     rw [← hsn] at hp
     clear hV hown hfr hQ hPs hPl hQl hU1 hU2 hUe
     obtain ⟨k',nm',s',b',kz'⟩:=t'
     have hj:=Zk ht'
     simp only [Tm.cells] at hc
     repeat' first|refine Jc (hc _) ?_|refine Jc (hp _) ?_|refine Jx ?_|refine Jz ?_ ?_|refine Jo ?_|intro hb
     all_goals first
      | (exfalso;simp at hb<;>omega)
      | exact DropQ.go [(2, .ptr 0 4 0 0), (5, slV true 4 (Za (ZT (l.take (i + 1)) []))), (15, slV b 4 (Za l)), (16, .int .i64 (l.length : Int)), (17, .int .i64 ((i + 1 : Nat) : Int))] ⟨rfl, rfl, rfl, rfl, Ze (Zd (n := i + 1) (by omega)), trivial⟩
          (by simp [Zj,under]) rfl (by simp [YS,zcT,ZN,under]) (LoopI.go (m-1) (by omega) ⟨i+1,_,by omega,rfl,rfl⟩)
   · have e : i = l.length := by omega
     subst e
     rw [List.take_length]
     clear hi hlt h1 h2 hPs hPl hP hl hs hlen hQ
     clear hfr hUe
     match Q,hown,hV,hU2 with
     | [], hown, hV, hU2 =>
       simp only [sumT,Tm.cells,Za,Zh,Zx] at hown hV hU2 ⊢
       by_cases hv:v≠0
       · obtain ⟨rfl, rfl⟩ := hU1 hv
         repeat' first|refine Jc (hown _) ?_|refine Jc (hV _) ?_|refine Jt ?_|refine Jb ?_ ?_|refine Jz ?_ ?_|refine Jo ?_|intro hb
         all_goals first
          | (exfalso;simp at hb;done)
          | (exfalso;simp_all;done)
          | (simp only [Zo];rfl)
       · obtain ⟨rfl, rfl⟩ := hU2 (Classical.not_not.1 hv)
         repeat' first|refine Jc (hown _) ?_|refine Jc (hV _) ?_|refine Jt ?_|refine Jb ?_ ?_|refine Jz ?_ ?_|refine Jo ?_|intro hb
         all_goals first
          | (exfalso;simp at hb;done)
          | (exfalso;simp_all;done)
          | (simp only [Tm.cells,Za,Zh];rfl)
     | [x], hown, hV, hU2 =>
       simp only [sumT] at hV hU2
       simp only [Za,Zm] at hown
       have hfx:=fun m H=>ZK m H x 0
       by_cases hv:v≠0
       · obtain ⟨rfl, rfl⟩ := hU1 hv
         obtain ⟨k',nm',s',b',kz'⟩:=x
         simp only [Tm.cells] at hown hV
         repeat' first|refine Jc (hown _) ?_|refine Jc (hV _) ?_|refine Jt ?_|refine Jb ?_ ?_|refine Jz ?_ ?_|refine Jo ?_|intro hb
         all_goals first
          | (exfalso;simp at hb;done)
          | (exfalso;simp_all;done)
          | (simp only [Zo];rfl)
       · obtain ⟨rfl, rfl⟩ := hU2 (Classical.not_not.1 hv)
         obtain ⟨k',nm',s',b',kz'⟩:=U
         simp only [Tm.cells] at hown hV hfx ⊢
         repeat' first|refine Jc (hown _) ?_|refine Jc (hV _) ?_|refine Jt ?_|refine Jb ?_ ?_|refine Jz ?_ ?_|refine Jo ?_|intro hb
         all_goals first
          | (exfalso;simp at hb;done)
          | (exfalso;simp_all;done)
          | exact hfx _ _
     | x :: y :: r, hown, hV, hU2 =>
       simp only [sumT,Tm.cells] at hV hU2
       have e2:slV false 4 (Za (x::y::r))= .sl .none 4 (x.cells::y.cells::Za r):=Zm _ _ _ _
       rw [e2] at hown hV
       have hx1:X7 E0 .eql 3 (.int .i64 (Int.ofNat (x.cells::y.cells::Za r).length)) (.int .i64 0)=some (.bool false):=by
        show some (PV.bool (decide (_=_)))=_
        rw [decide_eq_false (by simp;omega)]
       have hx2:X7 E0 .eql 3 (.int .i64 (Int.ofNat (x.cells::y.cells::Za r).length)) (.int .i64 1)=some (.bool false):=by
        show some (PV.bool (decide (_=_)))=_
        rw [decide_eq_false (by simp;omega)]
       by_cases hv:v≠0
       · obtain ⟨rfl, rfl⟩ := hU1 hv
         repeat' first|refine Jc (hown _) ?_|refine Jc (hV _) ?_|refine Ji ?_|refine Jt ?_|refine Jb ?_ ?_|refine Jz ?_ ?_|refine Jo ?_|intro hb
         all_goals first
          | (exfalso;simp at hb;done)
          | (exfalso;simp_all;done)
          | (simp only [Zo];rfl)
       · obtain ⟨rfl, rfl⟩ := hU2 (Classical.not_not.1 hv)
         repeat' first|refine Jc (hown _) ?_|refine Jc (hV _) ?_|refine Ji ?_|refine Jt ?_|refine Jb ?_ ?_|refine Jz ?_ ?_|refine Jo ?_|intro hb
         all_goals first
          | (exfalso;simp at hb;done)
          | (exfalso;simp_all;done)
          | (simp only [Tm.cells,e2];rfl)
end Go.Vm.Seat
namespace Go.Vm
def flX (kz:List Tm):Bool:=match kz.getLast? with
 |none=>true
 |some u=> !u.sumP.isEmpty
def Tm.sumFl:Tm→Bool
 | .mk k nm _ _ kz=>if k=3∧nm=WU∧kz= [] then true else if k=3∧nm=Za9 then flX kz else true
theorem ZeE {l:List Tm} {i:Nat} {t:Tm} (h:l[i]? = some t):flX (l.take (i+1))= !t.sumP.isEmpty:=by
 have e:l.take (i+1)=l.take i++ [t]:=by rw [List.take_add_one,h];rfl
 unfold flX
 rw [e]
 simp
end Go.Vm
namespace Go.Vm.Seat
variable {t:Tm}
open Go.Proofs
theorem Znp {a:List Tm} (ha:SmL a) (hA:Asc a) (ht:t.Ok∧t.size≤100000) (hl:a.length+t.sumP.length≤100000) (ba bb:Bool):∀ H,CallOk E0 Tryz.prog 178 [slV ba 4 (Za a),slV bb 4 (Za t.sumP)] H (slV (!t.sumP.isEmpty) 4 (Za (Z5 a t.sumP))) H:=by
 have:=Zrx ha (SmL.sum ht.1 ht.2) hl ba bb
 rwa [Zag _ _ hA (ZbR t)] at this
theorem ZsP (ht:t.Ok):t.size≤100000→∀ H,CallOk E0 Tryz.prog 179 [.agg t.cells] H (slV t.sumFl 4 (Za t.sumP)) H:=by
 induction ht with
 | @mk k nm s b kz hk hs hn hl hok ih=>
 intro hsz
 simp only [Tm.size] at hsz
 refine ZU (own:=fun _=>false) tOk fe179.ok (by simp [Zz,frzG,Tm.cells,Xr]) (ZD _ _ _ _ _) ?_
 by_cases hx:k=3∧nm=Za9
 · obtain ⟨rfl, rfl⟩ := hx
   rw [Tm.sumP,if_neg (fun h=>absurd h.2.1 (by decide)),if_pos ⟨rfl,rfl⟩,Tm.sumFl,if_neg (fun h=>absurd h.2.1 (by decide)),if_pos ⟨rfl,rfl⟩]
   simp only [Tm.cells,Za9]
   have hkl:=Yt kz
   have hkid:SmL kz:=fun t ht=>⟨hok t ht,by have:=Z3 ht;omega⟩
   refine Wp.seq ?_
   repeat' first|refine Jk ?_|refine Jt ?_|refine Jo ?_|fail
   refine Wp.while (fun m tm H => ∃ (i : Nat) (base : TM), i + m = kz.length ∧
     tm=ovr base [(1,.ptr 0 4 0 0),(3,slV (flX (kz.take i)) 4 (Za (ZT (kz.take i) []))),(4,.int .i64 (i:Int))]∧H=⟨[.cells 4 [[.int .i64 3,.str [120,111,114],.int .i64 s,slV b 4 (Za kz)]]],0,[],0⟩)
    (fun m tm H hI=>?_) kz.length _ _ ⟨0,_,by omega,Zf ⟨rfl,(by rw [List.take_zero];simp only [ZT,Za,flX,List.getLast?_nil,Zh];rfl),rfl,trivial⟩,rfl⟩
   obtain ⟨i,base,hi,rfl,rfl⟩:=hI
   have h1:=Y6 (kz.take i) []
   have h2:=ZI kz i
   simp only [List.length_nil] at h1
   by_cases hlt:i<kz.length
   · obtain ⟨t', ht'⟩ : ∃ t', kz[i]? = some t' := ⟨kz[i], by simp⟩
     have hm:t'∈kz:=List.mem_of_getElem? ht'
     have hle:=Z3 hm
     have hsn:=We [] ht'
     have hfl:=ZeE ht'
     have h3:=Ux t'
     have h4:=ZI kz (i+1)
     have h5:Zl (kz.take (i+1))=Zl (kz.take i)+t'.size:=by
      rw [List.take_add_one,ht',Ug]
      simp [Zl]
     have hc:=ih t' hm (by omega)
     have hp:=Znp (hkid.take i).sumL (Qu (kz.take i) [] trivial) (hkid t' hm) (by omega) (flX (kz.take i)) t'.sumFl
     rw [← hsn, ← hfl] at hp
     obtain ⟨k',nm',s',b',kz'⟩:=t'
     have hj:=Zk ht'
     simp only [Tm.cells] at hc
     clear ih
     repeat' first|refine Jc (hc _) ?_|refine Jc (hp _) ?_|refine Jl ?_|refine Jx ?_|refine Jb ?_ ?_|refine Jo ?_|intro hb
     all_goals first
      | (exfalso;simp at hb;done)
      | (exfalso;simp only [Zb,decide_eq_false_iff_not] at hb;omega)
      | exact LoopI.go (m-1) (by omega) ⟨i+1,_,by omega,Zf ⟨rfl,rfl,Ze (Zd (n:=i+1) (by omega)),trivial⟩,rfl⟩
   · have e : i = kz.length := by omega
     subst e
     clear ih
     repeat' first|refine Jl ?_|refine Jb ?_ ?_|refine Jo ?_|intro hb
     · exfalso;rw [Zb] at hb;simp at hb
     · rw [List.take_length]
       exact ZD _ _ _ _ _
 · rw [Tm.sumP, Tm.sumFl]
   by_cases hz:k=3∧nm=WU∧kz= []
   · obtain ⟨rfl, rfl, rfl⟩ := hz
     rw [if_pos ⟨rfl,rfl,rfl⟩,if_pos ⟨rfl,rfl,rfl⟩]
     simp only [Tm.cells,WU]
     refine Wp.seq ?_
     cases b
     all_goals
      repeat' first|refine Jl ?_|refine Jt ?_|refine Jo ?_|fail
      simp only [Za,Zh]
      rfl
   · rw [if_neg hz, if_neg hx, if_neg hz, if_neg hx]
     have e:slV true 4 (Za [.mk k nm s b kz])= .sl .none 4 [[.int .i64 k,.str nm,.int .i64 s,slV b 4 (Za kz)]]:=Zm _ _ _ _
     rw [e]
     simp only [Tm.cells]
     refine Wp.seq ?_
     clear ih
     repeat' first|refine Jk ?_|refine Js ?_|refine Jl ?_|refine Jt ?_|refine Jb ?_ ?_|refine Jo ?_|intro hb
     all_goals first
      | rfl
      | (exfalso;simp_all [Za9,WU,Zb])
theorem ZrP:∀ H,CallOk E0 Tryz.prog 177 [] H (.agg (Tm.mk 3 WU 0 false []).cells) H:=by
 have ha:=ZkB WU (l:=[]) (by decide) true
 simp only [Tm.cells,Za,Zh,Zx,WU] at ha ⊢
 refine Jw tOk fe177.ok rfl ?_
 repeat' first|refine Jc (ha _) ?_|refine Jo ?_|fail
 all_goals rfl
theorem Zrt {l:List Tm} (hlen:l.length≤1000000) (b:Bool):∀ H,CallOk E0 Tryz.prog 180 [slV b 4 (Za l)] H (.agg (sumT false l).cells) H:=by
 have ha:=ZkB WU (l:=[]) (by decide) true
 match l,hlen with
 | [], _ =>
   simp only [sumT,Tm.cells,Za,Zh,Zx,WU] at ha ⊢
   cases b<;>simp only [Zh,Zx]
   all_goals
    refine Jw tOk fe180.ok rfl ?_
    repeat' first|refine Jc (ha _) ?_|refine Jt ?_|refine Jo ?_|fail
    all_goals rfl
 | [x], _ =>
   obtain ⟨k',nm',s',b',kz'⟩:=x
   simp only [sumT,Za,Zm,Tm.cells]
   refine Jw tOk fe180.ok (ZV _ _ _ _ _ _ _) ?_
   repeat' first|refine Jt ?_|refine Jo ?_|fail
   all_goals exact ZV _ _ _ _ _ _ _
 | x :: y :: r, hlen =>
   have hA0:ApV false 4 [] (.sl .full 4 []) [] 0:= .full [] _ _ rfl rfl
   obtain ⟨out',lv',nt',hap,hA', -⟩:=hA0.app Yd (.slV b 4 (Za (x::y::r))) (Zn _) (ZJ (by simp only [Zb,List.length_nil];omega) (by decide)) (ZL _)
   rw [List.nil_append] at hA'
   have hco:=Q3 hA' 3 Za9 0
   have hfr:=fun m H=>ZiX hA' m H 3 Za9 0
   have hlE:(Za (x::y::r)).length=r.length+2:=by rw [Zb];rfl
   have hc1:X7 E0 .eql 3 (.int .i64 ((Za (x::y::r)).length:Int)) (.int .i64 0)=some (.bool false):=by
    show some (PV.bool (decide (_=_)))=_
    rw [decide_eq_false (by rw [hlE];omega)]
   have hc2:X7 E0 .eql 3 (.int .i64 ((Za (x::y::r)).length:Int)) (.int .i64 1)=some (.bool false):=by
    show some (PV.bool (decide (_=_)))=_
    rw [decide_eq_false (by rw [hlE];omega)]
   simp only [sumT,Tm.cells]
   generalize Za (x::y::r)=L at hap hA' hco hfr hlE hc1 hc2 ⊢
   obtain ⟨tl,rfl⟩:=QK hA'
   simp only [Za9] at hco hfr ⊢
   refine Jw tOk fe180.ok (ZV _ _ _ _ _ _ _) ?_
   repeat' first|refine Js ?_|refine JA ?_|refine Ji ?_|refine Jl ?_|refine Jo ?_|fail
   all_goals exact hfr _ _
