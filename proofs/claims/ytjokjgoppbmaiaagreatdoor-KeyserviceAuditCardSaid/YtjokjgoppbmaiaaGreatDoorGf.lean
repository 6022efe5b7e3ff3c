/-
  Proofs of an extension as the document checks them; lists of terms, readers and answers that are equal or small. Readers of a service: their validity, in the program and in the document.
-/
import Derived.Test.YtjokjgoppbmaiaaGreatDoorGd
set_option maxHeartbeats 64000000
set_option maxRecDepth 100000
namespace Go.Vm.Seat
open Go.Proofs
theorem grow_ok {S : Nat} (hS : 1 ≤ S) {old : Tm} (ho : old.Ok) (hos : old.size ≤ S) {n m : Nat} (h1 : 1 ≤ n) (h2 : n ≤ m) (h32 : m ≤ 32) {l : List Tm} (hl : ∀ x, x ∈ l → x.Ok ∧ x.size ≤ S) (hk : (growT 32 old n m true l).2.2 = true) :
  ((growT 32 old n m true l).1.1.Ok∧(growT 32 old n m true l).1.1.size≤33 * (S+4))∧((growT 32 old n m true l).1.2.Ok∧(growT 32 old n m true l).1.2.size≤33 * (S+4)):=by
 have e:=ext_grow 32 n m true old l (by omega) h1 h2
 rw [if_pos hk] at e
 have:=ext_okT hS ho hos 32 n m true (p:=(l,false)) hl
 rw [e] at this
 exact ⟨this.1,this.2.1⟩
theorem c83 {old h : Tm} (ho : old.Ok) (hos : old.size ≤ 20000) (hh : h.Ok) (hhs : h.size ≤ 20000) {l : List Tm} (hl : ∀ x, x ∈ l → x.Ok ∧ x.size ≤ 20000) (b : Bool) {n m : Int} (hn : (Lit.int .i64 n).wf = true) (hm : (Lit.int .i64 m).wf = true) : ∀ H,
  CallOk E0 Tryz.prog 83 [.agg old.cells,.int .i64 n,.agg h.cells,.int .i64 m,slV b 4 (cellsL l)] H (.bool (ckExtR old n h m l)) H:=by
 have hlen:=cellsL_length l
 by_cases hC:m < 1∨32 < m∨n < 1∨m < n∨32 < l.length
 · unfold ckExtR
   rw [if_pos hC]
   have hfz:=frzCe old h n m b (cellsL l)
   obtain ⟨k,nm,s,tb,kids⟩:=old
   obtain ⟨k',nm',s',tb',kids'⟩:=h
   simp only [Tm.cells] at hfz ⊢
   refine κw tOk fe83.ok rfl ?_ hfz
   repeat' first | refine κn ?_ | refine κk ?_ | refine κl ?_ | refine κt ?_ | refine κb ?_ ?_ | refine κg ?_ | refine κa ?_ | refine κf ?_ | intro hb
   all_goals first
    | rfl
    | (exfalso;simp only [decide_eq_false_iff_not,hlen] at *;omega)
 · obtain ⟨n', rfl⟩ := Int.eq_ofNat_of_zero_le (show 0 ≤ n by omega)
   obtain ⟨m',rfl⟩:=Int.eq_ofNat_of_zero_le (show 0≤m by omega)
   have e0:∀ R,R=growT 32 old n' m' true l→ckExtR old n' h m' l=(R.2.2 && R.2.1.isEmpty && decide (R.1.1.cmp old=0) && decide (R.1.2.cmp h=0)):=fun R hR=>by
    subst hR
    unfold ckExtR
    rw [if_neg hC]
    rfl
   obtain ⟨b',hr⟩:=c166 32 (n:=n') (m:=m') (by omega) (by omega) (by omega) (by omega) true old l b
   have hk:=grow_ok (S:=20000) (by omega) ho hos (n:=n') (m:=m') (by omega) (by omega) (by omega) hl
   have hfz:=frzCe old h n' m' b (cellsL l)
   obtain ⟨R,hR⟩:∃ R,R=growT 32 old n' m' true l:=⟨_,rfl⟩
   rw [e0 R hR]
   rw [← hR] at hr hk
   clear e0 hR
   obtain ⟨⟨x,y⟩,q,f⟩:=R
   simp only [growV] at hr hk ⊢
   generalize cellsL l=L at hr hlen hfz ⊢
   have h1:decide ((m':Int) < 1)=false:=by simp;omega
   have h2:decide ((32:Int) < (m':Int))=false:=by simp;omega
   have h3:decide ((n':Int) < 1)=false:=by simp;omega
   have h4:decide ((m':Int) < (n':Int))=false:=by simp;omega
   have h5:decide ((32:Int) < (L.length:Int))=false:=by simp;omega
   cases f with
   | false =>
     clear hk
     obtain ⟨k,nm,s,tb,kids⟩:=old
     obtain ⟨k',nm',s',tb',kids'⟩:=h
     obtain ⟨k2,nm2,s2,tb2,kids2⟩:=x
     obtain ⟨k3,nm3,s3,tb3,kids3⟩:=y
     simp only [gCells,Tm.cells,List.cons_append,List.nil_append] at hr hfz ⊢
     refine κw tOk fe83.ok rfl ?_ hfz
     repeat' first | refine κn ?_ | refine κk ?_ | refine κc (hr _) ?_ | refine κl ?_ | refine κt ?_ | refine κb ?_ ?_ | refine κg ?_ | refine κa ?_ | refine κf ?_ | intro hb
     all_goals first
      | rfl
      | (exfalso;clear h1 h2 h3 h4 hr;simp only [decide_eq_true_eq,decide_eq_false_iff_not] at *;omega)
   | true =>
     obtain ⟨⟨x1,x2⟩,y1,y2⟩:=hk rfl
     have hs1:=c15 x1 ho (by omega) (by omega)
     have hs2:=c15 y1 hh (by omega) (by omega)
     clear hk x1 x2 y1 y2
     generalize decide (x.cmp old=0)=D at hs1 ⊢
     generalize decide (y.cmp h=0)=D' at hs2 ⊢
     obtain ⟨k,nm,s,tb,kids⟩:=old
     obtain ⟨k',nm',s',tb',kids'⟩:=h
     obtain ⟨k2,nm2,s2,tb2,kids2⟩:=x
     obtain ⟨k3,nm3,s3,tb3,kids3⟩:=y
     simp only [gCells,Tm.cells,List.cons_append,List.nil_append] at hr hs1 hs2 hfz ⊢
     cases q with
     | nil =>
       simp only [cellsL] at hr
       cases b' <;> simp only [slV_nil_true,slV_nil_false] at hr <;> cases D <;> cases D'
       all_goals
        refine κw tOk fe83.ok rfl ?_ hfz
        repeat' first | refine κn ?_ | refine κk ?_ | (apply qCl;rfl;rfl;rfl;rfl;first | exact hr _ | exact hs1 _ | exact hs2 _) | refine κl ?_ | refine κt ?_ | refine κb ?_ ?_ | refine κg ?_ | refine κa ?_ | refine κf ?_ | intro hb
       all_goals first
        | rfl
        | (exfalso;clear h1 h2 h3 h4 hr hs1 hs2;simp only [decide_eq_true_eq,decide_eq_false_iff_not] at *;omega)
        | (exfalso;clear hfz hr hs1 hs2;simp_all;done)
     | cons c r =>
       simp only [cellsL,slV_cons] at hr
       generalize cellsL r=L' at hr
       generalize c.cells=C at hr
       have h6:(((L'.length+1:Nat):Int) == 0)=false:=by simp;omega
       refine κw tOk fe83.ok rfl ?_ hfz
       repeat' first | refine κn ?_ | refine κk ?_ | refine κc (hr _) ?_ | refine κl ?_ | refine κt ?_ | refine κb ?_ ?_ | refine κg ?_ | refine κa ?_ | refine κf ?_ | intro hb
       all_goals first
        | rfl
        | (exfalso;clear h1 h2 h3 h4 hr hs1 hs2;simp only [decide_eq_true_eq,decide_eq_false_iff_not] at *;omega)
        | (exfalso;clear hfz hr hs1 hs2;simp_all;done)
end Go.Vm.Seat
namespace Go.Vm.Seat
open Go.Proofs
def RdOk (S:Nat) (c:Rd):Prop:=(c.svc.Ok∧c.svc.size≤S)∧(c.head.Ok∧c.head.size≤S)∧c.signed.Ok∧c.signed.size≤S
structure AnOk (a:An):Prop where
 e:a.entry.Ok
 h:a.head.Ok
 s:a.signed.Ok
 i:∀ t,t∈a.incl→t.Ok
 x:∀ t,t∈a.ext→t.Ok
 il:a.incl.length≤maxLen
 xl:a.ext.length≤maxLen
theorem zeroB_cells (k:Int) (nm:Bs) (s:Int) (b:Bool) (kids:List Tm):zeroB (.mk k nm s b kids)=(decide (k=0) && (decide (nm= []) && (decide (s=0) && decide (kids.length=0)))):=by
 unfold zeroB
 cases kids <;> cases nm <;> simp
 all_goals (by_cases h1:k=0 <;> by_cases h2:s=0 <;> simp [h1,h2])
theorem eqlS_t {a b:Bs} (h:a=b):aBin E0 .eql 9 (.str a) (.str b)=some (.bool true):=by
 show some (PV.bool (a == b))=_
 rw [h,beq_self_eq_true]
theorem eqlS_f {a b:Bs} (h:a≠b):aBin E0 .eql 9 (.str a) (.str b)=some (.bool false):=by
 show some (PV.bool (a == b))=_
 rw [beq_eq_false_iff_ne.2 h]
theorem neq0_t {a b:Int} (h:a≠b):aBin E0 .neq 3 (.int .i64 a) (.int .i64 b)=some (.bool true):=by
 show some (PV.bool (!(a == b)))=_
 rw [beq_eq_false_iff_ne.2 h]
 rfl
theorem neqS_t {a b:Bs} (h:a≠b):aBin E0 .neq 9 (.str a) (.str b)=some (.bool true):=by
 show some (PV.bool (!(a == b)))=_
 rw [beq_eq_false_iff_ne.2 h]
 rfl
theorem eqlL (l:List Tm):aBin E0 .eql 3 (.int .i64 ((cellsL l).length:Int)) (.int .i64 0)=some (.bool (decide (l.length=0))):=by
 show some (PV.bool (((cellsL l).length:Int) == 0))=_
 rw [cellsL_length]
 congr 2
 rw [Bool.eq_iff_iff]
 simp
theorem zeroP (t:Tm):∀ H,CallOk E0 Tryz.prog 86 [.agg t.cells] H (.bool (zeroB t)) H:=by
 obtain ⟨k,nm,s,b,kids⟩:=t
 rw [zeroB_cells]
 have hl:=eqlL kids
 simp only [Tm.cells]
 generalize decide (kids.length=0)=D at hl ⊢
 by_cases h1:k=0
 · rw [decide_eq_true h1]
   have e1:=eql0_t h1
   by_cases h2:nm= []
   · rw [decide_eq_true h2]
     have e2:=eqlS_t h2
     by_cases h3:s=0
     · rw [decide_eq_true h3]
       have e3:=eql0_t h3
       clear h1 h2 h3
       refine κw tOk fe86.ok rfl ?_
       repeat' first | refine κn ?_ | refine κi ?_ | refine κl ?_ | refine κt ?_ | refine κg ?_ | refine κa ?_ | refine κf ?_ | fail
       all_goals rfl
     · rw [decide_eq_false h3]
       have e3:=eql0_f h3
       refine κw tOk fe86.ok rfl ?_
       repeat' first | refine κn ?_ | refine κk ?_ | refine κi ?_ | refine κt ?_ | refine κg ?_ | refine κa ?_ | refine κf ?_ | fail
       all_goals rfl
   · rw [decide_eq_false h2]
     have e2:=eqlS_f h2
     refine κw tOk fe86.ok rfl ?_
     repeat' first | refine κn ?_ | refine κk ?_ | refine κi ?_ | refine κt ?_ | refine κg ?_ | refine κa ?_ | refine κf ?_ | fail
     all_goals rfl
 · rw [decide_eq_false h1]
   have e1:=eql0_f h1
   refine κw tOk fe86.ok rfl ?_
   repeat' first | refine κn ?_ | refine κk ?_ | refine κi ?_ | refine κt ?_ | refine κg ?_ | refine κa ?_ | refine κf ?_ | fail
   all_goals rfl
theorem zeroR (t:Tm):∀ H,CallOk E0 Tryz.prog 95 [.agg t.cells] H (.bool (zeroB t)) H:=by
 obtain ⟨k,nm,s,b,kids⟩:=t
 rw [zeroB_cells]
 have hl:=eqlL kids
 simp only [Tm.cells]
 generalize decide (kids.length=0)=D at hl ⊢
 by_cases h1:k=0
 · rw [decide_eq_true h1]
   have e1:=eql0_t h1
   by_cases h2:nm= []
   · rw [decide_eq_true h2]
     have e2:=eqlS_t h2
     by_cases h3:s=0
     · rw [decide_eq_true h3]
       have e3:=eql0_t h3
       clear h1 h2 h3
       refine κw tOk fe95.ok rfl ?_
       repeat' first | refine κn ?_ | refine κi ?_ | refine κl ?_ | refine κt ?_ | refine κg ?_ | refine κa ?_ | refine κf ?_ | fail
       all_goals rfl
     · rw [decide_eq_false h3]
       have e3:=eql0_f h3
       refine κw tOk fe95.ok rfl ?_
       repeat' first | refine κn ?_ | refine κk ?_ | refine κi ?_ | refine κt ?_ | refine κg ?_ | refine κa ?_ | refine κf ?_ | fail
       all_goals rfl
   · rw [decide_eq_false h2]
     have e2:=eqlS_f h2
     refine κw tOk fe95.ok rfl ?_
     repeat' first | refine κn ?_ | refine κk ?_ | refine κi ?_ | refine κt ?_ | refine κg ?_ | refine κa ?_ | refine κf ?_ | fail
     all_goals rfl
 · rw [decide_eq_false h1]
   have e1:=eql0_f h1
   refine κw tOk fe95.ok rfl ?_
   repeat' first | refine κn ?_ | refine κk ?_ | refine κi ?_ | refine κt ?_ | refine κg ?_ | refine κa ?_ | refine κf ?_ | fail
   all_goals rfl
end Go.Vm.Seat
