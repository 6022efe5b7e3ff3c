/-
  Proofs as the document reads them: of inclusion and of an extension.
-/
import Derived.Test.YtjokjgoppbmaiaaGreatDoorGb
set_option maxHeartbeats 64000000
set_option maxRecDepth 100000
namespace Go.Vm.Seat
open Go.Proofs
theorem frz3_climb (m:Nat) (H:Heap) (t:Tm) (b:Bool) (L:List (List PV)) (x:Bool):frz3 m H (.tup [.agg t.cells,slV b 4 L,.bool x])=some (.tup [.agg t.cells,slV b 4 L,.bool x]):=by
 have h:frz2 m H (.agg t.cells)=some (.agg t.cells):=frz3_cells m H t
 show (match frz2L m H [.agg t.cells,slV b 4 L,.bool x] with | some vs'=>some (PV.tup vs') | none=>none)=_
 simp only [frz2L,h,frz2_slV]
 rfl
def climbV (R:Tm×List Tm×Bool) (b:Bool):PV:= .tup [.agg R.1.cells,slV b 4 (cellsL R.2.1),.bool R.2.2]
theorem frz3_climbV (m:Nat) (H:Heap) (R:Tm×List Tm×Bool) (b:Bool):frz3 m H (climbV R b)=some (climbV R b):=frz3_climb _ _ _ _ _ _
theorem eql0_t {a b:Int} (h:a=b):aBin E0 .eql 3 (.int .i64 a) (.int .i64 b)=some (.bool true):=by
 show some (PV.bool (a == b))=_
 rw [h,beq_self_eq_true]
theorem eql0_f {a b:Int} (h:a≠b):aBin E0 .eql 3 (.int .i64 a) (.int .i64 b)=some (.bool false):=by
 show some (PV.bool (a == b))=_
 rw [beq_eq_false_iff_ne.2 h]
theorem leq0_t {a b:Int} (h:a≤b):aBin E0 .leq 3 (.int .i64 a) (.int .i64 b)=some (.bool true):=by
 show some (PV.bool (decide (a≤b)))=_
 rw [decide_eq_true h]
theorem leq0_f {a b:Int} (h:¬ a≤b):aBin E0 .leq 3 (.int .i64 a) (.int .i64 b)=some (.bool false):=by
 show some (PV.bool (decide (a≤b)))=_
 rw [decide_eq_false h]
theorem sub0 {a b:Nat} (h:b≤a) (h1:a≤9999):aBin E0 .sub 3 (.int .i64 (a:Int)) (.int .i64 (b:Int))=some (.int .i64 ((a - b:Nat):Int)):=by
 show some (PV.int .i64 (IntKind.i64.wrap ((a:Int) - (b:Int))))=_
 rw [IntWalk.i64_in _ (by omega)]
 congr 2
 omega
theorem frzCl (t:Tm) (n i:Int) (b:Bool) (L:List (List PV)):frzGL [.int .i64 n,.int .i64 i,.agg t.cells,slV b 4 L]=some [.int .i64 n,.int .i64 i,.agg t.cells,slV b 4 L]:=by
 obtain ⟨k,nm,s,tb,kids⟩:=t
 simp only [Tm.cells]
 have e1:frzG (.agg [.int .i64 k,.str nm,.int .i64 s,slV tb 4 (cellsL kids)])=some (.agg [.int .i64 k,.str nm,.int .i64 s,slV tb 4 (cellsL kids)]):=by
  simp only [frzG,frzL,frz1_slV];rfl
 simp only [frzGL,frzG_slV,e1]
 rfl
def stepC (lf:Bool) (R:Tm×List Tm×Bool):Tm×List Tm×Bool:=match R.2.1 with
 | []=>(R.1,[],false)
 | a :: l'=>if R.2.2=false then (R.1,a :: l',false) else if lf=true then (nodeT R.1 a,l',true) else (nodeT a R.1,l',true)
theorem stepC_false (lf:Bool) (x:Tm) (q:List Tm):stepC lf (x,q,false)=(x,q,false):=by cases q <;> rfl
theorem c165 : ∀ (f : Nat) {n : Nat}, n ≤ f → 1 ≤ n → n ≤ 32 → ∀ (i : Nat), i < n → ∀ (t : Tm) (l : List Tm) (b : Bool), ∃ b', ∀ H,
  CallOk E0 Tryz.prog 165 [.int .i64 (n:Int),.int .i64 (i:Int),.agg t.cells,slV b 4 (cellsL l)] H (climbV (climbT f n i t l) b') H
 | 0,n,h,h1,_=>by omega
 | f + 1, n, hm, h1, h32 => by
   intro i hi t l b
   have hcl:=c215 t
   have hch:=c216 h32
   have hhp:=half_pos n
   by_cases hn1:n=1
   · refine ⟨b, ?_⟩
     have he:=eql0_t (a:=(n:Int)) (b:=1) (by omega)
     have hfr:=frz3_climb 0 hNil (leafT t) b (cellsL l) true
     simp only [climbT,if_pos hn1,climbV]
     have hft:=fun m H=>frz3_climb m H (leafT t) b (cellsL l) true
     generalize leafT t=R at hcl hfr hft ⊢
     obtain ⟨k,nm,s,tb,kids⟩:=t
     obtain ⟨k1,nm1,s1,tb1,kids1⟩:=R
     simp only [Tm.cells] at hcl hfr hft ⊢
     refine κw tOk fe165.ok hfr ?_ (frzCl (.mk k nm s tb kids) _ _ _ _)
     repeat' first | refine κn ?_ | refine κc (hcl _) ?_ | refine κi ?_ | refine κt ?_ | refine κg ?_ | refine κa ?_ | refine κf ?_ | fail
     all_goals exact hft _ _
   · have hhl := half_lt (n := n) (by omega)
     have he:=eql0_f (a:=(n:Int)) (b:=1) (by omega)
     by_cases hlt:i < halfN n
     · have hb := lss_t (a := (i : Int)) (b := (halfN n : Int)) (by omega)
       obtain ⟨b1,hr⟩:=c165 f (n:=halfN n) (by omega) hhp (by omega) i hlt t l b
       have e:climbT (f+1) n i t l=stepC true (climbT f (halfN n) i t l):=by
        simp only [climbT,if_neg hn1,if_pos hlt]
        rfl
       rw [e]
       clear e hcl
       generalize climbT f (halfN n) i t l=R at hr ⊢
       obtain ⟨x,q,ok⟩:=R
       simp only [climbV] at hr
       cases ok with
       | false =>
         refine ⟨b1,?_⟩
         have hfr:=frz3_climbV 0 hNil (x,q,false) b1
         have hft:=fun m H=>frz3_climb m H x b1 (cellsL q) false
         simp only [climbV] at hfr
         rw [stepC_false]
         simp only [climbV]
         obtain ⟨k,nm,s,tb,kids⟩:=t
         obtain ⟨k2,nm2,s2,tb2,kids2⟩:=x
         simp only [Tm.cells] at hr hfr hft ⊢
         refine callOk_wp (own:=(fun d=>[30007].any (Nat.beq d))) tOk fe165.ok (frzCl (.mk k nm s tb kids) _ _ _ _) hfr ?_
         refine Wp.seq ?_
         repeat' first | refine κn ?_ | refine κk ?_ | refine κc (hch _) ?_ | refine κc (hr _) ?_ | refine κi ?_ | refine κt ?_ | refine κg ?_ | refine κa ?_ | refine κf ?_ | fail
         all_goals exact hft _ _
       | true =>
         cases q with
         | nil =>
           refine ⟨b1,?_⟩
           have hfr:=frz3_climbV 0 hNil (x,[],false) b1
           have hft:=fun m H=>frz3_climb m H x b1 (cellsL []) false
           show ∀ H,CallOk E0 Tryz.prog _ _ H (climbV (x,[],false) b1) H
           simp only [climbV] at hfr ⊢
           simp only [cellsL] at hr hfr hft ⊢
           obtain ⟨k,nm,s,tb,kids⟩:=t
           obtain ⟨k2,nm2,s2,tb2,kids2⟩:=x
           simp only [Tm.cells] at hr hfr hft ⊢
           cases b1 <;> simp only [slV_nil_true,slV_nil_false] at hr hfr hft ⊢
           all_goals
            refine κw tOk fe165.ok hfr ?_ (frzCl (.mk k nm s tb kids) _ _ _ _)
            repeat' first | refine κn ?_ | refine κc (hch _) ?_ | refine κc (hr _) ?_ | refine κi ?_ | refine κt ?_ | refine κg ?_ | refine κa ?_ | refine κf ?_ | fail
           all_goals exact hft _ _
         | cons a r =>
           refine ⟨false,?_⟩
           have hN:=c217 x a
           have hj:(cellsL (a :: r))[0]? = some a.cells:=rfl
           have ht:=tailT b1 a r
           have hln:(cellsL (a :: r)).length=r.length+1:=by simp [cellsL_length]
           have hfr:=frz3_climbV 0 hNil (nodeT x a,r,true) false
           have hft:=fun m H=>frz3_climb m H (nodeT x a) false (cellsL r) true
           have hlz:(((cellsL (a :: r)).length:Int) == 0)=false:=by rw [hln];simp;omega
           show ∀ H,CallOk E0 Tryz.prog _ _ H (climbV (nodeT x a,r,true) false) H
           simp only [climbV] at hfr ⊢
           rw [slV_false] at hfr hft ⊢
           generalize cellsL (a :: r)=L at hr hj ht hln hlz
           generalize nodeT x a=R at hN hfr hft ⊢
           obtain ⟨k,nm,s,tb,kids⟩:=t
           obtain ⟨k2,nm2,s2,tb2,kids2⟩:=x
           obtain ⟨k3,nm3,s3,tb3,kids3⟩:=a
           obtain ⟨k4,nm4,s4,tb4,kids4⟩:=R
           simp only [Tm.cells] at hr hj hN hfr hft ⊢
           refine κw tOk fe165.ok hfr ?_ (frzCl (.mk k nm s tb kids) _ _ _ _)
           repeat' first | refine κn ?_ | refine κc (hch _) ?_ | refine κc (hr _) ?_ | refine κi ?_ | refine κl ?_ | refine κt ?_ | refine κb ?_ ?_ | refine κg ?_ | refine κd (hN _) ?_ | (apply dSl;rfl;rfl;rfl;rfl;rfl;rfl;assumption;exact IsV.any _;rfl) | refine κI ?_ | (apply dT (ty:=4);rfl;rfl;rfl;rfl) | refine κh ?_ | refine κa ?_ | (apply Wp.drawS tOk follows;kernel_rfl;rfl) | refine κf ?_ | intro hb
           all_goals first
            | exact hft _ _
            | (exfalso;rw [hln] at hb;simp at hb;omega)
     · have hb := lss_f (a := (i : Int)) (b := (halfN n : Int)) (by omega)
       have s1:=sub0 (a:=n) (b:=halfN n) (by omega) (by omega)
       have s2:=sub0 (a:=i) (b:=halfN n) (by omega) (by omega)
       obtain ⟨b1,hr⟩:=c165 f (n:=n - halfN n) (by omega) (by omega) (by omega) (i - halfN n) (by omega) t l b
       have e:climbT (f+1) n i t l=stepC false (climbT f (n - halfN n) (i - halfN n) t l):=by
        simp only [climbT,if_neg hn1,if_neg hlt]
        rfl
       rw [e]
       clear e hcl
       generalize climbT f (n - halfN n) (i - halfN n) t l=R at hr ⊢
       obtain ⟨x,q,ok⟩:=R
       simp only [climbV] at hr
       cases ok with
       | false =>
         refine ⟨b1,?_⟩
         have hfr:=frz3_climbV 0 hNil (x,q,false) b1
         have hft:=fun m H=>frz3_climb m H x b1 (cellsL q) false
         simp only [climbV] at hfr
         rw [stepC_false]
         simp only [climbV]
         obtain ⟨k,nm,s,tb,kids⟩:=t
         obtain ⟨k2,nm2,s2',tb2,kids2⟩:=x
         simp only [Tm.cells] at hr hfr hft ⊢
         refine κw tOk fe165.ok hfr ?_ (frzCl (.mk k nm s tb kids) _ _ _ _)
         repeat' first | refine κn ?_ | refine κk ?_ | refine κc (hch _) ?_ | refine κc (hr _) ?_ | refine κi ?_ | refine κt ?_ | refine κg ?_ | refine κa ?_ | refine κf ?_ | fail
         all_goals exact hft _ _
       | true =>
         cases q with
         | nil =>
           refine ⟨b1,?_⟩
           have hfr:=frz3_climbV 0 hNil (x,[],false) b1
           have hft:=fun m H=>frz3_climb m H x b1 (cellsL []) false
           show ∀ H,CallOk E0 Tryz.prog _ _ H (climbV (x,[],false) b1) H
           simp only [climbV] at hfr ⊢
           simp only [cellsL] at hr hfr hft ⊢
           obtain ⟨k,nm,s,tb,kids⟩:=t
           obtain ⟨k2,nm2,s2',tb2,kids2⟩:=x
           simp only [Tm.cells] at hr hfr hft ⊢
           cases b1 <;> simp only [slV_nil_true,slV_nil_false] at hr hfr hft ⊢
           all_goals
            refine κw tOk fe165.ok hfr ?_ (frzCl (.mk k nm s tb kids) _ _ _ _)
            repeat' first | refine κn ?_ | refine κc (hch _) ?_ | refine κc (hr _) ?_ | refine κi ?_ | refine κt ?_ | refine κg ?_ | refine κa ?_ | refine κf ?_ | fail
           all_goals exact hft _ _
         | cons a r =>
           refine ⟨false,?_⟩
           have hN:=c217 a x
           have hj:(cellsL (a :: r))[0]? = some a.cells:=rfl
           have ht:=tailT b1 a r
           have hln:(cellsL (a :: r)).length=r.length+1:=by simp [cellsL_length]
           have hfr:=frz3_climbV 0 hNil (nodeT a x,r,true) false
           have hft:=fun m H=>frz3_climb m H (nodeT a x) false (cellsL r) true
           show ∀ H,CallOk E0 Tryz.prog _ _ H (climbV (nodeT a x,r,true) false) H
           simp only [climbV] at hfr ⊢
           rw [slV_false] at hfr hft ⊢
           generalize cellsL (a :: r)=L at hr hj ht hln
           generalize nodeT a x=R at hN hfr hft ⊢
           obtain ⟨k,nm,s,tb,kids⟩:=t
           obtain ⟨k2,nm2,s2',tb2,kids2⟩:=x
           obtain ⟨k3,nm3,s3,tb3,kids3⟩:=a
           obtain ⟨k4,nm4,s4,tb4,kids4⟩:=R
           simp only [Tm.cells] at hr hj hN hfr hft ⊢
           refine κw tOk fe165.ok hfr ?_ (frzCl (.mk k nm s tb kids) _ _ _ _)
           repeat' first | refine κn ?_ | refine κc (hch _) ?_ | refine κc (hr _) ?_ | refine κi ?_ | refine κl ?_ | refine κt ?_ | refine κb ?_ ?_ | refine κg ?_ | refine κd (hN _) ?_ | (apply dSl;rfl;rfl;rfl;rfl;rfl;rfl;assumption;exact IsV.any _;rfl) | refine κI ?_ | (apply dT (ty:=4);rfl;rfl;rfl;rfl) | refine κh ?_ | refine κa ?_ | (apply Wp.drawS tOk follows;kernel_rfl;rfl) | refine κf ?_ | intro hb
           all_goals first
            | exact hft _ _
            | (exfalso;rw [hln] at hb;simp at hb;omega)
end Go.Vm.Seat
