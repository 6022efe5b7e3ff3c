/-
  Proofs as the document checks them: of inclusion and of an extension.
-/
import Derived.Test.YtjokjgoppbmaiaaGreatDoorGc
set_option maxHeartbeats 64000000
set_option maxRecDepth 100000
namespace Go.Vm.Seat
open Go.Proofs
theorem c82 {h t : Tm} (hh : h.Ok) (hhs : h.size ≤ 20000) (ht : t.Ok) (hts : t.size ≤ 20000) {l : List Tm} (hl : ∀ x, x ∈ l → x.Ok ∧ x.size ≤ 20000) (b : Bool) {n i : Int} (hn : (Lit.int .i64 n).wf = true) (hi : (Lit.int .i64 i).wf = true) : ∀ H,
  CallOk E0 Tryz.prog 82 [.agg h.cells,.int .i64 n,.int .i64 i,.agg t.cells,slV b 4 (cellsL l)] H (.bool (ckIncR h n i t l)) H:=by
 have hlen:=cellsL_length l
 by_cases hC:n < 1∨32 < n∨i < 0∨n≤i∨32 < l.length
 · unfold ckIncR
   rw [if_pos hC]
   have hfz:=frzCk h t n i b (cellsL l)
   obtain ⟨k,nm,s,tb,kids⟩:=h
   obtain ⟨k',nm',s',tb',kids'⟩:=t
   simp only [Tm.cells] at hfz ⊢
   refine κw tOk fe82.ok rfl ?_ hfz
   repeat' first | refine κn ?_ | refine κk ?_ | refine κl ?_ | refine κt ?_ | refine κb ?_ ?_ | refine κg ?_ | refine κa ?_ | refine κf ?_ | intro hb
   all_goals first
    | rfl
    | (exfalso;simp only [decide_eq_false_iff_not,hlen] at *;omega)
 · obtain ⟨n', rfl⟩ := Int.eq_ofNat_of_zero_le (show 0 ≤ n by omega)
   obtain ⟨i',rfl⟩:=Int.eq_ofNat_of_zero_le (show 0≤i by omega)
   have e0:∀ R,R=climbT 32 n' i' t l→ckIncR h n' i' t l=(R.2.2 && R.2.1.isEmpty && decide (R.1.cmp h=0)):=fun R hR=>by
    subst hR
    unfold ckIncR
    rw [if_neg hC]
    rfl
   obtain ⟨b',hr⟩:=c165 32 (n:=n') (by omega) (by omega) (by omega) i' (by omega) t l b
   have hk:=inc_climb 32 n' i' t l (by omega) (by omega)
   obtain ⟨x1,x2, -⟩:=inc_okT (S:=20000) (by omega) ht hts 32 n' i' (p:=(l,false)) hl
   have hfz:=frzCk h t n' i' b (cellsL l)
   obtain ⟨R,hR⟩:∃ R,R=climbT 32 n' i' t l:=⟨_,rfl⟩
   rw [e0 R hR]
   rw [← hR] at hr hk
   clear e0 hR
   obtain ⟨x,q,f⟩:=R
   simp only [climbV] at hr hk ⊢
   generalize cellsL l=L at hr hlen hfz ⊢
   have h1:decide ((n':Int) < 1)=false:=by simp;omega
   have h2:decide ((32:Int) < (n':Int))=false:=by simp;omega
   have h3:decide ((i':Int) < 0)=false:=by simp
   have h4:decide ((n':Int)≤(i':Int))=false:=by simp;omega
   have h5:decide ((32:Int) < (L.length:Int))=false:=by simp;omega
   cases f with
   | false =>
     clear hk x1 x2
     obtain ⟨k,nm,s,tb,kids⟩:=h
     obtain ⟨k',nm',s',tb',kids'⟩:=t
     obtain ⟨k2,nm2,s2,tb2,kids2⟩:=x
     simp only [Tm.cells] at hr hfz ⊢
     refine κw tOk fe82.ok rfl ?_ hfz
     repeat' first | refine κn ?_ | refine κk ?_ | refine κc (hr _) ?_ | refine κl ?_ | refine κt ?_ | refine κb ?_ ?_ | refine κg ?_ | refine κa ?_ | refine κf ?_ | intro hb
     all_goals first
      | rfl
      | (exfalso;clear h1 h2 h3 h4 hr;simp only [decide_eq_true_eq,decide_eq_false_iff_not] at *;omega)
   | true =>
     simp only [if_true] at hk
     rw [hk] at x1 x2
     have hs:=c15 x1 hh (by omega) (by omega)
     simp only [] at hs
     clear hk x1 x2
     generalize decide (x.cmp h=0)=D at hs ⊢
     obtain ⟨k,nm,s,tb,kids⟩:=h
     obtain ⟨k',nm',s',tb',kids'⟩:=t
     obtain ⟨k2,nm2,s2,tb2,kids2⟩:=x
     simp only [Tm.cells] at hr hs hfz ⊢
     cases q with
     | nil =>
       simp only [cellsL] at hr
       cases b' <;> simp only [slV_nil_true,slV_nil_false] at hr <;> cases D
       all_goals
        refine κw tOk fe82.ok rfl ?_ hfz
        repeat' first | refine κn ?_ | refine κk ?_ | refine κc (hr _) ?_ | refine κc (hs _) ?_ | refine κl ?_ | refine κt ?_ | refine κb ?_ ?_ | refine κg ?_ | refine κa ?_ | refine κf ?_ | intro hb
       all_goals first
        | rfl
        | (exfalso;clear h1 h2 h3 h4 hr hs;simp only [decide_eq_true_eq,decide_eq_false_iff_not] at *;omega)
        | (exfalso;clear hfz hr hs;simp_all;done)
     | cons c r =>
       simp only [cellsL,slV_cons] at hr
       generalize cellsL r=L' at hr
       generalize c.cells=C at hr
       have h6:(((L'.length+1:Nat):Int) == 0)=false:=by simp;omega
       refine κw tOk fe82.ok rfl ?_ hfz
       repeat' first | refine κn ?_ | refine κk ?_ | refine κc (hr _) ?_ | refine κl ?_ | refine κt ?_ | refine κb ?_ ?_ | refine κg ?_ | refine κa ?_ | refine κf ?_ | intro hb
       all_goals first
        | rfl
        | (exfalso;clear h1 h2 h3 h4 hr hs;simp only [decide_eq_true_eq,decide_eq_false_iff_not] at *;omega)
        | (exfalso;clear hfz hr hs;simp_all;done)
def gCells (x y:Tm) (b:Bool) (L:List (List PV)) (f:Bool):List PV:=x.cells ++ (y.cells ++ [slV b 4 L,.bool f])
def growV (R:(Tm×Tm)×List Tm×Bool) (b:Bool):PV:= .agg (gCells R.1.1 R.1.2 b (cellsL R.2.1) R.2.2)
def zeroG:(Tm×Tm)×List Tm×Bool:=((.zero,.zero),[],false)
theorem zeroG_cells:growV zeroG true= .agg [.int .i64 0,.str [],.int .i64 0,.nils,.int .i64 0,.str [],.int .i64 0,.nils,.nils,.bool false]:=by
 unfold growV zeroG gCells
 simp only [zero_cells,cellsL,slV_nil_true]
 rfl
theorem frz3_gc (m:Nat) (H:Heap) (x y:Tm) (b:Bool) (L:List (List PV)) (f:Bool):frz3 m H (.agg (gCells x y b L f))=some (.agg (gCells x y b L f)):=by
 obtain ⟨k,nm,s,tb,kids⟩:=x
 obtain ⟨k',nm',s',tb',kids'⟩:=y
 simp only [gCells,Tm.cells,List.cons_append,List.nil_append]
 rw [frz3_agg]
 simp only [frzCL,frzC_slV]
 rfl
theorem frzGr (x:Tm) (n m:Int) (w b:Bool) (L:List (List PV)):frzGL [.agg x.cells,.int .i64 n,.int .i64 m,.bool w,slV b 4 L]=some [.agg x.cells,.int .i64 n,.int .i64 m,.bool w,slV b 4 L]:=by
 obtain ⟨k,nm,s,tb,kids⟩:=x
 simp only [Tm.cells]
 have e1:frzG (.agg [.int .i64 k,.str nm,.int .i64 s,slV tb 4 (cellsL kids)])=some (.agg [.int .i64 k,.str nm,.int .i64 s,slV tb 4 (cellsL kids)]):=by
  simp only [frzG,frzL,frz1_slV];rfl
 simp only [frzGL,frzG_slV,e1]
 rfl
theorem buildH (x y:Tm) (b:Bool) (L:List (List PV)) (f:Bool):aBuild E0 172 [(0,.agg x.cells),(1,.agg y.cells),(2,slV b 4 L),(3,.bool f)]=some (.agg (gCells x y b L f)):=by
 obtain ⟨k,nm,s,tb,kids⟩:=x
 obtain ⟨k',nm',s',tb',kids'⟩:=y
 simp only [gCells,Tm.cells,List.cons_append,List.nil_append]
 cases L <;> cases b <;> simp only [slV_nil_true,slV_nil_false,slV_cons] <;> rfl
def stepG (lf:Bool) (R:(Tm×Tm)×List Tm×Bool):(Tm×Tm)×List Tm×Bool:=match R.2.1 with
 | []=>zeroG
 | a :: l'=>if R.2.2=false then zeroG else if lf=true then ((R.1.1,nodeT R.1.2 a),l',true) else ((nodeT a R.1.1,nodeT a R.1.2),l',true)
theorem stepG_false (lf:Bool) (x:Tm×Tm) (q:List Tm):stepG lf (x,q,false)=zeroG:=by cases q <;> rfl
theorem c166 : ∀ (f : Nat) {n m : Nat}, m ≤ f → 1 ≤ n → n ≤ m → m ≤ 32 → ∀ (w : Bool) (old : Tm) (l : List Tm) (b : Bool), ∃ b', ∀ H,
  CallOk E0 Tryz.prog 166 [.agg old.cells,.int .i64 (n:Int),.int .i64 (m:Int),.bool w,slV b 4 (cellsL l)] H (growV (growT f old n m w l) b') H
 | 0,n,m,h,h1,h2,_=>by omega
 | f + 1, n, m, hm, h1, hnm, h32 => by
   intro w old l b
   have hch:=c216 h32
   have hhp:=half_pos m
   have hfz:=frzGr old n m w b (cellsL l)
   have hz:=zeroG_cells
   by_cases hn:n=m
   · have he := eql0_t (a := (n : Int)) (b := (m : Int)) (by omega)
     cases w with
     | true =>
       refine ⟨b,?_⟩
       have e:growT (f+1) old n m true l=((old,old),l,true):=by simp only [growT,hn,true_and,if_true]
       rw [e]
       have hbd:=buildH old old b (cellsL l) true
       have hfr:=frz3_gc 0 hNil old old b (cellsL l) true
       have hft:=fun m H=>frz3_gc m H old old b (cellsL l) true
       simp only [growV]
       generalize cellsL l=L at hfz hbd hfr hft ⊢
       obtain ⟨k,nm,s,tb,kids⟩:=old
       simp only [gCells,Tm.cells,List.cons_append,List.nil_append] at hfz hbd hfr hft ⊢
       refine κw tOk fe166.ok hfr ?_ hfz
       repeat' first | refine κn ?_ | refine κi ?_ | (apply qBd;rfl;rfl;rfl;assumption;exact IsV.aggN) | refine κt ?_ | refine κg ?_ | refine κa ?_ | refine κf ?_ | fail
       all_goals exact hft _ _
     | false =>
       cases l with
       | nil =>
         refine ⟨true,?_⟩
         have e:growT (f+1) old n m false []=zeroG:=by simp only [growT,hn,true_and,if_true,Bool.false_eq_true,if_false];rfl
         rw [e,hz]
         obtain ⟨k,nm,s,tb,kids⟩:=old
         simp only [cellsL,Tm.cells] at hfz ⊢
         cases b <;> simp only [slV_nil_true,slV_nil_false] at hfz ⊢
         all_goals
          refine κw tOk fe166.ok rfl ?_ hfz
          repeat' first | refine κn ?_ | refine κi ?_ | refine κt ?_ | refine κg ?_ | refine κa ?_ | refine κf ?_ | fail
         all_goals rfl
       | cons a r =>
         refine ⟨false,?_⟩
         have e:growT (f+1) old n m false (a :: r)=((a,a),r,true):=by simp only [growT,hn,true_and,if_true,Bool.false_eq_true,if_false]
         rw [e]
         have hbd:=buildH a a false (cellsL r) true
         have hfr:=frz3_gc 0 hNil a a false (cellsL r) true
         have hft:=fun m H=>frz3_gc m H a a false (cellsL r) true
         have hj:(cellsL (a :: r))[0]? = some a.cells:=rfl
         have ht:=tailT b a r
         have hln:(cellsL (a :: r)).length=r.length+1:=by simp [cellsL_length]
         simp only [growV]
         generalize cellsL (a :: r)=L at hfz hj ht hln ⊢
         obtain ⟨k,nm,s,tb,kids⟩:=old
         obtain ⟨k1,nm1,s1,tb1,kids1⟩:=a
         simp only [gCells,Tm.cells,List.cons_append,List.nil_append,slV_false] at hfz hbd hfr hft hj ⊢
         refine κw tOk fe166.ok hfr ?_ hfz
         repeat' first | refine κn ?_ | refine κi ?_ | refine κl ?_ | refine κt ?_ | refine κb ?_ ?_ | refine κg ?_ | (apply dSl;rfl;rfl;rfl;rfl;rfl;rfl;assumption;exact IsV.any _;rfl) | (apply dBd;rfl;rfl;rfl;assumption;exact IsV.aggN;rfl) | refine κI ?_ | refine κh ?_ | refine κa ?_ | (apply Wp.drawS tOk follows;kernel_rfl;rfl) | refine κf ?_ | intro hb
         all_goals first
          | exact hft _ _
          | (exfalso;rw [hln] at hb;simp at hb;omega)
   · have he := eql0_f (a := (n : Int)) (b := (m : Int)) (by omega)
     have hhl:=half_lt (n:=m) (by omega)
     by_cases hlt:n≤halfN m
     · have hb1 := leq0_t (a := (n : Int)) (b := (halfN m : Int)) (by omega)
       obtain ⟨b1,hr⟩:=c166 f (n:=n) (m:=halfN m) (by omega) h1 hlt (by omega) w old l b
       have e:growT (f+1) old n m w l=stepG true (growT f old n (halfN m) w l):=by
        simp only [growT,hn,false_and,if_false,if_pos hlt]
        rfl
       rw [e]
       clear e
       generalize growT f old n (halfN m) w l=R at hr ⊢
       obtain ⟨⟨x,y⟩,q,ok⟩:=R
       simp only [growV] at hr
       by_cases hgo:ok=true∧q≠ []
       · obtain ⟨rfl, hq⟩ := hgo
         obtain ⟨a,r,rfl⟩:∃ a r,q=a :: r:=by cases q with | nil=>exact absurd rfl hq | cons a r=>exact ⟨a,r,rfl⟩
         refine ⟨false,?_⟩
         show ∀ H,CallOk E0 Tryz.prog _ _ H (growV ((x,nodeT y a),r,true) false) H
         have hN:=c217 y a
         have hj:(cellsL (a :: r))[0]? = some a.cells:=rfl
         have ht:=tailT b1 a r
         have hln:(cellsL (a :: r)).length=r.length+1:=by simp [cellsL_length]
         have hfr:=frz3_gc 0 hNil x (nodeT y a) false (cellsL r) true
         have hft:=fun m H=>frz3_gc m H x (nodeT y a) false (cellsL r) true
         simp only [growV]
         generalize cellsL (a :: r)=L at hr hj ht hln
         generalize nodeT y a=R at hN hfr hft ⊢
         obtain ⟨k,nm,s,tb,kids⟩:=old
         obtain ⟨k1,nm1,s1,tb1,kids1⟩:=a
         obtain ⟨k2,nm2,s2,tb2,kids2⟩:=x
         obtain ⟨k3,nm3,s3,tb3,kids3⟩:=y
         obtain ⟨k4,nm4,s4,tb4,kids4⟩:=R
         simp only [gCells,Tm.cells,List.cons_append,List.nil_append,slV_false] at hfz hfr hft hj hr hN ⊢
         refine κw tOk fe166.ok hfr ?_ hfz
         repeat' first | refine κn ?_ | refine κk ?_ | (apply qCl;rfl;rfl;rfl;rfl;first | exact hch _ | exact hr _ | exact hN _) | refine κS ?_ | refine κi ?_ | refine κl ?_ | refine κx ?_ | refine κt ?_ | refine κg ?_ | refine κa ?_ | (apply Wp.cond;rfl) | refine κf ?_ | intro hb
         all_goals first
          | exact hft _ _
          | (exfalso;rw [hln] at hb;simp at hb;omega)
       · refine ⟨true, ?_⟩
         have e:stepG true ((x,y),q,ok)=zeroG:=by
          cases ok with
          | false=>exact stepG_false _ _ _
          | true => cases q with
            | nil=>rfl
            | cons a r=>exact absurd ⟨rfl,by simp⟩ hgo
         rw [e,hz]
         obtain ⟨k,nm,s,tb,kids⟩:=old
         obtain ⟨k2,nm2,s2,tb2,kids2⟩:=x
         obtain ⟨k3,nm3,s3,tb3,kids3⟩:=y
         simp only [gCells,Tm.cells,List.cons_append,List.nil_append] at hfz hr ⊢
         cases ok with
         | false =>
           refine κw tOk fe166.ok rfl ?_ hfz
           repeat' first | refine κn ?_ | refine κk ?_ | refine κc (hch _) ?_ | refine κc (hr _) ?_ | refine κi ?_ | refine κt ?_ | refine κg ?_ | refine κa ?_ | refine κf ?_ | fail
           all_goals rfl
         | true =>
           obtain rfl:q= []:=Classical.byContradiction fun h=>hgo ⟨rfl,h⟩
           simp only [cellsL] at hr
           cases b1 <;> simp only [slV_nil_true,slV_nil_false] at hr
           all_goals
            refine κw tOk fe166.ok rfl ?_ hfz
            repeat' first | refine κn ?_ | refine κk ?_ | refine κc (hch _) ?_ | refine κc (hr _) ?_ | refine κi ?_ | refine κt ?_ | refine κg ?_ | refine κa ?_ | refine κf ?_ | fail
           all_goals rfl
     · have hb1 := leq0_f (a := (n : Int)) (b := (halfN m : Int)) (by omega)
       have s1':=sub0 (a:=n) (b:=halfN m) (by omega) (by omega)
       have s2':=sub0 (a:=m) (b:=halfN m) (by omega) (by omega)
       obtain ⟨b1,hr⟩:=c166 f (n:=n - halfN m) (m:=m - halfN m) (by omega) (by omega) (by omega) (by omega) false old l b
       have e:growT (f+1) old n m w l=stepG false (growT f old (n - halfN m) (m - halfN m) false l):=by
        simp only [growT,hn,false_and,if_false,if_neg hlt]
        rfl
       rw [e]
       clear e
       generalize growT f old (n - halfN m) (m - halfN m) false l=R at hr ⊢
       obtain ⟨⟨x,y⟩,q,ok⟩:=R
       simp only [growV] at hr
       by_cases hgo:ok=true∧q≠ []
       · obtain ⟨rfl, hq⟩ := hgo
         obtain ⟨a,r,rfl⟩:∃ a r,q=a :: r:=by cases q with | nil=>exact absurd rfl hq | cons a r=>exact ⟨a,r,rfl⟩
         refine ⟨false,?_⟩
         show ∀ H,CallOk E0 Tryz.prog _ _ H (growV ((nodeT a x,nodeT a y),r,true) false) H
         have hN1:=c217 a x
         have hN2:=c217 a y
         have hj:(cellsL (a :: r))[0]? = some a.cells:=rfl
         have ht:=tailT b1 a r
         have hln:(cellsL (a :: r)).length=r.length+1:=by simp [cellsL_length]
         have hfr:=frz3_gc 0 hNil (nodeT a x) (nodeT a y) false (cellsL r) true
         have hft:=fun m H=>frz3_gc m H (nodeT a x) (nodeT a y) false (cellsL r) true
         simp only [growV]
         generalize cellsL (a :: r)=L at hr hj ht hln
         generalize nodeT a x=R at hN1 hfr hft ⊢
         generalize nodeT a y=R' at hN2 hfr hft ⊢
         obtain ⟨k,nm,s,tb,kids⟩:=old
         obtain ⟨k1,nm1,s1,tb1,kids1⟩:=a
         obtain ⟨k2,nm2,s2,tb2,kids2⟩:=x
         obtain ⟨k3,nm3,s3,tb3,kids3⟩:=y
         obtain ⟨k4,nm4,s4,tb4,kids4⟩:=R
         obtain ⟨k5,nm5,s5,tb5,kids5⟩:=R'
         simp only [gCells,Tm.cells,List.cons_append,List.nil_append,slV_false] at hfz hfr hft hj hr hN1 hN2 ⊢
         refine κw tOk fe166.ok hfr ?_ hfz
         repeat' first | refine κn ?_ | refine κk ?_ | (apply qCl;rfl;rfl;rfl;rfl;first | exact hch _ | exact hr _ | exact hN1 _ | exact hN2 _) | refine κS ?_ | refine κi ?_ | refine κl ?_ | refine κx ?_ | refine κt ?_ | refine κg ?_ | refine κa ?_ | (apply Wp.cond;rfl) | refine κf ?_ | intro hb
         all_goals first
          | exact hft _ _
          | (exfalso;rw [hln] at hb;simp at hb;omega)
       · refine ⟨true, ?_⟩
         have e:stepG false ((x,y),q,ok)=zeroG:=by
          cases ok with
          | false=>exact stepG_false _ _ _
          | true => cases q with
            | nil=>rfl
            | cons a r=>exact absurd ⟨rfl,by simp⟩ hgo
         rw [e,hz]
         obtain ⟨k,nm,s,tb,kids⟩:=old
         obtain ⟨k2,nm2,s2,tb2,kids2⟩:=x
         obtain ⟨k3,nm3,s3,tb3,kids3⟩:=y
         simp only [gCells,Tm.cells,List.cons_append,List.nil_append] at hfz hr ⊢
         cases ok with
         | false =>
           refine κw tOk fe166.ok rfl ?_ hfz
           repeat' first | refine κn ?_ | refine κk ?_ | refine κc (hch _) ?_ | refine κc (hr _) ?_ | refine κi ?_ | refine κt ?_ | refine κg ?_ | refine κa ?_ | refine κf ?_ | fail
           all_goals rfl
         | true =>
           obtain rfl:q= []:=Classical.byContradiction fun h=>hgo ⟨rfl,h⟩
           simp only [cellsL] at hr
           cases b1 <;> simp only [slV_nil_true,slV_nil_false] at hr
           all_goals
            refine κw tOk fe166.ok rfl ?_ hfz
            repeat' first | refine κn ?_ | refine κk ?_ | refine κc (hch _) ?_ | refine κc (hr _) ?_ | refine κi ?_ | refine κt ?_ | refine κg ?_ | refine κa ?_ | refine κf ?_ | fail
           all_goals rfl
end Go.Vm.Seat
