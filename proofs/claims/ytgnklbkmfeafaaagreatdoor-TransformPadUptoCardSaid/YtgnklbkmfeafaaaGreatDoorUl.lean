/-
  Goals in their scope; the table of names: the program's text.
-/
import Derived.Test.YtgnklbkmfeafaaaGreatDoorUk
set_option maxHeartbeats 0
set_option maxRecDepth 100000
namespace Go.Vm.Seat
open Go.Proofs
theorem c65 {R N : List Zg} {l : List (Zg × Int)} (hR : R.length ≤ 100) (hN : ∀ s, kyB s l = ZP N s) (rn : Bool) {g : Gl} (hl : g.data.length ≤ 1000) (hd : ∀ t, t ∈ g.data → t.Ok) :
  CallOk E0 Tryz.prog 65 [Zb8 rn R 0,.agg g.cells] (HM (mpN l)) (.int .i64 (g.sce R N)) (HM (mpN l)):=by
 have ha:=ZeQ (l:=R) (by omega) g.role rn
 have hbu:ZS 1 (.map (mpN l))=true:=Xz _ _
 have c2:=fun e1=>(c63 (es:=mpN l) hR rn g.role g.wth).ext (ext:=e1) rfl (by simp [Zp,under,Zf]) (uM hbu) (Nat.le_refl _)
 obtain ⟨k,r,w,b,d,ln⟩:=g
 simp only [Gl.cells,Gl.sce] at ha c2 hl hd ⊢
 have hag:Za7 k=(decide (k=2)||decide (k=3)):=rfl
 have z2:=Z1 k 2
 have z3:=Z1 k 3
 have ag:argV (.agg [.int .i64 k,.str r,.str w,slV b 4 (Zb d),.int .i64 ln])= .agg [.int .i64 k,.str r,.str w,slV b 4 (Zb d),.int .i64 ln]:=by
  simp only [argV,List.map_cons,List.map_nil,UO];rfl
 refine Yh (own:=fun _=>false) tOk fe65.ok ?_
 simp only [List.map_cons,List.map_nil,Zd6,ag]
 refine Wp.seq ?_
 cases hA:ZP R r with
 | false =>
   rw [hA] at ha
   rw [if_pos rfl]
   repeat' first|refine Jk ?_|refine Jc (ha _) ?_|refine Ji ?_|refine JJ ?_|refine Jl ?_|refine Jx ?_|refine Jt ?_|refine Jb ?_ ?_|(apply qT (ty:=0);rfl;rfl;rfl)|(apply qF (ty:=0);rfl;rfl;rfl)|refine Jz ?_ ?_|refine Jo ?_|intro hb
   all_goals rfl
 |true=>
 rw [hA] at ha c2
 rw [if_neg (by simp)]
 generalize decide (k=2)=A at z2 hag
 generalize decide (k=3)=B at z3 hag
 cases hW:ZP R w with
 | false =>
   rw [hW] at c2
   rw [if_pos (.inr rfl)] at c2
   have n0:=ZK 13 0
   cases A with
   | true =>
     rw [Bool.true_or] at hag
     rw [if_pos ⟨hag,rfl⟩]
     repeat' first|refine Jk ?_|refine Jc (ha _) ?_|refine Jc (c2 _) ?_|refine Ji ?_|refine JJ ?_|refine Jl ?_|refine Jx ?_|refine Jt ?_|refine Jb ?_ ?_|(apply qT (ty:=0);rfl;rfl;rfl)|(apply qF (ty:=0);rfl;rfl;rfl)|refine Jz ?_ ?_|refine Jo ?_|intro hb
     all_goals rfl
   | false=>
   cases B with
   | true =>
     rw [Bool.false_or] at hag
     rw [if_pos ⟨hag,rfl⟩]
     repeat' first|refine Jk ?_|refine Jc (ha _) ?_|refine Jc (c2 _) ?_|refine Ji ?_|refine JJ ?_|refine Jl ?_|refine Jx ?_|refine Jt ?_|refine Jb ?_ ?_|(apply qT (ty:=0);rfl;rfl;rfl)|(apply qF (ty:=0);rfl;rfl;rfl)|refine Jz ?_ ?_|refine Jo ?_|intro hb
     all_goals rfl
   | false=>
   rw [if_neg (by simp [hag]),if_neg (by simp [hag])]
   repeat' first|refine Jk ?_|refine Jc (ha _) ?_|refine Jc (c2 _) ?_|refine Ji ?_|refine JJ ?_|refine Jl ?_|refine Jx ?_|refine Jt ?_|refine Jb ?_ ?_|(apply qT (ty:=0);rfl;rfl;rfl)|(apply qF (ty:=0);rfl;rfl;rfl)|refine Jz ?_ ?_|refine Jo ?_|intro hb
   refine Wp.while (fun m2 tm H=>∃ (i:Nat) (base:TM),i+m2=d.length∧Zn (Tm.sc R N) d=Zn (Tm.sc R N) (d.drop i)∧tm=ovr base [(2,.ptr 1 2 0 0),(33,slV b 4 (Zb d)),(34,.int .i64 (d.length:Int)),(35,.int .i64 (i:Int))]∧H=⟨[.map (mpN l),.cells 2 [[slV rn 1 (Zo R),.map 0]],.cells 5 [[.int .i64 k,.str r,.str w,slV b 4 (Zb d),.int .i64 ln]]],1,[],0⟩)
    (fun m2 tm H hI=>Wp.drop ?_) d.length _ _ ⟨0,_,by omega,by simp,Ze ⟨rfl,rfl,Zt (by rw [Za]),rfl,trivial⟩,rfl⟩
   obtain ⟨i,base,hi,hgo,rfl,rfl⟩:=hI
   rw [hgo]
   by_cases hlt:i<d.length
   · obtain ⟨t, ht⟩ : ∃ t, d[i]? = some t := ⟨d[i], by simp⟩
     have hq:=fun e1=>(c64 hR hN rn (hd t (List.mem_of_getElem? ht))).ext (ext:=e1) rfl (uTT _ _ _ _) (uM (Xz _ _)) (Nat.le_refl _)
     have hlx:=Zk (i:Int) (d.length:Int)
     rw [decide_eq_true (by omega)] at hlx
     have hii:=Zw (a:=(i:Int)) (b:=1) (by omega) (by omega)
     rw [show (i:Int)+1=((i+1:Nat):Int) by omega] at hii
     rw [Zj ht rfl]
     have n1:=ZK (t.sc R N) 0
     generalize t.sc R N=e at hq n1 ⊢
     obtain ⟨k',nm',s',b',kz'⟩:=t
     have hj:=Zh ht
     simp only [Tm.cells] at hq
     by_cases c1:e=0
     · rw [decide_eq_true c1] at n1
       rw [if_neg (by omega)]
       repeat' first|refine Jk ?_|refine Jc (hq _) ?_|refine Ji ?_|refine JJ ?_|refine Jl ?_|refine Jx ?_|refine Jt ?_|refine Jb ?_ ?_|(apply qT (ty:=0);rfl;rfl;rfl)|(apply qF (ty:=0);rfl;rfl;rfl)|refine Jz ?_ ?_|refine Jo ?_|intro hb
       refine DropQ.go [(2,.ptr 1 2 0 0),(33,slV b 4 (Zb d)),(34,.int .i64 (d.length:Int)),(35,.int .i64 ((i+1:Nat):Int))] ⟨rfl,rfl,rfl,rfl,trivial⟩ ?_ rfl ?_ ?_
       · simp [Zf,under]
       · simp [ZS,mpN,Zp,Zf,under]
       · exact LoopI.go (m2-1) (by omega) ⟨i+1,_,by omega,rfl,rfl,rfl⟩
     · rw [decide_eq_false c1] at n1
       rw [if_pos c1]
       repeat' first|refine Jk ?_|refine Jc (hq _) ?_|refine Ji ?_|refine JJ ?_|refine Jl ?_|refine Jx ?_|refine Jt ?_|refine Jb ?_ ?_|(apply qT (ty:=0);rfl;rfl;rfl)|(apply qF (ty:=0);rfl;rfl;rfl)|refine Jz ?_ ?_|refine Jo ?_|intro hb
       all_goals rfl
   · have e : i = d.length := by omega
     subst e
     have hlx:=Zk (d.length:Int) (d.length:Int)
     rw [decide_eq_false (by omega)] at hlx
     rw [List.drop_length]
     repeat' first|refine Jk ?_|refine Ji ?_|refine JJ ?_|refine Jl ?_|refine Jx ?_|refine Jt ?_|refine Jb ?_ ?_|(apply qT (ty:=0);rfl;rfl;rfl)|(apply qF (ty:=0);rfl;rfl;rfl)|refine Jz ?_ ?_|refine Jo ?_|intro hb
     all_goals rfl
 | true =>
   rw [hW,if_neg (show ¬ (true=false∨true=false) by simp)] at c2
   rw [if_neg (show ¬ (Za7 k=true∧true=false) by simp)]
   by_cases c1:r=w
   · rw [if_pos c1] at c2
     have n0:=ZK 1 0
     cases A with
     | true =>
       rw [Bool.true_or] at hag
       rw [if_pos ⟨hag,c1⟩]
       repeat' first|refine Jk ?_|refine Jc (ha _) ?_|refine Jc (c2 _) ?_|refine Ji ?_|refine JJ ?_|refine Jl ?_|refine Jx ?_|refine Jt ?_|refine Jb ?_ ?_|(apply qT (ty:=0);rfl;rfl;rfl)|(apply qF (ty:=0);rfl;rfl;rfl)|refine Jz ?_ ?_|refine Jo ?_|intro hb
       all_goals rfl
     | false=>
     cases B with
     | true =>
       rw [Bool.false_or] at hag
       rw [if_pos ⟨hag,c1⟩]
       repeat' first|refine Jk ?_|refine Jc (ha _) ?_|refine Jc (c2 _) ?_|refine Ji ?_|refine JJ ?_|refine Jl ?_|refine Jx ?_|refine Jt ?_|refine Jb ?_ ?_|(apply qT (ty:=0);rfl;rfl;rfl)|(apply qF (ty:=0);rfl;rfl;rfl)|refine Jz ?_ ?_|refine Jo ?_|intro hb
       all_goals rfl
     | false=>
     rw [if_neg (by simp [hag])]
     repeat' first|refine Jk ?_|refine Jc (ha _) ?_|refine Jc (c2 _) ?_|refine Ji ?_|refine JJ ?_|refine Jl ?_|refine Jx ?_|refine Jt ?_|refine Jb ?_ ?_|(apply qT (ty:=0);rfl;rfl;rfl)|(apply qF (ty:=0);rfl;rfl;rfl)|refine Jz ?_ ?_|refine Jo ?_|intro hb
     refine Wp.while (fun m2 tm H=>∃ (i:Nat) (base:TM),i+m2=d.length∧Zn (Tm.sc R N) d=Zn (Tm.sc R N) (d.drop i)∧tm=ovr base [(2,.ptr 1 2 0 0),(33,slV b 4 (Zb d)),(34,.int .i64 (d.length:Int)),(35,.int .i64 (i:Int))]∧H=⟨[.map (mpN l),.cells 2 [[slV rn 1 (Zo R),.map 0]],.cells 5 [[.int .i64 k,.str r,.str w,slV b 4 (Zb d),.int .i64 ln]]],1,[],0⟩)
      (fun m2 tm H hI=>Wp.drop ?_) d.length _ _ ⟨0,_,by omega,by simp,Ze ⟨rfl,rfl,Zt (by rw [Za]),rfl,trivial⟩,rfl⟩
     obtain ⟨i,base,hi,hgo,rfl,rfl⟩:=hI
     rw [hgo]
     by_cases hlt:i<d.length
     · obtain ⟨t, ht⟩ : ∃ t, d[i]? = some t := ⟨d[i], by simp⟩
       have hq:=fun e1=>(c64 hR hN rn (hd t (List.mem_of_getElem? ht))).ext (ext:=e1) rfl (uTT _ _ _ _) (uM (Xz _ _)) (Nat.le_refl _)
       have hlx:=Zk (i:Int) (d.length:Int)
       rw [decide_eq_true (by omega)] at hlx
       have hii:=Zw (a:=(i:Int)) (b:=1) (by omega) (by omega)
       rw [show (i:Int)+1=((i+1:Nat):Int) by omega] at hii
       rw [Zj ht rfl]
       have n1:=ZK (t.sc R N) 0
       generalize t.sc R N=e at hq n1 ⊢
       obtain ⟨k',nm',s',b',kz'⟩:=t
       have hj:=Zh ht
       simp only [Tm.cells] at hq
       by_cases c1:e=0
       · rw [decide_eq_true c1] at n1
         rw [if_neg (by omega)]
         repeat' first|refine Jk ?_|refine Jc (hq _) ?_|refine Ji ?_|refine JJ ?_|refine Jl ?_|refine Jx ?_|refine Jt ?_|refine Jb ?_ ?_|(apply qT (ty:=0);rfl;rfl;rfl)|(apply qF (ty:=0);rfl;rfl;rfl)|refine Jz ?_ ?_|refine Jo ?_|intro hb
         refine DropQ.go [(2,.ptr 1 2 0 0),(33,slV b 4 (Zb d)),(34,.int .i64 (d.length:Int)),(35,.int .i64 ((i+1:Nat):Int))] ⟨rfl,rfl,rfl,rfl,trivial⟩ ?_ rfl ?_ ?_
         · simp [Zf,under]
         · simp [ZS,mpN,Zp,Zf,under]
         · exact LoopI.go (m2-1) (by omega) ⟨i+1,_,by omega,rfl,rfl,rfl⟩
       · rw [decide_eq_false c1] at n1
         rw [if_pos c1]
         repeat' first|refine Jk ?_|refine Jc (hq _) ?_|refine Ji ?_|refine JJ ?_|refine Jl ?_|refine Jx ?_|refine Jt ?_|refine Jb ?_ ?_|(apply qT (ty:=0);rfl;rfl;rfl)|(apply qF (ty:=0);rfl;rfl;rfl)|refine Jz ?_ ?_|refine Jo ?_|intro hb
         all_goals rfl
     · have e : i = d.length := by omega
       subst e
       have hlx:=Zk (d.length:Int) (d.length:Int)
       rw [decide_eq_false (by omega)] at hlx
       rw [List.drop_length]
       repeat' first|refine Jk ?_|refine Ji ?_|refine JJ ?_|refine Jl ?_|refine Jx ?_|refine Jt ?_|refine Jb ?_ ?_|(apply qT (ty:=0);rfl;rfl;rfl)|(apply qF (ty:=0);rfl;rfl;rfl)|refine Jz ?_ ?_|refine Jo ?_|intro hb
       all_goals rfl
   · rw [if_neg c1] at c2
     have n0:=ZK 0 0
     rw [if_neg (fun h=>c1 h.2)]
     cases A<;>cases B
     all_goals
      repeat' first|refine Jk ?_|refine Jc (ha _) ?_|refine Jc (c2 _) ?_|refine Ji ?_|refine JJ ?_|refine Jl ?_|refine Jx ?_|refine Jt ?_|refine Jb ?_ ?_|(apply qT (ty:=0);rfl;rfl;rfl)|(apply qF (ty:=0);rfl;rfl;rfl)|refine Jz ?_ ?_|refine Jo ?_|intro hb
      refine Wp.while (fun m2 tm H=>∃ (i:Nat) (base:TM),i+m2=d.length∧Zn (Tm.sc R N) d=Zn (Tm.sc R N) (d.drop i)∧tm=ovr base [(2,.ptr 1 2 0 0),(33,slV b 4 (Zb d)),(34,.int .i64 (d.length:Int)),(35,.int .i64 (i:Int))]∧H=⟨[.map (mpN l),.cells 2 [[slV rn 1 (Zo R),.map 0]],.cells 5 [[.int .i64 k,.str r,.str w,slV b 4 (Zb d),.int .i64 ln]]],1,[],0⟩)
       (fun m2 tm H hI=>Wp.drop ?_) d.length _ _ ⟨0,_,by omega,by simp,Ze ⟨rfl,rfl,Zt (by rw [Za]),rfl,trivial⟩,rfl⟩
      obtain ⟨i,base,hi,hgo,rfl,rfl⟩:=hI
      rw [hgo]
      by_cases hlt:i<d.length
      · obtain ⟨t, ht⟩ : ∃ t, d[i]? = some t := ⟨d[i], by simp⟩
        have hq:=fun e1=>(c64 hR hN rn (hd t (List.mem_of_getElem? ht))).ext (ext:=e1) rfl (uTT _ _ _ _) (uM (Xz _ _)) (Nat.le_refl _)
        have hlx:=Zk (i:Int) (d.length:Int)
        rw [decide_eq_true (by omega)] at hlx
        have hii:=Zw (a:=(i:Int)) (b:=1) (by omega) (by omega)
        rw [show (i:Int)+1=((i+1:Nat):Int) by omega] at hii
        rw [Zj ht rfl]
        have n1:=ZK (t.sc R N) 0
        generalize t.sc R N=e at hq n1 ⊢
        obtain ⟨k',nm',s',b',kz'⟩:=t
        have hj:=Zh ht
        simp only [Tm.cells] at hq
        by_cases c1:e=0
        · rw [decide_eq_true c1] at n1
          rw [if_neg (by omega)]
          repeat' first|refine Jk ?_|refine Jc (hq _) ?_|refine Ji ?_|refine JJ ?_|refine Jl ?_|refine Jx ?_|refine Jt ?_|refine Jb ?_ ?_|(apply qT (ty:=0);rfl;rfl;rfl)|(apply qF (ty:=0);rfl;rfl;rfl)|refine Jz ?_ ?_|refine Jo ?_|intro hb
          refine DropQ.go [(2,.ptr 1 2 0 0),(33,slV b 4 (Zb d)),(34,.int .i64 (d.length:Int)),(35,.int .i64 ((i+1:Nat):Int))] ⟨rfl,rfl,rfl,rfl,trivial⟩ ?_ rfl ?_ ?_
          · simp [Zf,under]
          · simp [ZS,mpN,Zp,Zf,under]
          · exact LoopI.go (m2-1) (by omega) ⟨i+1,_,by omega,rfl,rfl,rfl⟩
        · rw [decide_eq_false c1] at n1
          rw [if_pos c1]
          repeat' first|refine Jk ?_|refine Jc (hq _) ?_|refine Ji ?_|refine JJ ?_|refine Jl ?_|refine Jx ?_|refine Jt ?_|refine Jb ?_ ?_|(apply qT (ty:=0);rfl;rfl;rfl)|(apply qF (ty:=0);rfl;rfl;rfl)|refine Jz ?_ ?_|refine Jo ?_|intro hb
          all_goals rfl
      · have e : i = d.length := by omega
        subst e
        have hlx:=Zk (d.length:Int) (d.length:Int)
        rw [decide_eq_false (by omega)] at hlx
        rw [List.drop_length]
        repeat' first|refine Jk ?_|refine Ji ?_|refine JJ ?_|refine Jl ?_|refine Jx ?_|refine Jt ?_|refine Jb ?_ ?_|(apply qT (ty:=0);rfl;rfl;rfl)|(apply qF (ty:=0);rfl;rfl;rfl)|refine Jz ?_ ?_|refine Jo ?_|intro hb
        all_goals rfl
