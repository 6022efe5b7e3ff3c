/-
  The table of names; what is declared: the program's text.
-/
import Derived.Test.YtgnklbkmfeafaaaGreatDoorUk
set_option maxHeartbeats 0
set_option maxRecDepth 100000
namespace Go.Vm.Seat
open Go.Proofs
theorem c65 {R N : List Zg} {l : List (Zg × Int)} (hR : R.length ≤ 100) (hN : ∀ s, kyB s l = ZU N s) (rn : Bool) {g : Gl} (hl : g.data.length ≤ 1000) (hd : ∀ t, t ∈ g.data → t.Ok) :
  CallOk E0 Tryz.prog 65 [ZcV rn R 0,.agg g.cells] (HM (mpN l)) (.int .i64 (g.sce R N)) (HM (mpN l)):=by
 have ha:=ZfT (l:=R) (by omega) g.role rn
 have hbu:ZO 1 (.map (mpN l))=true:=Xw _ _
 have c2:=fun e1=>(c63 (es:=mpN l) hR rn g.role g.wth).ext (ext:=e1) rfl (by simp [Zo,under,Ze]) (uM hbu) (Nat.le_refl _)
 obtain ⟨k,r,w,b,d,ln⟩:=g
 simp only [Gl.cells,Gl.sce] at ha c2 hl hd ⊢
 have hag:Zce k=(decide (k=2)||decide (k=3)):=rfl
 have z2:=Z6 k 2
 have z3:=Z6 k 3
 have ag:argV (.agg [.int .i64 k,.str r,.str w,slV b 4 (Zb d),.int .i64 ln])= .agg [.int .i64 k,.str r,.str w,slV b 4 (Zb d),.int .i64 ln]:=by
  simp only [argV,List.map_cons,List.map_nil,Qi];rfl
 refine Yu (own:=fun _=>false) tOk fe65.ok ?_
 simp only [List.map_cons,List.map_nil,Zfc,ag]
 refine Wp.seq ?_
 cases hA:ZU R r with
 | false =>
   rw [hA] at ha
   rw [if_pos rfl]
   repeat' first|refine Jk ?_|refine Jc (ha _) ?_|refine Ji ?_|refine JJ ?_|refine Jl ?_|refine Jx ?_|refine Jt ?_|refine Jb ?_ ?_|(apply qT (ty:=0);rfl;rfl;rfl)|(apply qF (ty:=0);rfl;rfl;rfl)|refine Jz ?_ ?_|refine Jo ?_|intro hb
   all_goals rfl
 |true=>
 rw [hA] at ha c2
 rw [if_neg (by simp)]
 generalize decide (k=2)=A at z2 hag
 generalize decide (k=3)=B at z3 hag
 cases hW:ZU R w with
 | false =>
   rw [hW] at c2
   rw [if_pos (.inr rfl)] at c2
   have n0:=ZK 13 0
   cases A with
   | true =>
     rw [Bool.true_or] at hag
     rw [if_pos ⟨hag,rfl⟩]
     repeat' first|refine Jk ?_|refine Jc (ha _) ?_|refine Jc (c2 _) ?_|refine Ji ?_|refine JJ ?_|refine Jl ?_|refine Jx ?_|refine Jt ?_|refine Jb ?_ ?_|(apply qT (ty:=0);rfl;rfl;rfl)|(apply qF (ty:=0);rfl;rfl;rfl)|refine Jz ?_ ?_|refine Jo ?_|intro hb
     all_goals rfl
   | false=>
   cases B with
   | true =>
     rw [Bool.false_or] at hag
     rw [if_pos ⟨hag,rfl⟩]
     repeat' first|refine Jk ?_|refine Jc (ha _) ?_|refine Jc (c2 _) ?_|refine Ji ?_|refine JJ ?_|refine Jl ?_|refine Jx ?_|refine Jt ?_|refine Jb ?_ ?_|(apply qT (ty:=0);rfl;rfl;rfl)|(apply qF (ty:=0);rfl;rfl;rfl)|refine Jz ?_ ?_|refine Jo ?_|intro hb
     all_goals rfl
   | false=>
   rw [if_neg (by simp [hag]),if_neg (by simp [hag])]
   repeat' first|refine Jk ?_|refine Jc (ha _) ?_|refine Jc (c2 _) ?_|refine Ji ?_|refine JJ ?_|refine Jl ?_|refine Jx ?_|refine Jt ?_|refine Jb ?_ ?_|(apply qT (ty:=0);rfl;rfl;rfl)|(apply qF (ty:=0);rfl;rfl;rfl)|refine Jz ?_ ?_|refine Jo ?_|intro hb
   refine Wp.while (fun m2 tm H=>∃ (i:Nat) (base:TM),i+m2=d.length∧Zv (Tm.sc R N) d=Zv (Tm.sc R N) (d.drop i)∧tm=ovr base [(2,.ptr 1 2 0 0),(33,slV b 4 (Zb d)),(34,.int .i64 (d.length:Int)),(35,.int .i64 (i:Int))]∧H=⟨[.map (mpN l),.cells 2 [[slV rn 1 (Zi R),.map 0]],.cells 5 [[.int .i64 k,.str r,.str w,slV b 4 (Zb d),.int .i64 ln]]],1,[],0⟩)
    (fun m2 tm H hI=>Wp.drop ?_) d.length _ _ ⟨0,_,by omega,by simp,Zf ⟨rfl,rfl,Zz (by rw [Za]),rfl,trivial⟩,rfl⟩
   obtain ⟨i,base,hi,hgo,rfl,rfl⟩:=hI
   rw [hgo]
   by_cases hlt:i<d.length
   · obtain ⟨t, ht⟩ : ∃ t, d[i]? = some t := ⟨d[i], by simp⟩
     have hq:=fun e1=>(c64 hR hN rn (hd t (List.mem_of_getElem? ht))).ext (ext:=e1) rfl (uTT _ _ _ _) (uM (Xw _ _)) (Nat.le_refl _)
     have hlx:=Zn (i:Int) (d.length:Int)
     rw [decide_eq_true (by omega)] at hlx
     have hii:=Zy (a:=(i:Int)) (b:=1) (by omega) (by omega)
     rw [show (i:Int)+1=((i+1:Nat):Int) by omega] at hii
     rw [Zl ht rfl]
     have n1:=ZK (t.sc R N) 0
     generalize t.sc R N=e at hq n1 ⊢
     obtain ⟨k',nm',s',b',kz'⟩:=t
     have hj:=Zh ht
     simp only [Tm.cells] at hq
     by_cases c1:e=0
     · rw [decide_eq_true c1] at n1
       rw [if_neg (by omega)]
       repeat' first|refine Jk ?_|refine Jc (hq _) ?_|refine Ji ?_|refine JJ ?_|refine Jl ?_|refine Jx ?_|refine Jt ?_|refine Jb ?_ ?_|(apply qT (ty:=0);rfl;rfl;rfl)|(apply qF (ty:=0);rfl;rfl;rfl)|refine Jz ?_ ?_|refine Jo ?_|intro hb
       refine DropQ.go [(2,.ptr 1 2 0 0),(33,slV b 4 (Zb d)),(34,.int .i64 (d.length:Int)),(35,.int .i64 ((i+1:Nat):Int))] ⟨rfl,rfl,rfl,rfl,trivial⟩ ?_ rfl ?_ ?_
       · simp [Ze,under]
       · simp [ZO,mpN,Zo,Ze,under]
       · exact LoopI.go (m2-1) (by omega) ⟨i+1,_,by omega,rfl,rfl,rfl⟩
     · rw [decide_eq_false c1] at n1
       rw [if_pos c1]
       repeat' first|refine Jk ?_|refine Jc (hq _) ?_|refine Ji ?_|refine JJ ?_|refine Jl ?_|refine Jx ?_|refine Jt ?_|refine Jb ?_ ?_|(apply qT (ty:=0);rfl;rfl;rfl)|(apply qF (ty:=0);rfl;rfl;rfl)|refine Jz ?_ ?_|refine Jo ?_|intro hb
       all_goals rfl
   · have e : i = d.length := by omega
     subst e
     have hlx:=Zn (d.length:Int) (d.length:Int)
     rw [decide_eq_false (by omega)] at hlx
     rw [List.drop_length]
     repeat' first|refine Jk ?_|refine Ji ?_|refine JJ ?_|refine Jl ?_|refine Jx ?_|refine Jt ?_|refine Jb ?_ ?_|(apply qT (ty:=0);rfl;rfl;rfl)|(apply qF (ty:=0);rfl;rfl;rfl)|refine Jz ?_ ?_|refine Jo ?_|intro hb
     all_goals rfl
 | true =>
   rw [hW,if_neg (show ¬ (true=false∨true=false) by simp)] at c2
   rw [if_neg (show ¬ (Zce k=true∧true=false) by simp)]
   by_cases c1:r=w
   · rw [if_pos c1] at c2
     have n0:=ZK 1 0
     cases A with
     | true =>
       rw [Bool.true_or] at hag
       rw [if_pos ⟨hag,c1⟩]
       repeat' first|refine Jk ?_|refine Jc (ha _) ?_|refine Jc (c2 _) ?_|refine Ji ?_|refine JJ ?_|refine Jl ?_|refine Jx ?_|refine Jt ?_|refine Jb ?_ ?_|(apply qT (ty:=0);rfl;rfl;rfl)|(apply qF (ty:=0);rfl;rfl;rfl)|refine Jz ?_ ?_|refine Jo ?_|intro hb
       all_goals rfl
     | false=>
     cases B with
     | true =>
       rw [Bool.false_or] at hag
       rw [if_pos ⟨hag,c1⟩]
       repeat' first|refine Jk ?_|refine Jc (ha _) ?_|refine Jc (c2 _) ?_|refine Ji ?_|refine JJ ?_|refine Jl ?_|refine Jx ?_|refine Jt ?_|refine Jb ?_ ?_|(apply qT (ty:=0);rfl;rfl;rfl)|(apply qF (ty:=0);rfl;rfl;rfl)|refine Jz ?_ ?_|refine Jo ?_|intro hb
       all_goals rfl
     | false=>
     rw [if_neg (by simp [hag])]
     repeat' first|refine Jk ?_|refine Jc (ha _) ?_|refine Jc (c2 _) ?_|refine Ji ?_|refine JJ ?_|refine Jl ?_|refine Jx ?_|refine Jt ?_|refine Jb ?_ ?_|(apply qT (ty:=0);rfl;rfl;rfl)|(apply qF (ty:=0);rfl;rfl;rfl)|refine Jz ?_ ?_|refine Jo ?_|intro hb
     refine Wp.while (fun m2 tm H=>∃ (i:Nat) (base:TM),i+m2=d.length∧Zv (Tm.sc R N) d=Zv (Tm.sc R N) (d.drop i)∧tm=ovr base [(2,.ptr 1 2 0 0),(33,slV b 4 (Zb d)),(34,.int .i64 (d.length:Int)),(35,.int .i64 (i:Int))]∧H=⟨[.map (mpN l),.cells 2 [[slV rn 1 (Zi R),.map 0]],.cells 5 [[.int .i64 k,.str r,.str w,slV b 4 (Zb d),.int .i64 ln]]],1,[],0⟩)
      (fun m2 tm H hI=>Wp.drop ?_) d.length _ _ ⟨0,_,by omega,by simp,Zf ⟨rfl,rfl,Zz (by rw [Za]),rfl,trivial⟩,rfl⟩
     obtain ⟨i,base,hi,hgo,rfl,rfl⟩:=hI
     rw [hgo]
     by_cases hlt:i<d.length
     · obtain ⟨t, ht⟩ : ∃ t, d[i]? = some t := ⟨d[i], by simp⟩
       have hq:=fun e1=>(c64 hR hN rn (hd t (List.mem_of_getElem? ht))).ext (ext:=e1) rfl (uTT _ _ _ _) (uM (Xw _ _)) (Nat.le_refl _)
       have hlx:=Zn (i:Int) (d.length:Int)
       rw [decide_eq_true (by omega)] at hlx
       have hii:=Zy (a:=(i:Int)) (b:=1) (by omega) (by omega)
       rw [show (i:Int)+1=((i+1:Nat):Int) by omega] at hii
       rw [Zl ht rfl]
       have n1:=ZK (t.sc R N) 0
       generalize t.sc R N=e at hq n1 ⊢
       obtain ⟨k',nm',s',b',kz'⟩:=t
       have hj:=Zh ht
       simp only [Tm.cells] at hq
       by_cases c1:e=0
       · rw [decide_eq_true c1] at n1
         rw [if_neg (by omega)]
         repeat' first|refine Jk ?_|refine Jc (hq _) ?_|refine Ji ?_|refine JJ ?_|refine Jl ?_|refine Jx ?_|refine Jt ?_|refine Jb ?_ ?_|(apply qT (ty:=0);rfl;rfl;rfl)|(apply qF (ty:=0);rfl;rfl;rfl)|refine Jz ?_ ?_|refine Jo ?_|intro hb
         refine DropQ.go [(2,.ptr 1 2 0 0),(33,slV b 4 (Zb d)),(34,.int .i64 (d.length:Int)),(35,.int .i64 ((i+1:Nat):Int))] ⟨rfl,rfl,rfl,rfl,trivial⟩ ?_ rfl ?_ ?_
         · simp [Ze,under]
         · simp [ZO,mpN,Zo,Ze,under]
         · exact LoopI.go (m2-1) (by omega) ⟨i+1,_,by omega,rfl,rfl,rfl⟩
       · rw [decide_eq_false c1] at n1
         rw [if_pos c1]
         repeat' first|refine Jk ?_|refine Jc (hq _) ?_|refine Ji ?_|refine JJ ?_|refine Jl ?_|refine Jx ?_|refine Jt ?_|refine Jb ?_ ?_|(apply qT (ty:=0);rfl;rfl;rfl)|(apply qF (ty:=0);rfl;rfl;rfl)|refine Jz ?_ ?_|refine Jo ?_|intro hb
         all_goals rfl
     · have e : i = d.length := by omega
       subst e
       have hlx:=Zn (d.length:Int) (d.length:Int)
       rw [decide_eq_false (by omega)] at hlx
       rw [List.drop_length]
       repeat' first|refine Jk ?_|refine Ji ?_|refine JJ ?_|refine Jl ?_|refine Jx ?_|refine Jt ?_|refine Jb ?_ ?_|(apply qT (ty:=0);rfl;rfl;rfl)|(apply qF (ty:=0);rfl;rfl;rfl)|refine Jz ?_ ?_|refine Jo ?_|intro hb
       all_goals rfl
   · rw [if_neg c1] at c2
     have n0:=ZK 0 0
     rw [if_neg (fun h=>c1 h.2)]
     cases A<;>cases B
     all_goals
      repeat' first|refine Jk ?_|refine Jc (ha _) ?_|refine Jc (c2 _) ?_|refine Ji ?_|refine JJ ?_|refine Jl ?_|refine Jx ?_|refine Jt ?_|refine Jb ?_ ?_|(apply qT (ty:=0);rfl;rfl;rfl)|(apply qF (ty:=0);rfl;rfl;rfl)|refine Jz ?_ ?_|refine Jo ?_|intro hb
      refine Wp.while (fun m2 tm H=>∃ (i:Nat) (base:TM),i+m2=d.length∧Zv (Tm.sc R N) d=Zv (Tm.sc R N) (d.drop i)∧tm=ovr base [(2,.ptr 1 2 0 0),(33,slV b 4 (Zb d)),(34,.int .i64 (d.length:Int)),(35,.int .i64 (i:Int))]∧H=⟨[.map (mpN l),.cells 2 [[slV rn 1 (Zi R),.map 0]],.cells 5 [[.int .i64 k,.str r,.str w,slV b 4 (Zb d),.int .i64 ln]]],1,[],0⟩)
       (fun m2 tm H hI=>Wp.drop ?_) d.length _ _ ⟨0,_,by omega,by simp,Zf ⟨rfl,rfl,Zz (by rw [Za]),rfl,trivial⟩,rfl⟩
      obtain ⟨i,base,hi,hgo,rfl,rfl⟩:=hI
      rw [hgo]
      by_cases hlt:i<d.length
      · obtain ⟨t, ht⟩ : ∃ t, d[i]? = some t := ⟨d[i], by simp⟩
        have hq:=fun e1=>(c64 hR hN rn (hd t (List.mem_of_getElem? ht))).ext (ext:=e1) rfl (uTT _ _ _ _) (uM (Xw _ _)) (Nat.le_refl _)
        have hlx:=Zn (i:Int) (d.length:Int)
        rw [decide_eq_true (by omega)] at hlx
        have hii:=Zy (a:=(i:Int)) (b:=1) (by omega) (by omega)
        rw [show (i:Int)+1=((i+1:Nat):Int) by omega] at hii
        rw [Zl ht rfl]
        have n1:=ZK (t.sc R N) 0
        generalize t.sc R N=e at hq n1 ⊢
        obtain ⟨k',nm',s',b',kz'⟩:=t
        have hj:=Zh ht
        simp only [Tm.cells] at hq
        by_cases c1:e=0
        · rw [decide_eq_true c1] at n1
          rw [if_neg (by omega)]
          repeat' first|refine Jk ?_|refine Jc (hq _) ?_|refine Ji ?_|refine JJ ?_|refine Jl ?_|refine Jx ?_|refine Jt ?_|refine Jb ?_ ?_|(apply qT (ty:=0);rfl;rfl;rfl)|(apply qF (ty:=0);rfl;rfl;rfl)|refine Jz ?_ ?_|refine Jo ?_|intro hb
          refine DropQ.go [(2,.ptr 1 2 0 0),(33,slV b 4 (Zb d)),(34,.int .i64 (d.length:Int)),(35,.int .i64 ((i+1:Nat):Int))] ⟨rfl,rfl,rfl,rfl,trivial⟩ ?_ rfl ?_ ?_
          · simp [Ze,under]
          · simp [ZO,mpN,Zo,Ze,under]
          · exact LoopI.go (m2-1) (by omega) ⟨i+1,_,by omega,rfl,rfl,rfl⟩
        · rw [decide_eq_false c1] at n1
          rw [if_pos c1]
          repeat' first|refine Jk ?_|refine Jc (hq _) ?_|refine Ji ?_|refine JJ ?_|refine Jl ?_|refine Jx ?_|refine Jt ?_|refine Jb ?_ ?_|(apply qT (ty:=0);rfl;rfl;rfl)|(apply qF (ty:=0);rfl;rfl;rfl)|refine Jz ?_ ?_|refine Jo ?_|intro hb
          all_goals rfl
      · have e : i = d.length := by omega
        subst e
        have hlx:=Zn (d.length:Int) (d.length:Int)
        rw [decide_eq_false (by omega)] at hlx
        rw [List.drop_length]
        repeat' first|refine Jk ?_|refine Ji ?_|refine JJ ?_|refine Jl ?_|refine Jx ?_|refine Jt ?_|refine Jb ?_ ?_|(apply qT (ty:=0);rfl;rfl;rfl)|(apply qF (ty:=0);rfl;rfl;rfl)|refine Jz ?_ ?_|refine Jo ?_|intro hb
        all_goals rfl
theorem Ud {R:List Zg} {i:Nat} {x:Zg} (h:R[i]? = some x) (s:Zg):ZU (R.take (i+1)) s=(ZU (R.take i) s||decide (x=s)):=by
 rw [List.take_add_one,h]
 simp [ZU]
theorem upT (l:List (Zg×Int)) (n:Zg) (v:Int):∃ l',(∀ s,kyB s l'=(kyB s l||decide (n=s)))∧∀ (A B C D:Box) (e1:List Box),Yc E0 94 (.map 3) (.str n) (.int .i64 v) ⟨A::B::C:: .map (mpN l)::D::e1,0,[],0⟩=some ⟨A::B::C:: .map (mpN l')::D::e1,0,[],0⟩:=by
 obtain ⟨l',h1,h2⟩:=ZjK (E:=E0) (id:=3) (l:=l) (n:=n) (t:=94) (kt:=9) (e:=3) v rfl rfl rfl
 exact ⟨l',h1,fun A B C D e1=>h2 ⟨A::B::C:: .map (mpN l)::D::e1,0,[],0⟩ rfl (by simp)⟩
abbrev QC (rn:Bool) (R:List Zg):Box:= .cells 2 [[slV rn 1 (Zi R),.map 3]]
abbrev Zga:Box:= .cells 2 [[.nils,.nilm]]
theorem Zej (rn:Bool) (R:List Zg):U3 E0 96 [(0,slV rn 1 (Zi R)),(1,.map 3)]=some (.agg [slV rn 1 (Zi R),.map 3]):=by
 cases R with
 | nil => cases rn
          · rw [show Zi []= [] from rfl,ZB];rfl
          · rw [show Zi []= [] from rfl,Zq];rfl
 |cons a r=>rw [show Zi (a::r)= [.str a]::Zi r from rfl,Zx];rfl
theorem c62 {n:Na} (h:n.Sm) {B0:Box} (hB:ZO 5 B0=true):∃ l,(∀ s,kyB s l=ZU n.nms s)∧CallOk E0 Tryz.prog 62 [.agg n.cells] ⟨[B0],0,[],0⟩ (ZcV n.rn n.roles 3) ⟨[B0,naB n.name n.rn n.roles n.fn n.fresh n.tn n.tags n.sn n.steps n.gn n.goals,QC n.rn n.roles,.map (mpN l),QC n.rn n.roles],0,[],0⟩:=by
 have hrl:=h.rl
 have hfl:=h.fl
 have htl:=h.tl
 clear h
 obtain ⟨nm,rn,rs,fn,fr,tn,ts,sn,ss,gn,gs⟩:=n
 simp only [Na.cells,Na.nms] at hrl hfl htl ⊢
 have e1:=ZC rs
 have e2:=YI fr
 have e3:=ZC ts
 have key:∃ r H1,CallOk E0 Tryz.prog 62 [.agg [.str nm,slV rn 1 (Zi rs),slV fn 3 (frC fr),slV tn 1 (Zi ts),slV sn 7 (spC ss),slV gn 5 (glC gs)]] ⟨[B0],0,[],0⟩ r H1∧∃ l,(∀ s,kyB s l=ZU (rs++(fr.map (·.name)++ts)) s)∧r=ZcV rn rs 3∧H1=⟨[B0,naB nm rn rs fn fr tn ts sn ss gn gs,QC rn rs,.map (mpN l),QC rn rs],0,[],0⟩:=by
  refine YS (own:=fun _=>false) tOk fe62.ok ?_
  refine Wp.seq ?_
  have hbd:=Zej rn rs
  repeat' first|refine Ji ?_|(apply qBd;rfl;rfl;rfl;assumption;exact IsV.aggN)|refine JJ ?_|refine Jl ?_|refine Jx ?_|(apply qT (ty:=0);rfl;rfl;rfl)|(apply qF (ty:=0);rfl;rfl;rfl)|refine Jz ?_ ?_|refine Jo ?_|intro hb
  refine Wp.while (fun m tm H=>∃ (i:Nat) (base:TM) (l:List (Zg×Int)),i+m=rs.length∧(∀ s,kyB s l=ZU (rs.take i) s)∧tm=ovr base [(1,.ptr 1 6 0 0),(2,.ptr 2 2 0 0),(3,.ptr 4 2 0 0),(15,slV rn 1 (Zi rs)),(16,.int .i64 (rs.length:Int)),(17,.int .i64 (i:Int))]∧H=⟨[B0,naB nm rn rs fn fr tn ts sn ss gn gs,Zga,.map (mpN l),QC rn rs],0,[],0⟩)
   (fun m tm H hI=>?_) rs.length _ _ ⟨0,_,[],by omega,by simp [kyB,ZU],Zf ⟨rfl,rfl,rfl,rfl,Zz (by rw [e1]),rfl,trivial⟩,rfl⟩
  obtain ⟨i,base,l,hi,hky,rfl,rfl⟩:=hI
  have hlx:=Zn (i:Int) (rs.length:Int)
  by_cases hlt:i<rs.length
  · rw [decide_eq_true (by omega)] at hlx
    obtain ⟨x,hx⟩:∃ x,rs[i]? = some x:=⟨rs[i],by simp⟩
    have hj:=Yf hx
    have hii:=Zy (a:=(i:Int)) (b:=1) (by omega) (by omega)
    rw [show (i:Int)+1=((i+1:Nat):Int) by omega] at hii
    obtain ⟨l',hk',hup⟩:=upT l x 1
    have hup:=hup B0 (naB nm rn rs fn fr tn ts sn ss gn gs) Zga (QC rn rs) []
    repeat' first|(apply qMu;rfl;rfl;rfl;rfl;assumption)|refine Ji ?_|refine JJ ?_|refine Jl ?_|refine Jx ?_|(apply qT (ty:=0);rfl;rfl;rfl)|(apply qF (ty:=0);rfl;rfl;rfl)|refine Jz ?_ ?_|refine Jo ?_|intro hb
    exact LoopI.go (m-1) (by omega) ⟨i+1,_,l',by omega,fun s=>by rw [hk',hky,Ud hx],Zf ⟨rfl,rfl,rfl,rfl,rfl,rfl,trivial⟩,rfl⟩
  · have e : i = rs.length := by omega
    subst e
    rw [decide_eq_false (by omega)] at hlx
    rw [List.take_length] at hky
    repeat' first|refine Ji ?_|refine JJ ?_|refine Jl ?_|refine Jx ?_|(apply qT (ty:=0);rfl;rfl;rfl)|(apply qF (ty:=0);rfl;rfl;rfl)|refine Jz ?_ ?_|refine Jo ?_|intro hb
    clear hlx hi hlt
    refine Wp.while (fun m tm H=>∃ (i:Nat) (base:TM) (l:List (Zg×Int)),i+m=fr.length∧(∀ s,kyB s l=(ZU rs s||ZU ((fr.map (·.name)).take i) s))∧tm=ovr base [(1,.ptr 1 6 0 0),(2,.ptr 2 2 0 0),(3,.ptr 4 2 0 0),(26,slV fn 3 (frC fr)),(27,.int .i64 (fr.length:Int)),(28,.int .i64 (i:Int))]∧H=⟨[B0,naB nm rn rs fn fr tn ts sn ss gn gs,Zga,.map (mpN l),QC rn rs],0,[],0⟩)
     (fun m tm H hI=>Wp.drop ?_) fr.length _ _ ⟨0,_,l,by omega,fun s=>by rw [hky];simp [ZU],Zf ⟨rfl,rfl,rfl,rfl,Zz (by rw [e2]),rfl,trivial⟩,rfl⟩
    clear hky
    obtain ⟨i,base,l,hi,hky,rfl,rfl⟩:=hI
    have hlx:=Zn (i:Int) (fr.length:Int)
    by_cases hlt:i<fr.length
    · rw [decide_eq_true (by omega)] at hlx
      obtain ⟨x,hx⟩:∃ x,fr[i]? = some x:=⟨fr[i],by simp⟩
      have hj:=Wb hx
      have hii:=Zy (a:=(i:Int)) (b:=1) (by omega) (by omega)
      rw [show (i:Int)+1=((i+1:Nat):Int) by omega] at hii
      obtain ⟨l',hk',hup⟩:=upT l x.name x.sort
      have hup:=hup B0 (naB nm rn rs fn fr tn ts sn ss gn gs) Zga (QC rn rs) [.cells 3 [[.str x.role,.str x.name,.int .i64 x.sort]]]
      have hx2:(fr.map (·.name))[i]? = some x.name:=by simp [hx]
      repeat' first|(apply qMu;rfl;rfl;rfl;rfl;assumption)|refine Ji ?_|refine JJ ?_|refine Jl ?_|refine Jx ?_|(apply qT (ty:=0);rfl;rfl;rfl)|(apply qF (ty:=0);rfl;rfl;rfl)|refine Jz ?_ ?_|refine Jo ?_|intro hb
      refine DropQ.go [(1,.ptr 1 6 0 0),(2,.ptr 2 2 0 0),(3,.ptr 4 2 0 0),(26,slV fn 3 (frC fr)),(27,.int .i64 (fr.length:Int)),(28,.int .i64 ((i+1:Nat):Int))] ⟨rfl,rfl,rfl,rfl,rfl,rfl,trivial⟩ ?_ rfl ?_ ?_
      · simp [Ze,under]
      · show (ZO 5 B0 && (ZO 5 (naB nm rn rs fn fr tn ts sn ss gn gs) && (ZO 5 Zga && (ZO 5 (.map (mpN l')) && (ZO 5 (QC rn rs) && true))))) = true
        rw [hB,X0,Xw,show ZO 5 (QC rn rs)=true by simp [ZO,Zo,Ze,under]]
        rfl
      · exact LoopI.go (m-1) (by omega) ⟨i+1,_,l',by omega,fun s=>by rw [hk',hky,Ud hx2,Bool.or_assoc],rfl,rfl⟩
    · have e : i = fr.length := by omega
      subst e
      rw [decide_eq_false (by omega)] at hlx
      rw [List.take_of_length_le (by simp)] at hky
      repeat' first|refine Ji ?_|refine JJ ?_|refine Jl ?_|refine Jx ?_|(apply qT (ty:=0);rfl;rfl;rfl)|(apply qF (ty:=0);rfl;rfl;rfl)|refine Jz ?_ ?_|refine Jo ?_|intro hb
      clear hlx hi hlt
      refine Wp.while (fun m tm H=>∃ (i:Nat) (base:TM) (l:List (Zg×Int)),i+m=ts.length∧(∀ s,kyB s l=(ZU rs s||(ZU (fr.map (·.name)) s||ZU (ts.take i) s)))∧tm=ovr base [(2,.ptr 2 2 0 0),(3,.ptr 4 2 0 0),(40,slV tn 1 (Zi ts)),(41,.int .i64 (ts.length:Int)),(42,.int .i64 (i:Int))]∧H=⟨[B0,naB nm rn rs fn fr tn ts sn ss gn gs,Zga,.map (mpN l),QC rn rs],0,[],0⟩)
       (fun m tm H hI=>?_) ts.length _ _ ⟨0,_,l,by omega,fun s=>by rw [hky];simp [ZU],Zf ⟨rfl,rfl,rfl,Zz (by rw [e3]),rfl,trivial⟩,rfl⟩
      clear hky
      obtain ⟨i,base,l,hi,hky,rfl,rfl⟩:=hI
      have hlx:=Zn (i:Int) (ts.length:Int)
      by_cases hlt:i<ts.length
      · rw [decide_eq_true (by omega)] at hlx
        obtain ⟨x,hx⟩:∃ x,ts[i]? = some x:=⟨ts[i],by simp⟩
        have hj:=Yf hx
        have hii:=Zy (a:=(i:Int)) (b:=1) (by omega) (by omega)
        rw [show (i:Int)+1=((i+1:Nat):Int) by omega] at hii
        obtain ⟨l',hk',hup⟩:=upT l x 5
        have hup:=hup B0 (naB nm rn rs fn fr tn ts sn ss gn gs) Zga (QC rn rs) []
        repeat' first|(apply qMu;rfl;rfl;rfl;rfl;assumption)|refine Ji ?_|refine JJ ?_|refine Jl ?_|refine Jx ?_|(apply qT (ty:=0);rfl;rfl;rfl)|(apply qF (ty:=0);rfl;rfl;rfl)|refine Jz ?_ ?_|refine Jo ?_|intro hb
        exact LoopI.go (m-1) (by omega) ⟨i+1,_,l',by omega,fun s=>by rw [hk',hky,Ud hx,Bool.or_assoc,Bool.or_assoc],Zf ⟨rfl,rfl,rfl,rfl,rfl,trivial⟩,rfl⟩
      · have e : i = ts.length := by omega
        subst e
        rw [decide_eq_false (by omega)] at hlx
        rw [List.take_length] at hky
        repeat' first|refine Ji ?_|refine JJ ?_|refine Jl ?_|refine Jx ?_|(apply qT (ty:=0);rfl;rfl;rfl)|(apply qF (ty:=0);rfl;rfl;rfl)|refine Jz ?_ ?_|refine Jo ?_|intro hb
        exact RetR.ret rfl ⟨l,fun s=>by rw [hky,XR,XR],rfl,rfl⟩
 obtain ⟨r,H1,k1,l,hl,rfl,rfl⟩:=key
 exact ⟨l,hl,k1⟩
