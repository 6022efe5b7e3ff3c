/-
  Terms and goals in their scope: the program's text, where the table's map lies a
-/
import Derived.Test.YtgnklbkmfeafaaaGreatDoorUj
set_option maxHeartbeats 0
set_option maxRecDepth 100000
namespace Go.Vm
variable {N R:List Zg} {nm:Zg} {s:Int} {b:Bool} {kz:List Tm}
theorem ZbW (R N:List Zg):∀ (l:List Tm) (n:Nat),scL R N l n=Zv (Tm.sc R N) (l.take n)
 | [],n=>by cases n<;>simp [scL,Zv]
 |t::r,0=>by simp [scL,Zv]
 | t :: r, n + 1 => by
   simp only [scL,List.take_succ_cons,Zv]
   rw [ZbW R N r n]
theorem ZfO {n:Nat} (h:scK R (.mk 3 nm s b kz)=n) (hn:n≠9):(Tm.mk 3 nm s b kz).sc R N=Zv (Tm.sc R N) (kz.take n):=by
 rw [Tm.sc,if_neg (by simp),h,if_neg hn,ZbW]
theorem Zdi (h:scK R (.mk 3 nm s b kz)=9):(Tm.mk 3 nm s b kz).sc R N=10:=by
 rw [Tm.sc,if_neg (by simp),if_pos h]
end Go.Vm
namespace Go.Vm.Seat
open Go.Proofs
theorem Zjx (b:Bool) (x y:Tm):YY E0 47 (slV b 4 (Zb [x,y])) none (some (.int .i64 1)) none=some (slV false 4 (Zb [x])):=by
 simp only [Zb,Zx]
 rfl
theorem c64 {R N : List Zg} {l : List (Zg × Int)} (hR : R.length ≤ 100) (hN : ∀ s, kyB s l = ZU N s) (rn : Bool) {t : Tm} (ht : t.Ok) :
  CallOk E0 Tryz.prog 64 [ZcV rn R 0,.agg t.cells] (HM (mpN l)) (.int .i64 (t.sc R N)) (HM (mpN l)):=by
 induction ht with
 | @mk k nm s b kz hk hs hn hl hok ih=>
 have hkl:=VC hl
 have n3:=Ue k 3
 have hbu:ZO 1 (.map (mpN l))=true:=Xw _ _
 by_cases c3:k=3
 case neg=>
  rw [decide_eq_false c3] at n3
  rw [Tm.sc,if_pos c3]
  obtain ⟨v,hlk⟩:=Zj3 (E:=E0) (id:=0) (l:=l) (n:=nm) (t:=94) (kt:=9) (e:=3) rfl rfl rfl rfl rfl
  have hlk:=hlk ⟨[.map (mpN l),.cells 2 [[slV rn 1 (Zi R),.map 0]],.cells 4 [[.int .i64 k,.str nm,.int .i64 s,slV b 4 (Zb kz)]]],1,[],0⟩ rfl
  rw [hN nm] at hlk
  simp only [Tm.cells]
  generalize ZU N nm=B at hlk ⊢
  refine Yu (own:=fun _=>false) tOk fe64.ok ?_
  simp only [List.map_cons,List.map_nil,Zfc,ZbD]
  refine Wp.seq ?_
  cases B
  all_goals
   repeat' first|refine Jk ?_|refine JS ?_|(apply qLk;rfl;rfl;rfl;rfl;assumption;exact IsV.n)|refine Ji ?_|refine JJ ?_|refine Jl ?_|refine Jx ?_|refine Jt ?_|refine Jb ?_ ?_|(apply qT (ty:=0);rfl;rfl;rfl)|(apply qF (ty:=0);rfl;rfl;rfl)|refine Jz ?_ ?_|refine Jo ?_|(apply dK;rfl;rfl;rfl)|(apply dSl;rfl;rfl;rfl;rfl;rfl;rfl;assumption;exact IsV.any _;rfl)|refine JD ?_|refine JK ?_|(apply dLn;rfl;rfl;rfl;rfl;rfl)|refine JI ?_|(apply dT (ty:=4);rfl;rfl;rfl;rfl)|(apply dF (ty:=4);rfl;rfl;rfl;rfl)|(apply dB (ty:=4);rfl;rfl;rfl;rfl)|(apply dT (ty:=0);rfl;rfl;rfl;rfl)|(apply dF (ty:=0);rfl;rfl;rfl;rfl)|(apply dB (ty:=0);rfl;rfl;rfl;rfl)|refine Jh ?_|(apply Wp.draw tOk follows;kernel_rfl)|intro hb
   all_goals rfl
 subst c3
 rw [decide_eq_true rfl] at n3
 obtain ⟨T,hT⟩:∃ T,T=Tm.mk 3 nm s b kz:=⟨_,rfl⟩
 have i1:=ZfX T ZN 2
 have i2:=ZfX T Ze5 2
 have i3:=ZfX T WA 1
 have i4:=ZfX T Vb 2
 have i5:=ZfX T VK 2
 have i6:=ZfX T ZbZ 2
 have pT:=fun e1=>(Zjq (es:=mpN l) hR rn T hbu).ext (ext:=e1) rfl (uTT _ _ _ _) (uM hbu) (Nat.le_refl _)
 have len:∀ {w:Zg} {n:Nat},isA T w n=true→kz.length=n:=fun h=>by have:=(Yn h).1;rw [hT] at this;exact this
 have hcl:T.cells= [.int .i64 3,.str nm,.int .i64 s,slV b 4 (Zb kz)]:=by rw [hT];rfl
 have hgo:∀ n,scK R T=n→n≠9→(Tm.mk 3 nm s b kz).sc R N=Zv (Tm.sc R N) (kz.take n):=fun n h1 h2=>ZfO (hT ▸ h1) h2
 have hno:scK R T=9→(Tm.mk 3 nm s b kz).sc R N=10:=fun h1=>Zdi (hT ▸ h1)
 have hkd:T.kds=kz:=by rw [hT];rfl
 have hK:scK R T=if isA T ZN 2=true∨isA T Ze5 2=true then 2 else if isA T WA 1=true then 1
  else if isA T Vb 2=true∧(T.kds.drop 1).all (WJ R)=true then 1 else if isA T VK 2=true∧(T.kds.drop 1).all (VW R)=true then 1
  else if WJ R T=true then 0 else if isA T ZbZ 2=true∧T.kds.all (WM R)=true∧(T.kds.map Tm.nam).head? ≠((T.kds.drop 1).map Tm.nam).head? then 0 else 9:=rfl
 simp only [hkd] at hK
 rw [hcl] at i1 i2 i3 i4 i5 i6 pT
 simp only [Tm.cells]
 clear hT hkd hcl
 refine Yu (own:=fun _=>false) tOk fe64.ok ?_
 simp only [List.map_cons,List.map_nil,Zfc,ZbD]
 refine Wp.seq ?_
 cases h1:isA T ZN 2 with
 | true =>
   have hl2:=len h1
   rw [h1] at i1
   rw [hgo 2 (hK.trans (if_pos (.inl h1))) (by decide),List.take_of_length_le (by omega)]
   clear h1 hK hgo hno len
   repeat' first|refine Jk ?_|refine Jc (i1 _) ?_|refine JS ?_|refine Ji ?_|refine JJ ?_|refine Jl ?_|refine Jx ?_|refine Jt ?_|refine Jb ?_ ?_|(apply qT (ty:=0);rfl;rfl;rfl)|(apply qF (ty:=0);rfl;rfl;rfl)|refine Jz ?_ ?_|refine Jo ?_|(apply dK;rfl;rfl;rfl)|refine Jd (i1 _) ?_|(apply dSl;rfl;rfl;rfl;rfl;rfl;rfl;assumption;exact IsV.any _;rfl)|refine JD ?_|refine JK ?_|(apply dLn;rfl;rfl;rfl;rfl;rfl)|refine JI ?_|(apply dT (ty:=4);rfl;rfl;rfl;rfl)|(apply dF (ty:=4);rfl;rfl;rfl;rfl)|(apply dB (ty:=4);rfl;rfl;rfl;rfl)|(apply dT (ty:=0);rfl;rfl;rfl;rfl)|(apply dF (ty:=0);rfl;rfl;rfl;rfl)|(apply dB (ty:=0);rfl;rfl;rfl;rfl)|refine Jh ?_|(apply Wp.draw tOk follows;kernel_rfl)|intro hb
   refine Wp.while (fun m2 tm H=>∃ (i:Nat) (base:TM),i+m2=kz.length∧Zv (Tm.sc R N) kz=Zv (Tm.sc R N) (kz.drop i)∧tm=ovr base [(2,.ptr 1 2 0 0),(85,slV b 4 (Zb kz)),(86,.int .i64 (kz.length:Int)),(87,.int .i64 (i:Int))]∧H=⟨[.map (mpN l),.cells 2 [[slV rn 1 (Zi R),.map 0]],.cells 4 [[.int .i64 3,.str nm,.int .i64 s,slV b 4 (Zb kz)]]],1,[],0⟩)
    (fun m2 tm H hI=>Wp.drop ?_) kz.length _ _ ⟨0,_,by omega,by simp,Zf ⟨rfl,rfl,Zz (by rw [Za]),rfl,trivial⟩,rfl⟩
   obtain ⟨i,base,hi,hgo,rfl,rfl⟩:=hI
   rw [hgo]
   by_cases hlt:i<kz.length
   · obtain ⟨t, ht⟩ : ∃ t, kz[i]? = some t := ⟨kz[i], by simp⟩
     have hq:=fun e1=>(ih t (List.mem_of_getElem? ht)).ext (ext:=e1) rfl (uTT _ _ _ _) (uM (Xw _ _)) (Nat.le_refl _)
     have hlx:=Zn (i:Int) (kz.length:Int)
     rw [decide_eq_true (by omega)] at hlx
     have hii:=Zy (a:=(i:Int)) (b:=1) (by omega) (by omega)
     rw [show (i:Int)+1=((i+1:Nat):Int) by omega] at hii
     rw [Zl ht rfl]
     have n1:=ZK (t.sc R N) 0
     generalize t.sc R N=e at hq n1 ⊢
     obtain ⟨k',nm',s',b',kz'⟩:=t
     have hj:=Zh ht
     simp only [Tm.cells] at hq
     by_cases c1:e=0
     · rw [decide_eq_true c1] at n1
       rw [if_neg (by omega)]
       repeat' first|refine Jk ?_|refine Jc (hq _) ?_|refine JS ?_|refine Ji ?_|refine JJ ?_|refine Jl ?_|refine Jx ?_|refine Jt ?_|refine Jb ?_ ?_|(apply qT (ty:=0);rfl;rfl;rfl)|(apply qF (ty:=0);rfl;rfl;rfl)|refine Jz ?_ ?_|refine Jo ?_|(apply dK;rfl;rfl;rfl)|refine Jd (hq _) ?_|(apply dSl;rfl;rfl;rfl;rfl;rfl;rfl;assumption;exact IsV.any _;rfl)|refine JD ?_|refine JK ?_|(apply dLn;rfl;rfl;rfl;rfl;rfl)|refine JI ?_|(apply dT (ty:=4);rfl;rfl;rfl;rfl)|(apply dF (ty:=4);rfl;rfl;rfl;rfl)|(apply dB (ty:=4);rfl;rfl;rfl;rfl)|(apply dT (ty:=0);rfl;rfl;rfl;rfl)|(apply dF (ty:=0);rfl;rfl;rfl;rfl)|(apply dB (ty:=0);rfl;rfl;rfl;rfl)|refine Jh ?_|(apply Wp.draw tOk follows;kernel_rfl)|intro hb
       refine DropQ.go [(2,.ptr 1 2 0 0),(85,slV b 4 (Zb kz)),(86,.int .i64 (kz.length:Int)),(87,.int .i64 ((i+1:Nat):Int))] ⟨rfl,rfl,rfl,rfl,trivial⟩ ?_ rfl ?_ ?_
       · simp [Ze,under]
       · simp [ZO,mpN,Zo,Ze,under]
       · exact LoopI.go (m2-1) (by omega) ⟨i+1,_,by omega,rfl,rfl,rfl⟩
     · rw [decide_eq_false c1] at n1
       rw [if_pos c1]
       repeat' first|refine Jk ?_|refine Jc (hq _) ?_|refine JS ?_|refine Ji ?_|refine JJ ?_|refine Jl ?_|refine Jx ?_|refine Jt ?_|refine Jb ?_ ?_|(apply qT (ty:=0);rfl;rfl;rfl)|(apply qF (ty:=0);rfl;rfl;rfl)|refine Jz ?_ ?_|refine Jo ?_|(apply dK;rfl;rfl;rfl)|refine Jd (hq _) ?_|(apply dSl;rfl;rfl;rfl;rfl;rfl;rfl;assumption;exact IsV.any _;rfl)|refine JD ?_|refine JK ?_|(apply dLn;rfl;rfl;rfl;rfl;rfl)|refine JI ?_|(apply dT (ty:=4);rfl;rfl;rfl;rfl)|(apply dF (ty:=4);rfl;rfl;rfl;rfl)|(apply dB (ty:=4);rfl;rfl;rfl;rfl)|(apply dT (ty:=0);rfl;rfl;rfl;rfl)|(apply dF (ty:=0);rfl;rfl;rfl;rfl)|(apply dB (ty:=0);rfl;rfl;rfl;rfl)|refine Jh ?_|(apply Wp.draw tOk follows;kernel_rfl)|intro hb
       all_goals rfl
   · have e : i = kz.length := by omega
     subst e
     have hlx:=Zn (kz.length:Int) (kz.length:Int)
     rw [decide_eq_false (by omega)] at hlx
     rw [List.drop_length]
     repeat' first|refine Jk ?_|refine JS ?_|refine Ji ?_|refine JJ ?_|refine Jl ?_|refine Jx ?_|refine Jt ?_|refine Jb ?_ ?_|(apply qT (ty:=0);rfl;rfl;rfl)|(apply qF (ty:=0);rfl;rfl;rfl)|refine Jz ?_ ?_|refine Jo ?_|(apply dK;rfl;rfl;rfl)|(apply dSl;rfl;rfl;rfl;rfl;rfl;rfl;assumption;exact IsV.any _;rfl)|refine JD ?_|refine JK ?_|(apply dLn;rfl;rfl;rfl;rfl;rfl)|refine JI ?_|(apply dT (ty:=4);rfl;rfl;rfl;rfl)|(apply dF (ty:=4);rfl;rfl;rfl;rfl)|(apply dB (ty:=4);rfl;rfl;rfl;rfl)|(apply dT (ty:=0);rfl;rfl;rfl;rfl)|(apply dF (ty:=0);rfl;rfl;rfl;rfl)|(apply dB (ty:=0);rfl;rfl;rfl;rfl)|refine Jh ?_|(apply Wp.draw tOk follows;kernel_rfl)|intro hb
     all_goals rfl
 |false=>
 rw [h1] at i1
 cases h2:isA T Ze5 2 with
 | true =>
   have hl2:=len h2
   rw [h2] at i2
   rw [hgo 2 (hK.trans (if_pos (.inr h2))) (by decide),List.take_of_length_le (by omega)]
   clear h1 h2 hK hgo hno len
   repeat' first|refine Jk ?_|refine Jc (i1 _) ?_|refine Jc (i2 _) ?_|refine JS ?_|refine Ji ?_|refine JJ ?_|refine Jl ?_|refine Jx ?_|refine Jt ?_|refine Jb ?_ ?_|(apply qT (ty:=0);rfl;rfl;rfl)|(apply qF (ty:=0);rfl;rfl;rfl)|refine Jz ?_ ?_|refine Jo ?_|(apply dK;rfl;rfl;rfl)|refine Jd (i1 _) ?_|refine Jd (i2 _) ?_|(apply dSl;rfl;rfl;rfl;rfl;rfl;rfl;assumption;exact IsV.any _;rfl)|refine JD ?_|refine JK ?_|(apply dLn;rfl;rfl;rfl;rfl;rfl)|refine JI ?_|(apply dT (ty:=4);rfl;rfl;rfl;rfl)|(apply dF (ty:=4);rfl;rfl;rfl;rfl)|(apply dB (ty:=4);rfl;rfl;rfl;rfl)|(apply dT (ty:=0);rfl;rfl;rfl;rfl)|(apply dF (ty:=0);rfl;rfl;rfl;rfl)|(apply dB (ty:=0);rfl;rfl;rfl;rfl)|refine Jh ?_|(apply Wp.draw tOk follows;kernel_rfl)|intro hb
   refine Wp.while (fun m2 tm H=>∃ (i:Nat) (base:TM),i+m2=kz.length∧Zv (Tm.sc R N) kz=Zv (Tm.sc R N) (kz.drop i)∧tm=ovr base [(2,.ptr 1 2 0 0),(85,slV b 4 (Zb kz)),(86,.int .i64 (kz.length:Int)),(87,.int .i64 (i:Int))]∧H=⟨[.map (mpN l),.cells 2 [[slV rn 1 (Zi R),.map 0]],.cells 4 [[.int .i64 3,.str nm,.int .i64 s,slV b 4 (Zb kz)]]],1,[],0⟩)
    (fun m2 tm H hI=>Wp.drop ?_) kz.length _ _ ⟨0,_,by omega,by simp,Zf ⟨rfl,rfl,Zz (by rw [Za]),rfl,trivial⟩,rfl⟩
   obtain ⟨i,base,hi,hgo,rfl,rfl⟩:=hI
   rw [hgo]
   by_cases hlt:i<kz.length
   · obtain ⟨t, ht⟩ : ∃ t, kz[i]? = some t := ⟨kz[i], by simp⟩
     have hq:=fun e1=>(ih t (List.mem_of_getElem? ht)).ext (ext:=e1) rfl (uTT _ _ _ _) (uM (Xw _ _)) (Nat.le_refl _)
     have hlx:=Zn (i:Int) (kz.length:Int)
     rw [decide_eq_true (by omega)] at hlx
     have hii:=Zy (a:=(i:Int)) (b:=1) (by omega) (by omega)
     rw [show (i:Int)+1=((i+1:Nat):Int) by omega] at hii
     rw [Zl ht rfl]
     have n1:=ZK (t.sc R N) 0
     generalize t.sc R N=e at hq n1 ⊢
     obtain ⟨k',nm',s',b',kz'⟩:=t
     have hj:=Zh ht
     simp only [Tm.cells] at hq
     by_cases c1:e=0
     · rw [decide_eq_true c1] at n1
       rw [if_neg (by omega)]
       repeat' first|refine Jk ?_|refine Jc (hq _) ?_|refine JS ?_|refine Ji ?_|refine JJ ?_|refine Jl ?_|refine Jx ?_|refine Jt ?_|refine Jb ?_ ?_|(apply qT (ty:=0);rfl;rfl;rfl)|(apply qF (ty:=0);rfl;rfl;rfl)|refine Jz ?_ ?_|refine Jo ?_|(apply dK;rfl;rfl;rfl)|refine Jd (hq _) ?_|(apply dSl;rfl;rfl;rfl;rfl;rfl;rfl;assumption;exact IsV.any _;rfl)|refine JD ?_|refine JK ?_|(apply dLn;rfl;rfl;rfl;rfl;rfl)|refine JI ?_|(apply dT (ty:=4);rfl;rfl;rfl;rfl)|(apply dF (ty:=4);rfl;rfl;rfl;rfl)|(apply dB (ty:=4);rfl;rfl;rfl;rfl)|(apply dT (ty:=0);rfl;rfl;rfl;rfl)|(apply dF (ty:=0);rfl;rfl;rfl;rfl)|(apply dB (ty:=0);rfl;rfl;rfl;rfl)|refine Jh ?_|(apply Wp.draw tOk follows;kernel_rfl)|intro hb
       refine DropQ.go [(2,.ptr 1 2 0 0),(85,slV b 4 (Zb kz)),(86,.int .i64 (kz.length:Int)),(87,.int .i64 ((i+1:Nat):Int))] ⟨rfl,rfl,rfl,rfl,trivial⟩ ?_ rfl ?_ ?_
       · simp [Ze,under]
       · simp [ZO,mpN,Zo,Ze,under]
       · exact LoopI.go (m2-1) (by omega) ⟨i+1,_,by omega,rfl,rfl,rfl⟩
     · rw [decide_eq_false c1] at n1
       rw [if_pos c1]
       repeat' first|refine Jk ?_|refine Jc (hq _) ?_|refine JS ?_|refine Ji ?_|refine JJ ?_|refine Jl ?_|refine Jx ?_|refine Jt ?_|refine Jb ?_ ?_|(apply qT (ty:=0);rfl;rfl;rfl)|(apply qF (ty:=0);rfl;rfl;rfl)|refine Jz ?_ ?_|refine Jo ?_|(apply dK;rfl;rfl;rfl)|refine Jd (hq _) ?_|(apply dSl;rfl;rfl;rfl;rfl;rfl;rfl;assumption;exact IsV.any _;rfl)|refine JD ?_|refine JK ?_|(apply dLn;rfl;rfl;rfl;rfl;rfl)|refine JI ?_|(apply dT (ty:=4);rfl;rfl;rfl;rfl)|(apply dF (ty:=4);rfl;rfl;rfl;rfl)|(apply dB (ty:=4);rfl;rfl;rfl;rfl)|(apply dT (ty:=0);rfl;rfl;rfl;rfl)|(apply dF (ty:=0);rfl;rfl;rfl;rfl)|(apply dB (ty:=0);rfl;rfl;rfl;rfl)|refine Jh ?_|(apply Wp.draw tOk follows;kernel_rfl)|intro hb
       all_goals rfl
   · have e : i = kz.length := by omega
     subst e
     have hlx:=Zn (kz.length:Int) (kz.length:Int)
     rw [decide_eq_false (by omega)] at hlx
     rw [List.drop_length]
     repeat' first|refine Jk ?_|refine JS ?_|refine Ji ?_|refine JJ ?_|refine Jl ?_|refine Jx ?_|refine Jt ?_|refine Jb ?_ ?_|(apply qT (ty:=0);rfl;rfl;rfl)|(apply qF (ty:=0);rfl;rfl;rfl)|refine Jz ?_ ?_|refine Jo ?_|(apply dK;rfl;rfl;rfl)|(apply dSl;rfl;rfl;rfl;rfl;rfl;rfl;assumption;exact IsV.any _;rfl)|refine JD ?_|refine JK ?_|(apply dLn;rfl;rfl;rfl;rfl;rfl)|refine JI ?_|(apply dT (ty:=4);rfl;rfl;rfl;rfl)|(apply dF (ty:=4);rfl;rfl;rfl;rfl)|(apply dB (ty:=4);rfl;rfl;rfl;rfl)|(apply dT (ty:=0);rfl;rfl;rfl;rfl)|(apply dF (ty:=0);rfl;rfl;rfl;rfl)|(apply dB (ty:=0);rfl;rfl;rfl;rfl)|refine Jh ?_|(apply Wp.draw tOk follows;kernel_rfl)|intro hb
     all_goals rfl
 |false=>
 rw [h2] at i2
 rw [if_neg (by simp [h1,h2])] at hK
 cases h3:isA T WA 1 with
 | true =>
   have hl2:=len h3
   rw [h3] at i3
   rw [hgo 1 (hK.trans (if_pos h3)) (by decide),List.take_of_length_le (by omega)]
   clear h1 h2 h3 hK hgo hno len
   repeat' first|refine Jk ?_|(apply qCl;rfl;rfl;rfl;rfl;first|exact i1 _|exact i2 _|exact i3 _)|refine JS ?_|refine Ji ?_|refine JJ ?_|refine Jl ?_|refine Jx ?_|refine Jt ?_|refine Jb ?_ ?_|(apply qT (ty:=0);rfl;rfl;rfl)|(apply qF (ty:=0);rfl;rfl;rfl)|refine Jz ?_ ?_|refine Jo ?_|(apply dK;rfl;rfl;rfl)|(apply dCl;rfl;rfl;rfl;rfl;rfl;first|exact i1 _|exact i2 _|exact i3 _)|(apply dSl;rfl;rfl;rfl;rfl;rfl;rfl;assumption;exact IsV.any _;rfl)|refine JD ?_|refine JK ?_|(apply dLn;rfl;rfl;rfl;rfl;rfl)|refine JI ?_|(apply dT (ty:=4);rfl;rfl;rfl;rfl)|(apply dF (ty:=4);rfl;rfl;rfl;rfl)|(apply dB (ty:=4);rfl;rfl;rfl;rfl)|(apply dT (ty:=0);rfl;rfl;rfl;rfl)|(apply dF (ty:=0);rfl;rfl;rfl;rfl)|(apply dB (ty:=0);rfl;rfl;rfl;rfl)|refine Jh ?_|(apply Wp.draw tOk follows;kernel_rfl)|intro hb
   refine Wp.while (fun m2 tm H=>∃ (i:Nat) (base:TM),i+m2=kz.length∧Zv (Tm.sc R N) kz=Zv (Tm.sc R N) (kz.drop i)∧tm=ovr base [(2,.ptr 1 2 0 0),(85,slV b 4 (Zb kz)),(86,.int .i64 (kz.length:Int)),(87,.int .i64 (i:Int))]∧H=⟨[.map (mpN l),.cells 2 [[slV rn 1 (Zi R),.map 0]],.cells 4 [[.int .i64 3,.str nm,.int .i64 s,slV b 4 (Zb kz)]]],1,[],0⟩)
    (fun m2 tm H hI=>Wp.drop ?_) kz.length _ _ ⟨0,_,by omega,by simp,Zf ⟨rfl,rfl,Zz (by rw [Za]),rfl,trivial⟩,rfl⟩
   obtain ⟨i,base,hi,hgo,rfl,rfl⟩:=hI
   rw [hgo]
   by_cases hlt:i<kz.length
   · obtain ⟨t, ht⟩ : ∃ t, kz[i]? = some t := ⟨kz[i], by simp⟩
     have hq:=fun e1=>(ih t (List.mem_of_getElem? ht)).ext (ext:=e1) rfl (uTT _ _ _ _) (uM (Xw _ _)) (Nat.le_refl _)
     have hlx:=Zn (i:Int) (kz.length:Int)
     rw [decide_eq_true (by omega)] at hlx
     have hii:=Zy (a:=(i:Int)) (b:=1) (by omega) (by omega)
     rw [show (i:Int)+1=((i+1:Nat):Int) by omega] at hii
     rw [Zl ht rfl]
     have n1:=ZK (t.sc R N) 0
     generalize t.sc R N=e at hq n1 ⊢
     obtain ⟨k',nm',s',b',kz'⟩:=t
     have hj:=Zh ht
     simp only [Tm.cells] at hq
     by_cases c1:e=0
     · rw [decide_eq_true c1] at n1
       rw [if_neg (by omega)]
       repeat' first|refine Jk ?_|refine Jc (hq _) ?_|refine JS ?_|refine Ji ?_|refine JJ ?_|refine Jl ?_|refine Jx ?_|refine Jt ?_|refine Jb ?_ ?_|(apply qT (ty:=0);rfl;rfl;rfl)|(apply qF (ty:=0);rfl;rfl;rfl)|refine Jz ?_ ?_|refine Jo ?_|(apply dK;rfl;rfl;rfl)|refine Jd (hq _) ?_|(apply dSl;rfl;rfl;rfl;rfl;rfl;rfl;assumption;exact IsV.any _;rfl)|refine JD ?_|refine JK ?_|(apply dLn;rfl;rfl;rfl;rfl;rfl)|refine JI ?_|(apply dT (ty:=4);rfl;rfl;rfl;rfl)|(apply dF (ty:=4);rfl;rfl;rfl;rfl)|(apply dB (ty:=4);rfl;rfl;rfl;rfl)|(apply dT (ty:=0);rfl;rfl;rfl;rfl)|(apply dF (ty:=0);rfl;rfl;rfl;rfl)|(apply dB (ty:=0);rfl;rfl;rfl;rfl)|refine Jh ?_|(apply Wp.draw tOk follows;kernel_rfl)|intro hb
       refine DropQ.go [(2,.ptr 1 2 0 0),(85,slV b 4 (Zb kz)),(86,.int .i64 (kz.length:Int)),(87,.int .i64 ((i+1:Nat):Int))] ⟨rfl,rfl,rfl,rfl,trivial⟩ ?_ rfl ?_ ?_
       · simp [Ze,under]
       · simp [ZO,mpN,Zo,Ze,under]
       · exact LoopI.go (m2-1) (by omega) ⟨i+1,_,by omega,rfl,rfl,rfl⟩
     · rw [decide_eq_false c1] at n1
       rw [if_pos c1]
       repeat' first|refine Jk ?_|refine Jc (hq _) ?_|refine JS ?_|refine Ji ?_|refine JJ ?_|refine Jl ?_|refine Jx ?_|refine Jt ?_|refine Jb ?_ ?_|(apply qT (ty:=0);rfl;rfl;rfl)|(apply qF (ty:=0);rfl;rfl;rfl)|refine Jz ?_ ?_|refine Jo ?_|(apply dK;rfl;rfl;rfl)|refine Jd (hq _) ?_|(apply dSl;rfl;rfl;rfl;rfl;rfl;rfl;assumption;exact IsV.any _;rfl)|refine JD ?_|refine JK ?_|(apply dLn;rfl;rfl;rfl;rfl;rfl)|refine JI ?_|(apply dT (ty:=4);rfl;rfl;rfl;rfl)|(apply dF (ty:=4);rfl;rfl;rfl;rfl)|(apply dB (ty:=4);rfl;rfl;rfl;rfl)|(apply dT (ty:=0);rfl;rfl;rfl;rfl)|(apply dF (ty:=0);rfl;rfl;rfl;rfl)|(apply dB (ty:=0);rfl;rfl;rfl;rfl)|refine Jh ?_|(apply Wp.draw tOk follows;kernel_rfl)|intro hb
       all_goals rfl
   · have e : i = kz.length := by omega
     subst e
     have hlx:=Zn (kz.length:Int) (kz.length:Int)
     rw [decide_eq_false (by omega)] at hlx
     rw [List.drop_length]
     repeat' first|refine Jk ?_|refine JS ?_|refine Ji ?_|refine JJ ?_|refine Jl ?_|refine Jx ?_|refine Jt ?_|refine Jb ?_ ?_|(apply qT (ty:=0);rfl;rfl;rfl)|(apply qF (ty:=0);rfl;rfl;rfl)|refine Jz ?_ ?_|refine Jo ?_|(apply dK;rfl;rfl;rfl)|(apply dSl;rfl;rfl;rfl;rfl;rfl;rfl;assumption;exact IsV.any _;rfl)|refine JD ?_|refine JK ?_|(apply dLn;rfl;rfl;rfl;rfl;rfl)|refine JI ?_|(apply dT (ty:=4);rfl;rfl;rfl;rfl)|(apply dF (ty:=4);rfl;rfl;rfl;rfl)|(apply dB (ty:=4);rfl;rfl;rfl;rfl)|(apply dT (ty:=0);rfl;rfl;rfl;rfl)|(apply dF (ty:=0);rfl;rfl;rfl;rfl)|(apply dB (ty:=0);rfl;rfl;rfl;rfl)|refine Jh ?_|(apply Wp.draw tOk follows;kernel_rfl)|intro hb
     all_goals rfl
 |false=>
 rw [h3] at i3
 rw [if_neg (by simp [h3])] at hK
 clear h1 h2 h3
 cases h4:isA T Vb 2 with
 | true =>
   obtain ⟨x,y,rfl⟩:=sh2 (len h4)
   rw [h4] at i4
   have py:=fun e1=>(Zjq (es:=mpN l) hR rn y hbu).ext (ext:=e1) rfl (uTT _ _ _ _) (uM hbu) (Nat.le_refl _)
   rw [show ([x,y].drop 1).all (WJ R)=WJ R y by simp] at hK
   have hct:=Zjx b x y
   cases h5:WJ R y with
   | true =>
     rw [h5] at py
     rw [hgo 1 (hK.trans (if_pos ⟨h4,h5⟩)) (by decide),show [x,y].take 1= [x] from rfl]
     obtain ⟨M,hMx⟩:∃ M,M= [x]:=⟨_,rfl⟩
     have hMl:M.length≤9223372036854775807:=by rw [hMx];simp
     have hMm:∀ t,t∈M→t=x:=fun t ht=>by rw [hMx] at ht;exact List.mem_singleton.1 ht
     rw [← hMx] at hct ⊢
     clear hMx
     clear h4 h5 hK hgo hno len
     obtain ⟨k2,nm2,s2,b2,kz2⟩:=y
     have hj2:=Zh (l:=[x,.mk k2 nm2 s2 b2 kz2]) (i:=1) rfl
     simp only [Tm.cells] at py
     repeat' first|refine Jk ?_|(apply qCl;rfl;rfl;rfl;rfl;first|exact i1 _|exact i2 _|exact i3 _|exact i4 _|exact py _)|refine JS ?_|refine Ji ?_|refine JJ ?_|refine Jl ?_|refine Jx ?_|refine Jt ?_|refine Jb ?_ ?_|(apply qT (ty:=0);rfl;rfl;rfl)|(apply qF (ty:=0);rfl;rfl;rfl)|refine Jz ?_ ?_|refine Jo ?_|(apply dK;rfl;rfl;rfl)|(apply dCl;rfl;rfl;rfl;rfl;rfl;first|exact i1 _|exact i2 _|exact i3 _|exact i4 _|exact py _)|(apply dSl;rfl;rfl;rfl;rfl;rfl;rfl;assumption;exact IsV.any _;rfl)|refine JD ?_|refine JK ?_|(apply dLn;rfl;rfl;rfl;rfl;rfl)|refine JI ?_|(apply dT (ty:=4);rfl;rfl;rfl;rfl)|(apply dF (ty:=4);rfl;rfl;rfl;rfl)|(apply dB (ty:=4);rfl;rfl;rfl;rfl)|(apply dT (ty:=0);rfl;rfl;rfl;rfl)|(apply dF (ty:=0);rfl;rfl;rfl;rfl)|(apply dB (ty:=0);rfl;rfl;rfl;rfl)|refine Jh ?_|(apply Wp.draw tOk follows;kernel_rfl)|intro hb
     refine Wp.while (fun m2 tm H=>∃ (i:Nat) (base:TM),i+m2=M.length∧Zv (Tm.sc R N) M=Zv (Tm.sc R N) (M.drop i)∧tm=ovr base [(2,.ptr 1 2 0 0),(85,slV false 4 (Zb M)),(86,.int .i64 (M.length:Int)),(87,.int .i64 (i:Int))]∧H=⟨[.map (mpN l),.cells 2 [[slV rn 1 (Zi R),.map 0]],.cells 4 [[.int .i64 3,.str nm,.int .i64 s,slV b 4 (Zb [x,.mk k2 nm2 s2 b2 kz2])]]],1,[],0⟩)
      (fun m2 tm H hI=>Wp.drop ?_) M.length _ _ ⟨0,_,by omega,by simp,Zf ⟨rfl,rfl,Zz (by rw [Za]),rfl,trivial⟩,rfl⟩
     obtain ⟨i,base,hi,hgo,rfl,rfl⟩:=hI
     rw [hgo]
     by_cases hlt:i<M.length
     · obtain ⟨t, ht⟩ : ∃ t, M[i]? = some t := ⟨M[i], by simp⟩
       have hq:=fun e1=>(ih t (List.mem_cons.2 (.inl (hMm t (List.mem_of_getElem? ht))))).ext (ext:=e1) rfl (uTT _ _ _ _) (uM (Xw _ _)) (Nat.le_refl _)
       have hlx:=Zn (i:Int) (M.length:Int)
       rw [decide_eq_true (by omega)] at hlx
       have hii:=Zy (a:=(i:Int)) (b:=1) (by omega) (by omega)
       rw [show (i:Int)+1=((i+1:Nat):Int) by omega] at hii
       rw [Zl ht rfl]
       have n1:=ZK (t.sc R N) 0
       generalize t.sc R N=e at hq n1 ⊢
       obtain ⟨k',nm',s',b',kz'⟩:=t
       have hj:=Zh ht
       simp only [Tm.cells] at hq
       by_cases c1:e=0
       · rw [decide_eq_true c1] at n1
         rw [if_neg (by omega)]
         repeat' first|refine Jk ?_|refine Jc (hq _) ?_|refine JS ?_|refine Ji ?_|refine JJ ?_|refine Jl ?_|refine Jx ?_|refine Jt ?_|refine Jb ?_ ?_|(apply qT (ty:=0);rfl;rfl;rfl)|(apply qF (ty:=0);rfl;rfl;rfl)|refine Jz ?_ ?_|refine Jo ?_|(apply dK;rfl;rfl;rfl)|refine Jd (hq _) ?_|(apply dSl;rfl;rfl;rfl;rfl;rfl;rfl;assumption;exact IsV.any _;rfl)|refine JD ?_|refine JK ?_|(apply dLn;rfl;rfl;rfl;rfl;rfl)|refine JI ?_|(apply dT (ty:=4);rfl;rfl;rfl;rfl)|(apply dF (ty:=4);rfl;rfl;rfl;rfl)|(apply dB (ty:=4);rfl;rfl;rfl;rfl)|(apply dT (ty:=0);rfl;rfl;rfl;rfl)|(apply dF (ty:=0);rfl;rfl;rfl;rfl)|(apply dB (ty:=0);rfl;rfl;rfl;rfl)|refine Jh ?_|(apply Wp.draw tOk follows;kernel_rfl)|intro hb
         refine DropQ.go [(2,.ptr 1 2 0 0),(85,slV false 4 (Zb M)),(86,.int .i64 (M.length:Int)),(87,.int .i64 ((i+1:Nat):Int))] ⟨rfl,rfl,rfl,rfl,trivial⟩ ?_ rfl ?_ ?_
         · simp [Ze,under]
         · simp [ZO,mpN,Zo,Ze,under]
         · exact LoopI.go (m2-1) (by omega) ⟨i+1,_,by omega,rfl,rfl,rfl⟩
       · rw [decide_eq_false c1] at n1
         rw [if_pos c1]
         repeat' first|refine Jk ?_|refine Jc (hq _) ?_|refine JS ?_|refine Ji ?_|refine JJ ?_|refine Jl ?_|refine Jx ?_|refine Jt ?_|refine Jb ?_ ?_|(apply qT (ty:=0);rfl;rfl;rfl)|(apply qF (ty:=0);rfl;rfl;rfl)|refine Jz ?_ ?_|refine Jo ?_|(apply dK;rfl;rfl;rfl)|refine Jd (hq _) ?_|(apply dSl;rfl;rfl;rfl;rfl;rfl;rfl;assumption;exact IsV.any _;rfl)|refine JD ?_|refine JK ?_|(apply dLn;rfl;rfl;rfl;rfl;rfl)|refine JI ?_|(apply dT (ty:=4);rfl;rfl;rfl;rfl)|(apply dF (ty:=4);rfl;rfl;rfl;rfl)|(apply dB (ty:=4);rfl;rfl;rfl;rfl)|(apply dT (ty:=0);rfl;rfl;rfl;rfl)|(apply dF (ty:=0);rfl;rfl;rfl;rfl)|(apply dB (ty:=0);rfl;rfl;rfl;rfl)|refine Jh ?_|(apply Wp.draw tOk follows;kernel_rfl)|intro hb
         all_goals rfl
     · have e : i = M.length := by omega
       subst e
       have hlx:=Zn (M.length:Int) (M.length:Int)
       rw [decide_eq_false (by omega)] at hlx
       rw [List.drop_length]
       repeat' first|refine Jk ?_|refine JS ?_|refine Ji ?_|refine JJ ?_|refine Jl ?_|refine Jx ?_|refine Jt ?_|refine Jb ?_ ?_|(apply qT (ty:=0);rfl;rfl;rfl)|(apply qF (ty:=0);rfl;rfl;rfl)|refine Jz ?_ ?_|refine Jo ?_|(apply dK;rfl;rfl;rfl)|(apply dSl;rfl;rfl;rfl;rfl;rfl;rfl;assumption;exact IsV.any _;rfl)|refine JD ?_|refine JK ?_|(apply dLn;rfl;rfl;rfl;rfl;rfl)|refine JI ?_|(apply dT (ty:=4);rfl;rfl;rfl;rfl)|(apply dF (ty:=4);rfl;rfl;rfl;rfl)|(apply dB (ty:=4);rfl;rfl;rfl;rfl)|(apply dT (ty:=0);rfl;rfl;rfl;rfl)|(apply dF (ty:=0);rfl;rfl;rfl;rfl)|(apply dB (ty:=0);rfl;rfl;rfl;rfl)|refine Jh ?_|(apply Wp.draw tOk follows;kernel_rfl)|intro hb
       all_goals rfl
   | false =>
     rw [h5] at py
     have h55:isA T VK 2=false:=by
      cases h:isA T VK 2 with
      | false=>rfl
      | true=>exact absurd ((Yn h4).2.2.symm.trans (Yn h).2.2) (by decide)
     have h66:isA T ZbZ 2=false:=by
      cases h:isA T ZbZ 2 with
      | false=>rfl
      | true=>exact absurd ((Yn h4).2.2.symm.trans (Yn h).2.2) (by decide)
     have h77:WJ R T=false:=by
      cases h:WJ R T with
      | false=>rfl
      | true =>
        simp only [WJ,Bool.and_eq_true] at h
        exact absurd ((Yn h4).2.2.symm.trans (Yn h.1).2.2) (by decide)
     rw [h55] at i5
     rw [h66] at i6
     rw [h77] at pT
     rw [if_neg (by simp [h5]),if_neg (by simp [h55]),if_neg (by simp [h77]),if_neg (by simp [h66])] at hK
     rw [hno hK]
     clear h4 h5 h55 h66 h77 hK hgo hno len
     obtain ⟨k2,nm2,s2,b2,kz2⟩:=y
     have hj2:=Zh (l:=[x,.mk k2 nm2 s2 b2 kz2]) (i:=1) rfl
     simp only [Tm.cells] at py
     repeat' first|refine Jk ?_|(apply qCl;rfl;rfl;rfl;rfl;first|exact i1 _|exact i2 _|exact i3 _|exact i4 _|exact i5 _|exact i6 _|exact py _|exact pT _)|refine JS ?_|refine Ji ?_|refine JJ ?_|refine Jl ?_|refine Jx ?_|refine Jt ?_|refine Jb ?_ ?_|(apply qT (ty:=0);rfl;rfl;rfl)|(apply qF (ty:=0);rfl;rfl;rfl)|refine Jz ?_ ?_|refine Jo ?_|(apply dK;rfl;rfl;rfl)|(apply dCl;rfl;rfl;rfl;rfl;rfl;first|exact i1 _|exact i2 _|exact i3 _|exact i4 _|exact i5 _|exact i6 _|exact py _|exact pT _)|(apply dSl;rfl;rfl;rfl;rfl;rfl;rfl;assumption;exact IsV.any _;rfl)|refine JD ?_|refine JK ?_|(apply dLn;rfl;rfl;rfl;rfl;rfl)|refine JI ?_|(apply dT (ty:=4);rfl;rfl;rfl;rfl)|(apply dF (ty:=4);rfl;rfl;rfl;rfl)|(apply dB (ty:=4);rfl;rfl;rfl;rfl)|(apply dT (ty:=0);rfl;rfl;rfl;rfl)|(apply dF (ty:=0);rfl;rfl;rfl;rfl)|(apply dB (ty:=0);rfl;rfl;rfl;rfl)|refine Jh ?_|(apply Wp.draw tOk follows;kernel_rfl)|intro hb
     all_goals rfl
 |false=>
 rw [h4] at i4
 rw [if_neg (by simp [h4])] at hK
 clear h4
 cases h5:isA T VK 2 with
 | true =>
   obtain ⟨x,y,rfl⟩:=sh2 (len h5)
   rw [h5] at i5
   have py:=fun e1=>(Zjo (es:=mpN l) hR rn y hbu).ext (ext:=e1) rfl (uTT _ _ _ _) (uM hbu) (Nat.le_refl _)
   rw [show ([x,y].drop 1).all (VW R)=VW R y by simp] at hK
   have hct:=Zjx b x y
   cases h6:VW R y with
   | true =>
     rw [h6] at py
     rw [hgo 1 (hK.trans (if_pos ⟨h5,h6⟩)) (by decide),show [x,y].take 1= [x] from rfl]
     obtain ⟨M,hMx⟩:∃ M,M= [x]:=⟨_,rfl⟩
     have hMl:M.length≤9223372036854775807:=by rw [hMx];simp
     have hMm:∀ t,t∈M→t=x:=fun t ht=>by rw [hMx] at ht;exact List.mem_singleton.1 ht
     rw [← hMx] at hct ⊢
     clear hMx
     clear h5 h6 hK hgo hno len
     obtain ⟨k2,nm2,s2,b2,kz2⟩:=y
     have hj2:=Zh (l:=[x,.mk k2 nm2 s2 b2 kz2]) (i:=1) rfl
     simp only [Tm.cells] at py
     repeat' first|refine Jk ?_|(apply qCl;rfl;rfl;rfl;rfl;first|exact i1 _|exact i2 _|exact i3 _|exact i4 _|exact i5 _|exact py _)|refine JS ?_|refine Ji ?_|refine JJ ?_|refine Jl ?_|refine Jx ?_|refine Jt ?_|refine Jb ?_ ?_|(apply qT (ty:=0);rfl;rfl;rfl)|(apply qF (ty:=0);rfl;rfl;rfl)|refine Jz ?_ ?_|refine Jo ?_|(apply dK;rfl;rfl;rfl)|(apply dCl;rfl;rfl;rfl;rfl;rfl;first|exact i1 _|exact i2 _|exact i3 _|exact i4 _|exact i5 _|exact py _)|(apply dSl;rfl;rfl;rfl;rfl;rfl;rfl;assumption;exact IsV.any _;rfl)|refine JD ?_|refine JK ?_|(apply dLn;rfl;rfl;rfl;rfl;rfl)|refine JI ?_|(apply dT (ty:=4);rfl;rfl;rfl;rfl)|(apply dF (ty:=4);rfl;rfl;rfl;rfl)|(apply dB (ty:=4);rfl;rfl;rfl;rfl)|(apply dT (ty:=0);rfl;rfl;rfl;rfl)|(apply dF (ty:=0);rfl;rfl;rfl;rfl)|(apply dB (ty:=0);rfl;rfl;rfl;rfl)|refine Jh ?_|(apply Wp.draw tOk follows;kernel_rfl)|intro hb
     refine Wp.while (fun m2 tm H=>∃ (i:Nat) (base:TM),i+m2=M.length∧Zv (Tm.sc R N) M=Zv (Tm.sc R N) (M.drop i)∧tm=ovr base [(2,.ptr 1 2 0 0),(85,slV false 4 (Zb M)),(86,.int .i64 (M.length:Int)),(87,.int .i64 (i:Int))]∧H=⟨[.map (mpN l),.cells 2 [[slV rn 1 (Zi R),.map 0]],.cells 4 [[.int .i64 3,.str nm,.int .i64 s,slV b 4 (Zb [x,.mk k2 nm2 s2 b2 kz2])]]],1,[],0⟩)
      (fun m2 tm H hI=>Wp.drop ?_) M.length _ _ ⟨0,_,by omega,by simp,Zf ⟨rfl,rfl,Zz (by rw [Za]),rfl,trivial⟩,rfl⟩
     obtain ⟨i,base,hi,hgo,rfl,rfl⟩:=hI
     rw [hgo]
     by_cases hlt:i<M.length
     · obtain ⟨t, ht⟩ : ∃ t, M[i]? = some t := ⟨M[i], by simp⟩
       have hq:=fun e1=>(ih t (List.mem_cons.2 (.inl (hMm t (List.mem_of_getElem? ht))))).ext (ext:=e1) rfl (uTT _ _ _ _) (uM (Xw _ _)) (Nat.le_refl _)
       have hlx:=Zn (i:Int) (M.length:Int)
       rw [decide_eq_true (by omega)] at hlx
       have hii:=Zy (a:=(i:Int)) (b:=1) (by omega) (by omega)
       rw [show (i:Int)+1=((i+1:Nat):Int) by omega] at hii
       rw [Zl ht rfl]
       have n1:=ZK (t.sc R N) 0
       generalize t.sc R N=e at hq n1 ⊢
       obtain ⟨k',nm',s',b',kz'⟩:=t
       have hj:=Zh ht
       simp only [Tm.cells] at hq
       by_cases c1:e=0
       · rw [decide_eq_true c1] at n1
         rw [if_neg (by omega)]
         repeat' first|refine Jk ?_|refine Jc (hq _) ?_|refine JS ?_|refine Ji ?_|refine JJ ?_|refine Jl ?_|refine Jx ?_|refine Jt ?_|refine Jb ?_ ?_|(apply qT (ty:=0);rfl;rfl;rfl)|(apply qF (ty:=0);rfl;rfl;rfl)|refine Jz ?_ ?_|refine Jo ?_|(apply dK;rfl;rfl;rfl)|refine Jd (hq _) ?_|(apply dSl;rfl;rfl;rfl;rfl;rfl;rfl;assumption;exact IsV.any _;rfl)|refine JD ?_|refine JK ?_|(apply dLn;rfl;rfl;rfl;rfl;rfl)|refine JI ?_|(apply dT (ty:=4);rfl;rfl;rfl;rfl)|(apply dF (ty:=4);rfl;rfl;rfl;rfl)|(apply dB (ty:=4);rfl;rfl;rfl;rfl)|(apply dT (ty:=0);rfl;rfl;rfl;rfl)|(apply dF (ty:=0);rfl;rfl;rfl;rfl)|(apply dB (ty:=0);rfl;rfl;rfl;rfl)|refine Jh ?_|(apply Wp.draw tOk follows;kernel_rfl)|intro hb
         refine DropQ.go [(2,.ptr 1 2 0 0),(85,slV false 4 (Zb M)),(86,.int .i64 (M.length:Int)),(87,.int .i64 ((i+1:Nat):Int))] ⟨rfl,rfl,rfl,rfl,trivial⟩ ?_ rfl ?_ ?_
         · simp [Ze,under]
         · simp [ZO,mpN,Zo,Ze,under]
         · exact LoopI.go (m2-1) (by omega) ⟨i+1,_,by omega,rfl,rfl,rfl⟩
       · rw [decide_eq_false c1] at n1
         rw [if_pos c1]
         repeat' first|refine Jk ?_|refine Jc (hq _) ?_|refine JS ?_|refine Ji ?_|refine JJ ?_|refine Jl ?_|refine Jx ?_|refine Jt ?_|refine Jb ?_ ?_|(apply qT (ty:=0);rfl;rfl;rfl)|(apply qF (ty:=0);rfl;rfl;rfl)|refine Jz ?_ ?_|refine Jo ?_|(apply dK;rfl;rfl;rfl)|refine Jd (hq _) ?_|(apply dSl;rfl;rfl;rfl;rfl;rfl;rfl;assumption;exact IsV.any _;rfl)|refine JD ?_|refine JK ?_|(apply dLn;rfl;rfl;rfl;rfl;rfl)|refine JI ?_|(apply dT (ty:=4);rfl;rfl;rfl;rfl)|(apply dF (ty:=4);rfl;rfl;rfl;rfl)|(apply dB (ty:=4);rfl;rfl;rfl;rfl)|(apply dT (ty:=0);rfl;rfl;rfl;rfl)|(apply dF (ty:=0);rfl;rfl;rfl;rfl)|(apply dB (ty:=0);rfl;rfl;rfl;rfl)|refine Jh ?_|(apply Wp.draw tOk follows;kernel_rfl)|intro hb
         all_goals rfl
     · have e : i = M.length := by omega
       subst e
       have hlx:=Zn (M.length:Int) (M.length:Int)
       rw [decide_eq_false (by omega)] at hlx
       rw [List.drop_length]
       repeat' first|refine Jk ?_|refine JS ?_|refine Ji ?_|refine JJ ?_|refine Jl ?_|refine Jx ?_|refine Jt ?_|refine Jb ?_ ?_|(apply qT (ty:=0);rfl;rfl;rfl)|(apply qF (ty:=0);rfl;rfl;rfl)|refine Jz ?_ ?_|refine Jo ?_|(apply dK;rfl;rfl;rfl)|(apply dSl;rfl;rfl;rfl;rfl;rfl;rfl;assumption;exact IsV.any _;rfl)|refine JD ?_|refine JK ?_|(apply dLn;rfl;rfl;rfl;rfl;rfl)|refine JI ?_|(apply dT (ty:=4);rfl;rfl;rfl;rfl)|(apply dF (ty:=4);rfl;rfl;rfl;rfl)|(apply dB (ty:=4);rfl;rfl;rfl;rfl)|(apply dT (ty:=0);rfl;rfl;rfl;rfl)|(apply dF (ty:=0);rfl;rfl;rfl;rfl)|(apply dB (ty:=0);rfl;rfl;rfl;rfl)|refine Jh ?_|(apply Wp.draw tOk follows;kernel_rfl)|intro hb
       all_goals rfl
   | false =>
     rw [h6] at py
     have h66:isA T ZbZ 2=false:=by
      cases h:isA T ZbZ 2 with
      | false=>rfl
      | true=>exact absurd ((Yn h5).2.2.symm.trans (Yn h).2.2) (by decide)
     have h77:WJ R T=false:=by
      cases h:WJ R T with
      | false=>rfl
      | true =>
        simp only [WJ,Bool.and_eq_true] at h
        exact absurd ((Yn h5).2.2.symm.trans (Yn h.1).2.2) (by decide)
     rw [h66] at i6
     rw [h77] at pT
     rw [if_neg (by simp [h6]),if_neg (by simp [h77]),if_neg (by simp [h66])] at hK
     rw [hno hK]
     clear h5 h6 h66 h77 hK hgo hno len
     obtain ⟨k2,nm2,s2,b2,kz2⟩:=y
     have hj2:=Zh (l:=[x,.mk k2 nm2 s2 b2 kz2]) (i:=1) rfl
     simp only [Tm.cells] at py
     repeat' first|refine Jk ?_|(apply qCl;rfl;rfl;rfl;rfl;first|exact i1 _|exact i2 _|exact i3 _|exact i4 _|exact i5 _|exact i6 _|exact py _|exact pT _)|refine JS ?_|refine Ji ?_|refine JJ ?_|refine Jl ?_|refine Jx ?_|refine Jt ?_|refine Jb ?_ ?_|(apply qT (ty:=0);rfl;rfl;rfl)|(apply qF (ty:=0);rfl;rfl;rfl)|refine Jz ?_ ?_|refine Jo ?_|(apply dK;rfl;rfl;rfl)|(apply dCl;rfl;rfl;rfl;rfl;rfl;first|exact i1 _|exact i2 _|exact i3 _|exact i4 _|exact i5 _|exact i6 _|exact py _|exact pT _)|(apply dSl;rfl;rfl;rfl;rfl;rfl;rfl;assumption;exact IsV.any _;rfl)|refine JD ?_|refine JK ?_|(apply dLn;rfl;rfl;rfl;rfl;rfl)|refine JI ?_|(apply dT (ty:=4);rfl;rfl;rfl;rfl)|(apply dF (ty:=4);rfl;rfl;rfl;rfl)|(apply dB (ty:=4);rfl;rfl;rfl;rfl)|(apply dT (ty:=0);rfl;rfl;rfl;rfl)|(apply dF (ty:=0);rfl;rfl;rfl;rfl)|(apply dB (ty:=0);rfl;rfl;rfl;rfl)|refine Jh ?_|(apply Wp.draw tOk follows;kernel_rfl)|intro hb
     all_goals rfl
 |false=>
 rw [h5] at i5
 rw [if_neg (by simp [h5])] at hK
 clear h5
 cases h7:WJ R T with
 | true =>
   rw [h7] at pT
   rw [hgo 0 (hK.trans (if_pos h7)) (by decide),show Zv (Tm.sc R N) (kz.take 0)=0 by simp [Zv]]
   clear h7 hK hgo hno len
   repeat' first|refine Jk ?_|(apply qCl;rfl;rfl;rfl;rfl;first|exact i1 _|exact i2 _|exact i3 _|exact i4 _|exact i5 _|exact pT _)|refine JS ?_|refine Ji ?_|refine JJ ?_|refine Jl ?_|refine Jx ?_|refine Jt ?_|refine Jb ?_ ?_|(apply qT (ty:=0);rfl;rfl;rfl)|(apply qF (ty:=0);rfl;rfl;rfl)|refine Jz ?_ ?_|refine Jo ?_|(apply dK;rfl;rfl;rfl)|(apply dCl;rfl;rfl;rfl;rfl;rfl;first|exact i1 _|exact i2 _|exact i3 _|exact i4 _|exact i5 _|exact pT _)|(apply dSl;rfl;rfl;rfl;rfl;rfl;rfl;assumption;exact IsV.any _;rfl)|refine JD ?_|refine JK ?_|(apply dLn;rfl;rfl;rfl;rfl;rfl)|refine JI ?_|(apply dT (ty:=4);rfl;rfl;rfl;rfl)|(apply dF (ty:=4);rfl;rfl;rfl;rfl)|(apply dB (ty:=4);rfl;rfl;rfl;rfl)|(apply dT (ty:=0);rfl;rfl;rfl;rfl)|(apply dF (ty:=0);rfl;rfl;rfl;rfl)|(apply dB (ty:=0);rfl;rfl;rfl;rfl)|refine Jh ?_|(apply Wp.draw tOk follows;kernel_rfl)|intro hb
   refine Wp.loop ?_
   repeat' first|refine Jk ?_|refine JS ?_|refine Ji ?_|refine JJ ?_|refine Jl ?_|refine Jx ?_|refine Jt ?_|refine Jb ?_ ?_|(apply qT (ty:=0);rfl;rfl;rfl)|(apply qF (ty:=0);rfl;rfl;rfl)|refine Jz ?_ ?_|refine Jo ?_|(apply dK;rfl;rfl;rfl)|(apply dSl;rfl;rfl;rfl;rfl;rfl;rfl;assumption;exact IsV.any _;rfl)|refine JD ?_|refine JK ?_|(apply dLn;rfl;rfl;rfl;rfl;rfl)|refine JI ?_|(apply dT (ty:=4);rfl;rfl;rfl;rfl)|(apply dF (ty:=4);rfl;rfl;rfl;rfl)|(apply dB (ty:=4);rfl;rfl;rfl;rfl)|(apply dT (ty:=0);rfl;rfl;rfl;rfl)|(apply dF (ty:=0);rfl;rfl;rfl;rfl)|(apply dB (ty:=0);rfl;rfl;rfl;rfl)|refine Jh ?_|(apply Wp.draw tOk follows;kernel_rfl)|intro hb
   refine LoopQ.exit ?_
   repeat' first|refine Jk ?_|refine JS ?_|refine Ji ?_|refine JJ ?_|refine Jl ?_|refine Jx ?_|refine Jt ?_|refine Jb ?_ ?_|(apply qT (ty:=0);rfl;rfl;rfl)|(apply qF (ty:=0);rfl;rfl;rfl)|refine Jz ?_ ?_|refine Jo ?_|(apply dK;rfl;rfl;rfl)|(apply dSl;rfl;rfl;rfl;rfl;rfl;rfl;assumption;exact IsV.any _;rfl)|refine JD ?_|refine JK ?_|(apply dLn;rfl;rfl;rfl;rfl;rfl)|refine JI ?_|(apply dT (ty:=4);rfl;rfl;rfl;rfl)|(apply dF (ty:=4);rfl;rfl;rfl;rfl)|(apply dB (ty:=4);rfl;rfl;rfl;rfl)|(apply dT (ty:=0);rfl;rfl;rfl;rfl)|(apply dF (ty:=0);rfl;rfl;rfl;rfl)|(apply dB (ty:=0);rfl;rfl;rfl;rfl)|refine Jh ?_|(apply Wp.draw tOk follows;kernel_rfl)|intro hb
   all_goals rfl
 |false=>
 rw [h7] at pT
 rw [if_neg (by simp [h7])] at hK
 clear h7
 cases h6:isA T ZbZ 2 with
 | false =>
   rw [h6] at i6
   rw [if_neg (by simp [h6])] at hK
   rw [hno hK]
   clear h6 hK hgo hno len
   repeat' first|refine Jk ?_|(apply qCl;rfl;rfl;rfl;rfl;first|exact i1 _|exact i2 _|exact i3 _|exact i4 _|exact i5 _|exact i6 _|exact pT _)|refine JS ?_|refine Ji ?_|refine JJ ?_|refine Jl ?_|refine Jx ?_|refine Jt ?_|refine Jb ?_ ?_|(apply qT (ty:=0);rfl;rfl;rfl)|(apply qF (ty:=0);rfl;rfl;rfl)|refine Jz ?_ ?_|refine Jo ?_|(apply dK;rfl;rfl;rfl)|(apply dCl;rfl;rfl;rfl;rfl;rfl;first|exact i1 _|exact i2 _|exact i3 _|exact i4 _|exact i5 _|exact i6 _|exact pT _)|(apply dSl;rfl;rfl;rfl;rfl;rfl;rfl;assumption;exact IsV.any _;rfl)|refine JD ?_|refine JK ?_|(apply dLn;rfl;rfl;rfl;rfl;rfl)|refine JI ?_|(apply dT (ty:=4);rfl;rfl;rfl;rfl)|(apply dF (ty:=4);rfl;rfl;rfl;rfl)|(apply dB (ty:=4);rfl;rfl;rfl;rfl)|(apply dT (ty:=0);rfl;rfl;rfl;rfl)|(apply dF (ty:=0);rfl;rfl;rfl;rfl)|(apply dB (ty:=0);rfl;rfl;rfl;rfl)|refine Jh ?_|(apply Wp.draw tOk follows;kernel_rfl)|intro hb
   all_goals rfl
 | true =>
   obtain ⟨x,y,rfl⟩:=sh2 (len h6)
   rw [h6] at i6
   have rx:=fun e1=>(Zia (es:=mpN l) hR rn x).ext (ext:=e1) rfl (uTT _ _ _ _) (uM hbu) (Nat.le_refl _)
   have ry:=fun e1=>(Zia (es:=mpN l) hR rn y).ext (ext:=e1) rfl (uTT _ _ _ _) (uM hbu) (Nat.le_refl _)
   have e1:[x,y].all (WM R)=(WM R x&&WM R y):=by simp
   have e2:([x,y].map Tm.nam).head? ≠(([x,y].drop 1).map Tm.nam).head? ↔x.nam≠y.nam:=by simp
   have fin:(WM R x&&WM R y)=true→x.nam≠y.nam→(Tm.mk 3 nm s b [x,y]).sc R N=0:=fun a c=>by
    rw [hgo 0 (hK.trans (if_pos ⟨h6,e1.trans a,e2.2 c⟩)) (by decide)];simp [Zv]
   have bad:¬ ((WM R x&&WM R y)=true∧x.nam≠y.nam)→(Tm.mk 3 nm s b [x,y]).sc R N=10:=fun a=>hno (hK.trans (if_neg fun h=>a ⟨e1.symm.trans h.2.1,e2.1 h.2.2⟩))
   clear h6 hK hgo hno len e1 e2
   generalize WM R x=A at rx fin bad
   generalize WM R y=B at ry fin bad
   obtain ⟨k1,nm1,s1,b1,kz1⟩:=x
   obtain ⟨k2,nm2,s2,b2,kz2⟩:=y
   simp only [Tm.nam] at fin bad
   have hns:=ZaT nm1 nm2
   have hj1:=Zh (l:=[.mk k1 nm1 s1 b1 kz1,.mk k2 nm2 s2 b2 kz2]) (i:=0) rfl
   have hj2:=Zh (l:=[.mk k1 nm1 s1 b1 kz1,.mk k2 nm2 s2 b2 kz2]) (i:=1) rfl
   simp only [Tm.cells] at rx ry
   cases A with
   | false =>
     rw [bad (by simp)]
     repeat' first|refine Jk ?_|(apply qCl;rfl;rfl;rfl;rfl;first|exact i1 _|exact i2 _|exact i3 _|exact i4 _|exact i5 _|exact i6 _|exact rx _|exact ry _|exact pT _)|refine JS ?_|refine Ji ?_|refine JJ ?_|refine Jl ?_|refine Jx ?_|refine Jt ?_|refine Jb ?_ ?_|(apply qT (ty:=0);rfl;rfl;rfl)|(apply qF (ty:=0);rfl;rfl;rfl)|refine Jz ?_ ?_|refine Jo ?_|(apply dK;rfl;rfl;rfl)|(apply dCl;rfl;rfl;rfl;rfl;rfl;first|exact i1 _|exact i2 _|exact i3 _|exact i4 _|exact i5 _|exact i6 _|exact rx _|exact ry _|exact pT _)|(apply dSl;rfl;rfl;rfl;rfl;rfl;rfl;assumption;exact IsV.any _;rfl)|refine JD ?_|refine JK ?_|(apply dLn;rfl;rfl;rfl;rfl;rfl)|refine JI ?_|(apply dT (ty:=4);rfl;rfl;rfl;rfl)|(apply dF (ty:=4);rfl;rfl;rfl;rfl)|(apply dB (ty:=4);rfl;rfl;rfl;rfl)|(apply dT (ty:=0);rfl;rfl;rfl;rfl)|(apply dF (ty:=0);rfl;rfl;rfl;rfl)|(apply dB (ty:=0);rfl;rfl;rfl;rfl)|refine Jh ?_|(apply Wp.draw tOk follows;kernel_rfl)|intro hb
     all_goals rfl
   | true=>
   cases B with
   | false =>
     rw [bad (by simp)]
     repeat' first|refine Jk ?_|(apply qCl;rfl;rfl;rfl;rfl;first|exact i1 _|exact i2 _|exact i3 _|exact i4 _|exact i5 _|exact i6 _|exact rx _|exact ry _|exact pT _)|refine JS ?_|refine Ji ?_|refine JJ ?_|refine Jl ?_|refine Jx ?_|refine Jt ?_|refine Jb ?_ ?_|(apply qT (ty:=0);rfl;rfl;rfl)|(apply qF (ty:=0);rfl;rfl;rfl)|refine Jz ?_ ?_|refine Jo ?_|(apply dK;rfl;rfl;rfl)|(apply dCl;rfl;rfl;rfl;rfl;rfl;first|exact i1 _|exact i2 _|exact i3 _|exact i4 _|exact i5 _|exact i6 _|exact rx _|exact ry _|exact pT _)|(apply dSl;rfl;rfl;rfl;rfl;rfl;rfl;assumption;exact IsV.any _;rfl)|refine JD ?_|refine JK ?_|(apply dLn;rfl;rfl;rfl;rfl;rfl)|refine JI ?_|(apply dT (ty:=4);rfl;rfl;rfl;rfl)|(apply dF (ty:=4);rfl;rfl;rfl;rfl)|(apply dB (ty:=4);rfl;rfl;rfl;rfl)|(apply dT (ty:=0);rfl;rfl;rfl;rfl)|(apply dF (ty:=0);rfl;rfl;rfl;rfl)|(apply dB (ty:=0);rfl;rfl;rfl;rfl)|refine Jh ?_|(apply Wp.draw tOk follows;kernel_rfl)|intro hb
     all_goals rfl
   | true=>
   by_cases c:nm1=nm2
   · rw [decide_eq_true c] at hns
     rw [bad (by simp [c])]
     repeat' first|refine Jk ?_|(apply qCl;rfl;rfl;rfl;rfl;first|exact i1 _|exact i2 _|exact i3 _|exact i4 _|exact i5 _|exact i6 _|exact rx _|exact ry _|exact pT _)|refine JS ?_|refine Ji ?_|refine JJ ?_|refine Jl ?_|refine Jx ?_|refine Jt ?_|refine Jb ?_ ?_|(apply qT (ty:=0);rfl;rfl;rfl)|(apply qF (ty:=0);rfl;rfl;rfl)|refine Jz ?_ ?_|refine Jo ?_|(apply dK;rfl;rfl;rfl)|(apply dCl;rfl;rfl;rfl;rfl;rfl;first|exact i1 _|exact i2 _|exact i3 _|exact i4 _|exact i5 _|exact i6 _|exact rx _|exact ry _|exact pT _)|(apply dSl;rfl;rfl;rfl;rfl;rfl;rfl;assumption;exact IsV.any _;rfl)|refine JD ?_|refine JK ?_|(apply dLn;rfl;rfl;rfl;rfl;rfl)|refine JI ?_|(apply dT (ty:=4);rfl;rfl;rfl;rfl)|(apply dF (ty:=4);rfl;rfl;rfl;rfl)|(apply dB (ty:=4);rfl;rfl;rfl;rfl)|(apply dT (ty:=0);rfl;rfl;rfl;rfl)|(apply dF (ty:=0);rfl;rfl;rfl;rfl)|(apply dB (ty:=0);rfl;rfl;rfl;rfl)|refine Jh ?_|(apply Wp.draw tOk follows;kernel_rfl)|intro hb
     all_goals rfl
   · rw [decide_eq_false c] at hns
     rw [fin rfl c]
     repeat' first|refine Jk ?_|(apply qCl;rfl;rfl;rfl;rfl;first|exact i1 _|exact i2 _|exact i3 _|exact i4 _|exact i5 _|exact i6 _|exact rx _|exact ry _|exact pT _)|refine JS ?_|refine Ji ?_|refine JJ ?_|refine Jl ?_|refine Jx ?_|refine Jt ?_|refine Jb ?_ ?_|(apply qT (ty:=0);rfl;rfl;rfl)|(apply qF (ty:=0);rfl;rfl;rfl)|refine Jz ?_ ?_|refine Jo ?_|(apply dK;rfl;rfl;rfl)|(apply dCl;rfl;rfl;rfl;rfl;rfl;first|exact i1 _|exact i2 _|exact i3 _|exact i4 _|exact i5 _|exact i6 _|exact rx _|exact ry _|exact pT _)|(apply dSl;rfl;rfl;rfl;rfl;rfl;rfl;assumption;exact IsV.any _;rfl)|refine JD ?_|refine JK ?_|(apply dLn;rfl;rfl;rfl;rfl;rfl)|refine JI ?_|(apply dT (ty:=4);rfl;rfl;rfl;rfl)|(apply dF (ty:=4);rfl;rfl;rfl;rfl)|(apply dB (ty:=4);rfl;rfl;rfl;rfl)|(apply dT (ty:=0);rfl;rfl;rfl;rfl)|(apply dF (ty:=0);rfl;rfl;rfl;rfl)|(apply dB (ty:=0);rfl;rfl;rfl;rfl)|refine Jh ?_|(apply Wp.draw tOk follows;kernel_rfl)|intro hb
     refine Wp.loop ?_
     repeat' first|refine Jk ?_|refine JS ?_|refine Ji ?_|refine JJ ?_|refine Jl ?_|refine Jx ?_|refine Jt ?_|refine Jb ?_ ?_|(apply qT (ty:=0);rfl;rfl;rfl)|(apply qF (ty:=0);rfl;rfl;rfl)|refine Jz ?_ ?_|refine Jo ?_|(apply dK;rfl;rfl;rfl)|(apply dSl;rfl;rfl;rfl;rfl;rfl;rfl;assumption;exact IsV.any _;rfl)|refine JD ?_|refine JK ?_|(apply dLn;rfl;rfl;rfl;rfl;rfl)|refine JI ?_|(apply dT (ty:=4);rfl;rfl;rfl;rfl)|(apply dF (ty:=4);rfl;rfl;rfl;rfl)|(apply dB (ty:=4);rfl;rfl;rfl;rfl)|(apply dT (ty:=0);rfl;rfl;rfl;rfl)|(apply dF (ty:=0);rfl;rfl;rfl;rfl)|(apply dB (ty:=0);rfl;rfl;rfl;rfl)|refine Jh ?_|(apply Wp.draw tOk follows;kernel_rfl)|intro hb
     refine LoopQ.exit ?_
     repeat' first|refine Jk ?_|refine JS ?_|refine Ji ?_|refine JJ ?_|refine Jl ?_|refine Jx ?_|refine Jt ?_|refine Jb ?_ ?_|(apply qT (ty:=0);rfl;rfl;rfl)|(apply qF (ty:=0);rfl;rfl;rfl)|refine Jz ?_ ?_|refine Jo ?_|(apply dK;rfl;rfl;rfl)|(apply dSl;rfl;rfl;rfl;rfl;rfl;rfl;assumption;exact IsV.any _;rfl)|refine JD ?_|refine JK ?_|(apply dLn;rfl;rfl;rfl;rfl;rfl)|refine JI ?_|(apply dT (ty:=4);rfl;rfl;rfl;rfl)|(apply dF (ty:=4);rfl;rfl;rfl;rfl)|(apply dB (ty:=4);rfl;rfl;rfl;rfl)|(apply dT (ty:=0);rfl;rfl;rfl;rfl)|(apply dF (ty:=0);rfl;rfl;rfl;rfl)|(apply dB (ty:=0);rfl;rfl;rfl;rfl)|refine Jh ?_|(apply Wp.draw tOk follows;kernel_rfl)|intro hb
     all_goals rfl
