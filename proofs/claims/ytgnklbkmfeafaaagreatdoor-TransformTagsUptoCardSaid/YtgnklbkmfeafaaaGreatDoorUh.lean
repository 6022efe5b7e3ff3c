/-
  Narrations by their syntax: the reference's text, whole.
-/
import Derived.Test.YtgnklbkmfeafaaaGreatDoorUg
set_option maxHeartbeats 0
set_option maxRecDepth 100000
namespace Go.Vm.Seat
open Go.Proofs
theorem c91 (n:Na):∀ H,CallOk E0 Tryz.prog 91 [.agg n.cells] H (.int .i64 n.nums) H:=by
 obtain ⟨nm,rn,rs,fn,fr,tn,ts,sn,ss,gn,gs⟩:=n
 simp only [Na.cells]
 have r2:=Zn ((Zi rs).length:Int) 2
 have r4:=Yv ((Zi rs).length:Int) 4
 have f12:=Yv ((frC fr).length:Int) 12
 have t8:=Yv ((Zi ts).length:Int) 8
 have s0:=Z6 ((spC ss).length:Int) 0
 have s8:=Yv ((spC ss).length:Int) 8
 have g8:=Yv ((glC gs).length:Int) 8
 have e1:=ZC rs
 have e2:=YI fr
 have e3:=ZC ts
 have e4:=ZI ss
 have e5:=YR gs
 refine Jw tOk fe91.ok rfl ?_ (by simp only [Zt,Zj])
 rcases Vj ⟨nm,rn,rs,fn,fr,tn,ts,sn,ss,gn,gs⟩ with ⟨d1,e⟩|⟨d1,d2,e⟩|⟨d1,d2,d3,e⟩|⟨d1,d2,d3,d4,e⟩|⟨d1,d2,d3,d4,d5,e⟩|⟨d1,d2,d3,d4,d5,d6,e⟩|⟨d1,d2,d3,d4,d5,d6,d7,e⟩|⟨d1,d2,d3,d4,d5,d6,d7,e⟩
 · simp only at d1
   rw [decide_eq_true (by omega)] at r2
   rw [e]
   repeat' first|refine Jk ?_|refine Ji ?_|refine Jl ?_|refine Jt ?_|refine Jb ?_ ?_|refine Jo ?_|intro hb
   all_goals rfl
 · simp only at d1 d2
   rw [decide_eq_false (by omega)] at r2
   rw [decide_eq_true (by omega)] at r4
   rw [e]
   repeat' first|refine Jk ?_|refine Ji ?_|refine Jl ?_|refine Jt ?_|refine Jb ?_ ?_|refine Jo ?_|intro hb
   all_goals rfl
 · simp only at d1 d2 d3
   rw [decide_eq_false (by omega)] at r2
   rw [decide_eq_false (by omega)] at r4
   rw [decide_eq_true (by omega)] at f12
   rw [e]
   repeat' first|refine Jk ?_|refine Ji ?_|refine Jl ?_|refine Jt ?_|refine Jb ?_ ?_|refine Jo ?_|intro hb
   all_goals rfl
 · simp only at d1 d2 d3 d4
   rw [decide_eq_false (by omega)] at r2
   rw [decide_eq_false (by omega)] at r4
   rw [decide_eq_false (by omega)] at f12
   rw [decide_eq_true (by omega)] at t8
   rw [e]
   repeat' first|refine Jk ?_|refine Ji ?_|refine Jl ?_|refine Jt ?_|refine Jb ?_ ?_|refine Jo ?_|intro hb
   all_goals rfl
 · simp only at d1 d2 d3 d4 d5
   rw [decide_eq_false (by omega)] at r2
   rw [decide_eq_false (by omega)] at r4
   rw [decide_eq_false (by omega)] at f12
   rw [decide_eq_false (by omega)] at t8
   rw [decide_eq_true (by omega)] at s0
   rw [e]
   repeat' first|refine Jk ?_|refine Ji ?_|refine Jl ?_|refine Jt ?_|refine Jb ?_ ?_|refine Jo ?_|intro hb
   all_goals rfl
 · simp only at d1 d2 d3 d4 d5 d6
   rw [decide_eq_false (by omega)] at r2
   rw [decide_eq_false (by omega)] at r4
   rw [decide_eq_false (by omega)] at f12
   rw [decide_eq_false (by omega)] at t8
   rw [decide_eq_false (by omega)] at s0
   rw [decide_eq_true (by omega)] at s8
   rw [e]
   repeat' first|refine Jk ?_|refine Ji ?_|refine Jl ?_|refine Jt ?_|refine Jb ?_ ?_|refine Jo ?_|intro hb
   all_goals rfl
 · simp only at d1 d2 d3 d4 d5 d6 d7
   rw [decide_eq_false (by omega)] at r2
   rw [decide_eq_false (by omega)] at r4
   rw [decide_eq_false (by omega)] at f12
   rw [decide_eq_false (by omega)] at t8
   rw [decide_eq_false (by omega)] at s0
   rw [decide_eq_false (by omega)] at s8
   rw [decide_eq_true (by omega)] at g8
   rw [e]
   repeat' first|refine Jk ?_|refine Ji ?_|refine Jl ?_|refine Jt ?_|refine Jb ?_ ?_|refine Jo ?_|intro hb
   all_goals rfl
 · simp only at d1 d2 d3 d4 d5 d6 d7
   rw [decide_eq_false (by omega)] at r2
   rw [decide_eq_false (by omega)] at r4
   rw [decide_eq_false (by omega)] at f12
   rw [decide_eq_false (by omega)] at t8
   rw [decide_eq_false (by omega)] at s0
   rw [decide_eq_false (by omega)] at s8
   rw [decide_eq_false (by omega)] at g8
   rw [e]
   repeat' first|refine Jk ?_|refine Ji ?_|refine Jl ?_|refine Jt ?_|refine Jb ?_ ?_|refine Jo ?_|intro hb
   all_goals rfl
theorem c56 {n:Na} (h:n.Sm):∀ H,CallOk E0 Tryz.prog 56 [.agg n.cells] H (.int .i64 n.syn) H:=by
 have cN:=c90 n.name (Nat.le_trans h.nm (by decide))
 have cU:=c91 n
 have cR:=c92 (l:=n.roles) (fun s hs=>Nat.le_trans (h.rs s hs) (by decide)) (Nat.le_trans h.rl (by decide)) n.rn
 have cT:=c92 (l:=n.tags) (fun s hs=>Nat.le_trans (h.ts s hs) (by decide)) (Nat.le_trans h.tl (by decide)) n.tn
 have hfs:=h.fs
 have hfl:=h.fl
 have hss:=h.ss
 have hsl:=h.sl
 have hgs:=h.gs
 have hgl:=h.gl
 clear h
 unfold Na.syn Na.head
 have n1:=ZK n.nums 0
 generalize n.nums=nu at cU n1 ⊢
 obtain ⟨nm,rn,rs,fn,fr,tn,ts,sn,ss,gn,gs⟩:=n
 simp only [Na.cells] at cN cU cR cT hfs hfl hss hsl hgs hgl ⊢
 have e2:=YI fr
 have e4:=ZI ss
 have e5:=YR gs
 refine Jw tOk fe56.ok rfl ?_ (by simp only [Zt,Zj])
 generalize YG nm=A at cN ⊢
 cases A with
 | false =>
   simp only [if_true,ne_eq,(by decide:¬ ((2:Int)=0)),not_false_eq_true]
   repeat' first|refine Jk ?_|refine Jc (cN _) ?_|refine Js ?_|refine Ji ?_|refine JJ ?_|refine Jl ?_|refine Jx ?_|refine Jt ?_|refine Jb ?_ ?_|refine Jo ?_|(apply dK;rfl;rfl;rfl)|refine Jd (cN _) ?_|refine JB ?_|refine JD ?_|refine JK ?_|(apply dLn;rfl;rfl;rfl;rfl;rfl)|refine JI ?_|(apply dT (ty:=4);rfl;rfl;rfl;rfl)|(apply dF (ty:=4);rfl;rfl;rfl;rfl)|(apply dB (ty:=4);rfl;rfl;rfl;rfl)|refine Jh ?_|(apply Wp.draw tOk follows;kernel_rfl)|intro hb
   all_goals rfl
 |true=>
 rw [if_neg (show ¬ (true=false) by simp)]
 by_cases d1:nu=0
 case neg=>
  rw [decide_eq_false d1] at n1
  rw [if_pos d1,if_pos d1]
  repeat' first|refine Jk ?_|refine Jc (cN _) ?_|refine Jc (cU _) ?_|refine Js ?_|refine Ji ?_|refine JJ ?_|refine Jl ?_|refine Jx ?_|refine Jt ?_|refine Jb ?_ ?_|refine Jo ?_|(apply dK;rfl;rfl;rfl)|refine Jd (cN _) ?_|refine Jd (cU _) ?_|refine JB ?_|refine JD ?_|refine JK ?_|(apply dLn;rfl;rfl;rfl;rfl;rfl)|refine JI ?_|(apply dT (ty:=4);rfl;rfl;rfl;rfl)|(apply dF (ty:=4);rfl;rfl;rfl;rfl)|(apply dB (ty:=4);rfl;rfl;rfl;rfl)|refine Jh ?_|(apply Wp.draw tOk follows;kernel_rfl)|intro hb
  all_goals rfl
 rw [decide_eq_true d1] at n1
 rw [if_neg (show ¬ (nu≠0) by omega)]
 generalize rs.all YG=R at cR ⊢
 cases R with
 | false =>
   simp only [if_true,ne_eq,(by decide:¬ ((2:Int)=0)),not_false_eq_true]
   repeat' first|refine Jk ?_|(apply qCl;rfl;rfl;rfl;rfl;first|exact cN _|exact cU _|exact cR _)|refine Js ?_|refine Ji ?_|refine JJ ?_|refine Jl ?_|refine Jx ?_|refine Jt ?_|refine Jb ?_ ?_|refine Jo ?_|(apply dK;rfl;rfl;rfl)|(apply dCl;rfl;rfl;rfl;rfl;rfl;first|exact cN _|exact cU _|exact cR _)|refine JB ?_|refine JD ?_|refine JK ?_|(apply dLn;rfl;rfl;rfl;rfl;rfl)|refine JI ?_|(apply dT (ty:=4);rfl;rfl;rfl;rfl)|(apply dF (ty:=4);rfl;rfl;rfl;rfl)|(apply dB (ty:=4);rfl;rfl;rfl;rfl)|refine Jh ?_|(apply Wp.draw tOk follows;kernel_rfl)|intro hb
   all_goals rfl
 |true=>
 rw [if_neg (show ¬ (true=false) by simp)]
 repeat' first|refine Jk ?_|(apply qCl;rfl;rfl;rfl;rfl;first|exact cN _|exact cU _|exact cR _)|refine Js ?_|refine Ji ?_|refine JJ ?_|refine Jl ?_|refine Jx ?_|refine Jt ?_|refine Jb ?_ ?_|refine Jo ?_|(apply dK;rfl;rfl;rfl)|(apply dCl;rfl;rfl;rfl;rfl;rfl;first|exact cN _|exact cU _|exact cR _)|refine JB ?_|refine JD ?_|refine JK ?_|(apply dLn;rfl;rfl;rfl;rfl;rfl)|refine JI ?_|(apply dT (ty:=4);rfl;rfl;rfl;rfl)|(apply dF (ty:=4);rfl;rfl;rfl;rfl)|(apply dB (ty:=4);rfl;rfl;rfl;rfl)|refine Jh ?_|(apply Wp.draw tOk follows;kernel_rfl)|intro hb
 clear cN cU cR n1
 refine Wp.while (fun m2 tm H=>∃ (i:Nat) (base:TM),i+m2=fr.length∧Zv Fr.err fr=Zv Fr.err (fr.drop i)∧tm=ovr base [(1,.ptr 0 6 0 0),(4,.int .i64 (i:Int))]∧H=⟨[naB nm rn rs fn fr tn ts sn ss gn gs],0,[],0⟩)
  (fun m2 tm H hI=>Wp.drop ?_) fr.length _ _ ⟨0,_,by omega,by simp,Zf ⟨rfl,rfl,trivial⟩,rfl⟩
 obtain ⟨i,base,hi,hgo,rfl,rfl⟩:=hI
 rw [hgo]
 have hlx:=Zn (i:Int) ((frC fr).length:Int)
 by_cases hlt:i<fr.length
 · obtain ⟨x, hx⟩ : ∃ x, fr[i]? = some x := ⟨fr[i], by simp⟩
   have hxm:=List.mem_of_getElem? hx
   rw [decide_eq_true (by omega)] at hlx
   have hii:=Zy (a:=(i:Int)) (b:=1) (by omega) (by omega)
   rw [show (i:Int)+1=((i+1:Nat):Int) by omega] at hii
   have hxl:=hfs x hxm
   have hj:=Wb hx
   have cA:=ZfG x.role x.name (Nat.le_trans hxl.1 (by decide)) (Nat.le_trans hxl.2 (by decide))
   have k2:=Ue x.sort 2
   have k3:=Ue x.sort 3
   have k4:=Ue x.sort 4
   cases hA:(YG x.role&&YG x.name) with
   | false =>
     rw [hA] at cA
     rw [Zl hx (e:=2) (if_pos (Bool.and_eq_false_iff.1 hA))]
     simp only [if_true,ne_eq,(by decide:¬ ((2:Int)=0)),not_false_eq_true]
     repeat' first|refine Jk ?_|refine Jc (cA _) ?_|refine Js ?_|refine Ji ?_|refine JJ ?_|refine Jl ?_|refine Jx ?_|refine Jt ?_|refine Jb ?_ ?_|refine Jo ?_|(apply dK;rfl;rfl;rfl)|refine Jd (cA _) ?_|refine JB ?_|refine JD ?_|refine JK ?_|(apply dLn;rfl;rfl;rfl;rfl;rfl)|refine JI ?_|(apply dT (ty:=4);rfl;rfl;rfl;rfl)|(apply dF (ty:=4);rfl;rfl;rfl;rfl)|(apply dB (ty:=4);rfl;rfl;rfl;rfl)|refine Jh ?_|(apply Wp.draw tOk follows;kernel_rfl)|intro hb
     all_goals rfl
   | true=>
   rw [hA] at cA
   simp only [Bool.and_eq_true] at hA
   have he:Fr.err x=if x.sort<2∨4<x.sort then 10 else 0:=if_neg (by simp [hA.1,hA.2])
   by_cases q2:x.sort=2
   · rw [decide_eq_true q2] at k2
     rw [Zl hx (e:=0) (he.trans (if_neg (by omega))),if_neg (show ¬ ((0:Int)≠0) by decide)]
     repeat' first|refine Jk ?_|refine Jc (cA _) ?_|refine Js ?_|refine Ji ?_|refine JJ ?_|refine Jl ?_|refine Jx ?_|refine Jt ?_|refine Jb ?_ ?_|refine Jo ?_|(apply dK;rfl;rfl;rfl)|refine Jd (cA _) ?_|refine JB ?_|refine JD ?_|refine JK ?_|(apply dLn;rfl;rfl;rfl;rfl;rfl)|refine JI ?_|(apply dT (ty:=4);rfl;rfl;rfl;rfl)|(apply dF (ty:=4);rfl;rfl;rfl;rfl)|(apply dB (ty:=4);rfl;rfl;rfl;rfl)|refine Jh ?_|(apply Wp.draw tOk follows;kernel_rfl)|intro hb
     refine DropQ.go [(1,.ptr 0 6 0 0),(4,.int .i64 ((i+1:Nat):Int))] ⟨rfl,rfl,trivial⟩ ?_ rfl ?_ ?_
     · simp [under]
     · simp [ZO,Zo,Ze,under]
     · exact LoopI.go (m2-1) (by omega) ⟨i+1,_,by omega,rfl,rfl,rfl⟩
   rw [decide_eq_false q2] at k2
   by_cases q3:x.sort=3
   · rw [decide_eq_true q3] at k3
     rw [Zl hx (e:=0) (he.trans (if_neg (by omega))),if_neg (show ¬ ((0:Int)≠0) by decide)]
     repeat' first|refine Jk ?_|refine Jc (cA _) ?_|refine Js ?_|refine Ji ?_|refine JJ ?_|refine Jl ?_|refine Jx ?_|refine Jt ?_|refine Jb ?_ ?_|refine Jo ?_|(apply dK;rfl;rfl;rfl)|refine Jd (cA _) ?_|refine JB ?_|refine JD ?_|refine JK ?_|(apply dLn;rfl;rfl;rfl;rfl;rfl)|refine JI ?_|(apply dT (ty:=4);rfl;rfl;rfl;rfl)|(apply dF (ty:=4);rfl;rfl;rfl;rfl)|(apply dB (ty:=4);rfl;rfl;rfl;rfl)|refine Jh ?_|(apply Wp.draw tOk follows;kernel_rfl)|intro hb
     refine DropQ.go [(1,.ptr 0 6 0 0),(4,.int .i64 ((i+1:Nat):Int))] ⟨rfl,rfl,trivial⟩ ?_ rfl ?_ ?_
     · simp [under]
     · simp [ZO,Zo,Ze,under]
     · exact LoopI.go (m2-1) (by omega) ⟨i+1,_,by omega,rfl,rfl,rfl⟩
   rw [decide_eq_false q3] at k3
   by_cases q4:x.sort=4
   · rw [decide_eq_true q4] at k4
     rw [Zl hx (e:=0) (he.trans (if_neg (by omega))),if_neg (show ¬ ((0:Int)≠0) by decide)]
     repeat' first|refine Jk ?_|refine Jc (cA _) ?_|refine Js ?_|refine Ji ?_|refine JJ ?_|refine Jl ?_|refine Jx ?_|refine Jt ?_|refine Jb ?_ ?_|refine Jo ?_|(apply dK;rfl;rfl;rfl)|refine Jd (cA _) ?_|refine JB ?_|refine JD ?_|refine JK ?_|(apply dLn;rfl;rfl;rfl;rfl;rfl)|refine JI ?_|(apply dT (ty:=4);rfl;rfl;rfl;rfl)|(apply dF (ty:=4);rfl;rfl;rfl;rfl)|(apply dB (ty:=4);rfl;rfl;rfl;rfl)|refine Jh ?_|(apply Wp.draw tOk follows;kernel_rfl)|intro hb
     refine DropQ.go [(1,.ptr 0 6 0 0),(4,.int .i64 ((i+1:Nat):Int))] ⟨rfl,rfl,trivial⟩ ?_ rfl ?_ ?_
     · simp [under]
     · simp [ZO,Zo,Ze,under]
     · exact LoopI.go (m2-1) (by omega) ⟨i+1,_,by omega,rfl,rfl,rfl⟩
   rw [decide_eq_false q4] at k4
   rw [Zl hx (e:=10) (he.trans (if_pos (by omega)))]
   simp only [if_true,ne_eq,(by decide:¬ ((10:Int)=0)),not_false_eq_true]
   repeat' first|refine Jk ?_|refine Jc (cA _) ?_|refine Js ?_|refine Ji ?_|refine JJ ?_|refine Jl ?_|refine Jx ?_|refine Jt ?_|refine Jb ?_ ?_|refine Jo ?_|(apply dK;rfl;rfl;rfl)|refine Jd (cA _) ?_|refine JB ?_|refine JD ?_|refine JK ?_|(apply dLn;rfl;rfl;rfl;rfl;rfl)|refine JI ?_|(apply dT (ty:=4);rfl;rfl;rfl;rfl)|(apply dF (ty:=4);rfl;rfl;rfl;rfl)|(apply dB (ty:=4);rfl;rfl;rfl;rfl)|refine Jh ?_|(apply Wp.draw tOk follows;kernel_rfl)|intro hb
   all_goals rfl
 · have e : i = fr.length := by omega
   subst e
   rw [decide_eq_false (by omega)] at hlx
   rw [List.drop_length]
   rw [show Zv Fr.err []=0 from rfl,if_neg (show ¬ ((0:Int)≠0) by decide)]
   clear hfs hfl hi hgo hlt e2
   generalize ts.all YG=T at cT ⊢
   cases T with
   | false =>
     simp only [if_true,ne_eq,(by decide:¬ ((2:Int)=0)),not_false_eq_true]
     repeat' first|refine Jk ?_|refine Jc (cT _) ?_|refine Js ?_|refine Ji ?_|refine JJ ?_|refine Jl ?_|refine Jx ?_|refine Jt ?_|refine Jb ?_ ?_|refine Jo ?_|(apply dK;rfl;rfl;rfl)|refine Jd (cT _) ?_|refine JB ?_|refine JD ?_|refine JK ?_|(apply dLn;rfl;rfl;rfl;rfl;rfl)|refine JI ?_|(apply dT (ty:=4);rfl;rfl;rfl;rfl)|(apply dF (ty:=4);rfl;rfl;rfl;rfl)|(apply dB (ty:=4);rfl;rfl;rfl;rfl)|refine Jh ?_|(apply Wp.draw tOk follows;kernel_rfl)|intro hb
     all_goals rfl
   | true=>
   rw [if_neg (show ¬ (true=false) by simp),if_neg (show ¬ ((0:Int)≠0) by decide)]
   repeat' first|refine Jk ?_|refine Jc (cT _) ?_|refine Js ?_|refine Ji ?_|refine JJ ?_|refine Jl ?_|refine Jx ?_|refine Jt ?_|refine Jb ?_ ?_|refine Jo ?_|(apply dK;rfl;rfl;rfl)|refine Jd (cT _) ?_|refine JB ?_|refine JD ?_|refine JK ?_|(apply dLn;rfl;rfl;rfl;rfl;rfl)|refine JI ?_|(apply dT (ty:=4);rfl;rfl;rfl;rfl)|(apply dF (ty:=4);rfl;rfl;rfl;rfl)|(apply dB (ty:=4);rfl;rfl;rfl;rfl)|refine Jh ?_|(apply Wp.draw tOk follows;kernel_rfl)|intro hb
   clear cT hlx
   refine Wp.while (fun m2 tm H=>∃ (i:Nat) (base:TM),i+m2=ss.length∧Zv Sp.err ss=Zv Sp.err (ss.drop i)∧tm=ovr base [(1,.ptr 0 6 0 0),(6,.int .i64 (i:Int))]∧H=⟨[naB nm rn rs fn fr tn ts sn ss gn gs],0,[],0⟩)
    (fun m2 tm H hI=>Wp.drop ?_) ss.length _ _ ⟨0,_,by omega,by simp,Zf ⟨rfl,rfl,trivial⟩,rfl⟩
   obtain ⟨i,base,hi,hgo,rfl,rfl⟩:=hI
   rw [hgo]
   have hlx:=Zn (i:Int) ((spC ss).length:Int)
   by_cases hlt:i<ss.length
   · obtain ⟨x, hx⟩ : ∃ x, ss[i]? = some x := ⟨ss[i], by simp⟩
     have hxm:=List.mem_of_getElem? hx
     rw [decide_eq_true (by omega)] at hlx
     have hii:=Zy (a:=(i:Int)) (b:=1) (by omega) (by omega)
     rw [show (i:Int)+1=((i+1:Nat):Int) by omega] at hii
     have hxl:=hss x hxm
     have hj:=ZX hx
     have cA:=ZfG x.frm x.to (Nat.le_trans hxl.1 (by decide)) (Nat.le_trans hxl.2.1 (by decide))
     have cM:=c93 hxl.2.2.1 (by have:=hxl.2.2.2;omega)
     have k1:=ZK x.msg.msgE 0
     cases hA:(YG x.frm&&YG x.to) with
     | false =>
       rw [hA] at cA
       rw [Zl hx (e:=2) (if_pos (Bool.and_eq_false_iff.1 hA))]
       simp only [if_true,ne_eq,(by decide:¬ ((2:Int)=0)),not_false_eq_true]
       obtain ⟨xf,xt,⟨k',nm',s',b',kz'⟩,xl⟩:=x
       simp only [Sp.cells,Tm.cells,List.cons_append,List.nil_append] at hj cA
       repeat' first|refine Jk ?_|refine Jc (cA _) ?_|refine Js ?_|refine Ji ?_|refine JJ ?_|refine Jl ?_|refine Jx ?_|refine Jt ?_|refine Jb ?_ ?_|refine Jo ?_|(apply dK;rfl;rfl;rfl)|refine Jd (cA _) ?_|refine JB ?_|refine JD ?_|refine JK ?_|(apply dLn;rfl;rfl;rfl;rfl;rfl)|refine JI ?_|(apply dT (ty:=4);rfl;rfl;rfl;rfl)|(apply dF (ty:=4);rfl;rfl;rfl;rfl)|(apply dB (ty:=4);rfl;rfl;rfl;rfl)|refine Jh ?_|(apply Wp.draw tOk follows;kernel_rfl)|intro hb
       all_goals rfl
     | true=>
     rw [hA] at cA
     simp only [Bool.and_eq_true] at hA
     rw [Zl hx (if_neg (by simp [hA.1,hA.2]):Sp.err x=x.msg.msgE)]
     clear hA
     generalize x.msg.msgE=me at cM k1 ⊢
     obtain ⟨xf,xt,⟨k',nm',s',b',kz'⟩,xl⟩:=x
     simp only [Sp.cells,Tm.cells,List.cons_append,List.nil_append] at hj cA cM
     by_cases q1:me=0
     · rw [decide_eq_true q1] at k1
       rw [if_neg (show ¬ (me≠0) by omega)]
       repeat' first|refine Jk ?_|refine Jc (cA _) ?_|refine Jc (cM _) ?_|refine Js ?_|refine Ji ?_|refine JJ ?_|refine Jl ?_|refine Jx ?_|refine Jt ?_|refine Jb ?_ ?_|refine Jo ?_|(apply dK;rfl;rfl;rfl)|refine Jd (cA _) ?_|refine Jd (cM _) ?_|refine JB ?_|refine JD ?_|refine JK ?_|(apply dLn;rfl;rfl;rfl;rfl;rfl)|refine JI ?_|(apply dT (ty:=4);rfl;rfl;rfl;rfl)|(apply dF (ty:=4);rfl;rfl;rfl;rfl)|(apply dB (ty:=4);rfl;rfl;rfl;rfl)|refine Jh ?_|(apply Wp.draw tOk follows;kernel_rfl)|intro hb
       refine DropQ.go [(1,.ptr 0 6 0 0),(6,.int .i64 ((i+1:Nat):Int))] ⟨rfl,rfl,trivial⟩ ?_ rfl ?_ ?_
       · simp [under]
       · simp [ZO,Zo,Ze,under]
       · exact LoopI.go (m2-1) (by omega) ⟨i+1,_,by omega,rfl,rfl,rfl⟩
     · rw [decide_eq_false q1] at k1
       rw [if_pos q1,if_pos q1]
       repeat' first|refine Jk ?_|refine Jc (cA _) ?_|refine Jc (cM _) ?_|refine Js ?_|refine Ji ?_|refine JJ ?_|refine Jl ?_|refine Jx ?_|refine Jt ?_|refine Jb ?_ ?_|refine Jo ?_|(apply dK;rfl;rfl;rfl)|refine Jd (cA _) ?_|refine Jd (cM _) ?_|refine JB ?_|refine JD ?_|refine JK ?_|(apply dLn;rfl;rfl;rfl;rfl;rfl)|refine JI ?_|(apply dT (ty:=4);rfl;rfl;rfl;rfl)|(apply dF (ty:=4);rfl;rfl;rfl;rfl)|(apply dB (ty:=4);rfl;rfl;rfl;rfl)|refine Jh ?_|(apply Wp.draw tOk follows;kernel_rfl)|intro hb
       all_goals rfl
   · have e : i = ss.length := by omega
     subst e
     rw [decide_eq_false (by omega)] at hlx
     rw [List.drop_length]
     rw [show Zv Sp.err []=0 from rfl,if_neg (show ¬ ((0:Int)≠0) by decide)]
     repeat' first|refine Jk ?_|refine Js ?_|refine Ji ?_|refine JJ ?_|refine Jl ?_|refine Jx ?_|refine Jt ?_|refine Jb ?_ ?_|refine Jo ?_|(apply dK;rfl;rfl;rfl)|refine JB ?_|refine JD ?_|refine JK ?_|(apply dLn;rfl;rfl;rfl;rfl;rfl)|refine JI ?_|(apply dT (ty:=4);rfl;rfl;rfl;rfl)|(apply dF (ty:=4);rfl;rfl;rfl;rfl)|(apply dB (ty:=4);rfl;rfl;rfl;rfl)|refine Jh ?_|(apply Wp.draw tOk follows;kernel_rfl)|intro hb
     clear hss hsl hi hgo hlt e4 hlx
     refine Wp.while (fun m2 tm H=>∃ (i:Nat) (base:TM),i+m2=gs.length∧Zv Gl.err gs=Zv Gl.err (gs.drop i)∧tm=ovr base [(1,.ptr 0 6 0 0),(8,.int .i64 (i:Int))]∧H=⟨[naB nm rn rs fn fr tn ts sn ss gn gs],0,[],0⟩)
      (fun m2 tm H hI=>Wp.drop ?_) gs.length _ _ ⟨0,_,by omega,by simp,Zf ⟨rfl,rfl,trivial⟩,rfl⟩
     obtain ⟨i,base,hi,hgo,rfl,rfl⟩:=hI
     rw [hgo]
     have hlx:=Zn (i:Int) ((glC gs).length:Int)
     by_cases hlt:i<gs.length
     · obtain ⟨x, hx⟩ : ∃ x, gs[i]? = some x := ⟨gs[i], by simp⟩
       have hxm:=List.mem_of_getElem? hx
       rw [decide_eq_true (by omega)] at hlx
       have hii:=Zy (a:=(i:Int)) (b:=1) (by omega) (by omega)
       rw [show (i:Int)+1=((i+1:Nat):Int) by omega] at hii
       have hxl:=hgs x hxm
       have hj:=XO hx
       have cM:=c94 (g:=x) (Nat.le_trans hxl.1 (by decide)) (Nat.le_trans hxl.2.1 (by decide)) (Nat.le_trans hxl.2.2.1 (by decide)) (fun t ht=>⟨(hxl.2.2.2 t ht).1,by have:=(hxl.2.2.2 t ht).2;omega⟩)
       have k1:=ZK x.err 0
       rw [Zl hx rfl]
       generalize x.err=me at cM k1 ⊢
       obtain ⟨xk,xr,xw,xb,xd,xl⟩:=x
       simp only [Gl.cells] at hj cM
       by_cases q1:me=0
       · rw [decide_eq_true q1] at k1
         rw [if_neg (by omega)]
         repeat' first|refine Jk ?_|refine Jc (cM _) ?_|refine Js ?_|refine Ji ?_|refine JJ ?_|refine Jl ?_|refine Jx ?_|refine Jt ?_|refine Jb ?_ ?_|refine Jo ?_|(apply dK;rfl;rfl;rfl)|refine Jd (cM _) ?_|refine JB ?_|refine JD ?_|refine JK ?_|(apply dLn;rfl;rfl;rfl;rfl;rfl)|refine JI ?_|(apply dT (ty:=4);rfl;rfl;rfl;rfl)|(apply dF (ty:=4);rfl;rfl;rfl;rfl)|(apply dB (ty:=4);rfl;rfl;rfl;rfl)|refine Jh ?_|(apply Wp.draw tOk follows;kernel_rfl)|intro hb
         refine DropQ.go [(1,.ptr 0 6 0 0),(8,.int .i64 ((i+1:Nat):Int))] ⟨rfl,rfl,trivial⟩ ?_ rfl ?_ ?_
         · simp [under]
         · simp [ZO,Zo,Ze,under]
         · exact LoopI.go (m2-1) (by omega) ⟨i+1,_,by omega,rfl,rfl,rfl⟩
       · rw [decide_eq_false q1] at k1
         rw [if_pos q1]
         repeat' first|refine Jk ?_|refine Jc (cM _) ?_|refine Js ?_|refine Ji ?_|refine JJ ?_|refine Jl ?_|refine Jx ?_|refine Jt ?_|refine Jb ?_ ?_|refine Jo ?_|(apply dK;rfl;rfl;rfl)|refine Jd (cM _) ?_|refine JB ?_|refine JD ?_|refine JK ?_|(apply dLn;rfl;rfl;rfl;rfl;rfl)|refine JI ?_|(apply dT (ty:=4);rfl;rfl;rfl;rfl)|(apply dF (ty:=4);rfl;rfl;rfl;rfl)|(apply dB (ty:=4);rfl;rfl;rfl;rfl)|refine Jh ?_|(apply Wp.draw tOk follows;kernel_rfl)|intro hb
         all_goals rfl
     · have e : i = gs.length := by omega
       subst e
       rw [decide_eq_false (by omega)] at hlx
       rw [List.drop_length]
       repeat' first|refine Jk ?_|refine Js ?_|refine Ji ?_|refine JJ ?_|refine Jl ?_|refine Jx ?_|refine Jt ?_|refine Jb ?_ ?_|refine Jo ?_|(apply dK;rfl;rfl;rfl)|refine JB ?_|refine JD ?_|refine JK ?_|(apply dLn;rfl;rfl;rfl;rfl;rfl)|refine JI ?_|(apply dT (ty:=4);rfl;rfl;rfl;rfl)|(apply dF (ty:=4);rfl;rfl;rfl;rfl)|(apply dB (ty:=4);rfl;rfl;rfl;rfl)|refine Jh ?_|(apply Wp.draw tOk follows;kernel_rfl)|intro hb
       all_goals rfl
