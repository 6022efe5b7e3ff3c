/-
  Narrations by their syntax: the program's text, whole.
-/
import Derived.Test.YtgnklbkmfeafaaaGreatDoorTc
set_option maxHeartbeats 0
set_option maxRecDepth 100000
namespace Go.Vm.Seat
variable {n:Na}
open Go.Proofs
abbrev naB (nm:Zg) (rn:Bool) (rs:List Zg) (fn:Bool) (fr:List Fr) (tn:Bool) (ts:List Zg) (sn:Bool) (ss:List Sp) (gn:Bool) (gs:List Gl):Box:= .cells 6 [[.str nm,slV rn 1 (Zo rs),slV fn 3 (frC fr),slV tn 1 (Zo ts),slV sn 7 (spC ss),slV gn 5 (glC gs)]]
theorem Ws (n:Nat) (nm:Zg) (rn:Bool) (rs:List Zg) (fn:Bool) (fr:List Fr) (tn:Bool) (ts:List Zg) (sn:Bool) (ss:List Sp) (gn:Bool) (gs:List Gl):ZS n (naB nm rn rs fn fr tn ts sn ss gn gs)=true:=by
 simp [ZS,Zp,Zf,under]
theorem Zl (nm : Zg) (rn : Bool) (rs : List Zg) (fn : Bool) (fr : List Fr) (tn : Bool) (ts : List Zg) (sn : Bool) (ss : List Sp) (gn : Bool) (gs : List Gl) :
  frzG (.agg [.str nm,slV rn 1 (Zo rs),slV fn 3 (frC fr),slV tn 1 (Zo ts),slV sn 7 (spC ss),slV gn 5 (glC gs)])=some (.agg [.str nm,slV rn 1 (Zo rs),slV fn 3 (frC fr),slV tn 1 (Zo ts),slV sn 7 (spC ss),slV gn 5 (glC gs)]):=by
 simp only [frzG,V9,Yq];rfl
theorem c99 (h:n.Sm):∀ H,CallOk E0 Tryz.prog 99 [.agg n.cells] H (.int .i64 n.head) H:=by
 have cN:=Zgf n.name (Nat.le_trans h.nm (by decide))
 have cR:=ZiM (l:=n.roles) (fun s hs=>Nat.le_trans (h.rs s hs) (by decide)) (Nat.le_trans h.rl (by decide)) n.rn
 have cT:=ZiM (l:=n.tags) (fun s hs=>Nat.le_trans (h.ts s hs) (by decide)) (Nat.le_trans h.tl (by decide)) n.tn
 have hfs:=h.fs
 have hfl:=h.fl
 clear h
 obtain ⟨nm,rn,rs,fn,fr,tn,ts,sn,ss,gn,gs⟩:=n
 simp only [Na.cells,Na.head] at cN cR cT hfs hfl ⊢
 have r2:=Zk ((Zo rs).length:Int) 2
 have r4:=Yp ((Zo rs).length:Int) 4
 have f12:=Yp ((frC fr).length:Int) 12
 have t8:=Yp ((Zo ts).length:Int) 8
 have s0:=Z1 ((spC ss).length:Int) 0
 have s8:=Yp ((spC ss).length:Int) 8
 have g8:=Yp ((glC gs).length:Int) 8
 have e1:=ZA rs
 have e2:=Y9 fr
 have e3:=ZA ts
 have e4:=ZV ss
 have e5:=YJ gs
 refine Jw tOk fe99.ok rfl ?_ (by simp only [Zv,Zl])
 cases hA:Yw nm with
 | false =>
   rw [hA] at cN
   rw [if_pos rfl]
   repeat' first|refine Jk ?_|refine Jc (cN _) ?_|refine Ji ?_|refine JJ ?_|refine Jl ?_|refine Jx ?_|refine Jt ?_|refine Jb ?_ ?_|(apply qT (ty:=0);rfl;rfl;rfl)|(apply qF (ty:=0);rfl;rfl;rfl)|refine Jz ?_ ?_|refine Jo ?_|intro hb
   all_goals rfl
 |true=>
 rw [hA] at cN
 rw [if_neg (by simp)]
 rcases UE ⟨nm,rn,rs,fn,fr,tn,ts,sn,ss,gn,gs⟩ with ⟨d1,e⟩|⟨d1,d2,e⟩|⟨d1,d2,d3,e⟩|⟨d1,d2,d3,d4,e⟩|⟨d1,d2,d3,d4,d5,e⟩|⟨d1,d2,d3,d4,d5,d6,e⟩|⟨d1,d2,d3,d4,d5,d6,d7,e⟩|⟨d1,d2,d3,d4,d5,d6,d7,e⟩
 · simp only at d1
   rw [decide_eq_true (by omega)] at r2
   rw [e,if_pos (by decide)]
   repeat' first|refine Jk ?_|refine Jc (cN _) ?_|refine Ji ?_|refine JJ ?_|refine Jl ?_|refine Jx ?_|refine Jt ?_|refine Jb ?_ ?_|(apply qT (ty:=0);rfl;rfl;rfl)|(apply qF (ty:=0);rfl;rfl;rfl)|refine Jz ?_ ?_|refine Jo ?_|intro hb
   all_goals rfl
 · simp only at d1 d2
   rw [decide_eq_false (by omega)] at r2
   rw [decide_eq_true (by omega)] at r4
   rw [e,if_pos (by decide)]
   repeat' first|refine Jk ?_|refine Jc (cN _) ?_|refine Ji ?_|refine JJ ?_|refine Jl ?_|refine Jx ?_|refine Jt ?_|refine Jb ?_ ?_|(apply qT (ty:=0);rfl;rfl;rfl)|(apply qF (ty:=0);rfl;rfl;rfl)|refine Jz ?_ ?_|refine Jo ?_|intro hb
   all_goals rfl
 · simp only at d1 d2 d3
   rw [decide_eq_false (by omega)] at r2
   rw [decide_eq_false (by omega)] at r4
   rw [decide_eq_true (by omega)] at f12
   rw [e,if_pos (by decide)]
   repeat' first|refine Jk ?_|refine Jc (cN _) ?_|refine Ji ?_|refine JJ ?_|refine Jl ?_|refine Jx ?_|refine Jt ?_|refine Jb ?_ ?_|(apply qT (ty:=0);rfl;rfl;rfl)|(apply qF (ty:=0);rfl;rfl;rfl)|refine Jz ?_ ?_|refine Jo ?_|intro hb
   all_goals rfl
 · simp only at d1 d2 d3 d4
   rw [decide_eq_false (by omega)] at r2
   rw [decide_eq_false (by omega)] at r4
   rw [decide_eq_false (by omega)] at f12
   rw [decide_eq_true (by omega)] at t8
   rw [e,if_pos (by decide)]
   repeat' first|refine Jk ?_|refine Jc (cN _) ?_|refine Ji ?_|refine JJ ?_|refine Jl ?_|refine Jx ?_|refine Jt ?_|refine Jb ?_ ?_|(apply qT (ty:=0);rfl;rfl;rfl)|(apply qF (ty:=0);rfl;rfl;rfl)|refine Jz ?_ ?_|refine Jo ?_|intro hb
   all_goals rfl
 · simp only at d1 d2 d3 d4 d5
   rw [decide_eq_false (by omega)] at r2
   rw [decide_eq_false (by omega)] at r4
   rw [decide_eq_false (by omega)] at f12
   rw [decide_eq_false (by omega)] at t8
   rw [decide_eq_true (by omega)] at s0
   rw [e,if_pos (by decide)]
   repeat' first|refine Jk ?_|refine Jc (cN _) ?_|refine Ji ?_|refine JJ ?_|refine Jl ?_|refine Jx ?_|refine Jt ?_|refine Jb ?_ ?_|(apply qT (ty:=0);rfl;rfl;rfl)|(apply qF (ty:=0);rfl;rfl;rfl)|refine Jz ?_ ?_|refine Jo ?_|intro hb
   all_goals rfl
 · simp only at d1 d2 d3 d4 d5 d6
   rw [decide_eq_false (by omega)] at r2
   rw [decide_eq_false (by omega)] at r4
   rw [decide_eq_false (by omega)] at f12
   rw [decide_eq_false (by omega)] at t8
   rw [decide_eq_false (by omega)] at s0
   rw [decide_eq_true (by omega)] at s8
   rw [e,if_pos (by decide)]
   repeat' first|refine Jk ?_|refine Jc (cN _) ?_|refine Ji ?_|refine JJ ?_|refine Jl ?_|refine Jx ?_|refine Jt ?_|refine Jb ?_ ?_|(apply qT (ty:=0);rfl;rfl;rfl)|(apply qF (ty:=0);rfl;rfl;rfl)|refine Jz ?_ ?_|refine Jo ?_|intro hb
   all_goals rfl
 · simp only at d1 d2 d3 d4 d5 d6 d7
   rw [decide_eq_false (by omega)] at r2
   rw [decide_eq_false (by omega)] at r4
   rw [decide_eq_false (by omega)] at f12
   rw [decide_eq_false (by omega)] at t8
   rw [decide_eq_false (by omega)] at s0
   rw [decide_eq_false (by omega)] at s8
   rw [decide_eq_true (by omega)] at g8
   rw [e,if_pos (by decide)]
   repeat' first|refine Jk ?_|refine Jc (cN _) ?_|refine Ji ?_|refine JJ ?_|refine Jl ?_|refine Jx ?_|refine Jt ?_|refine Jb ?_ ?_|(apply qT (ty:=0);rfl;rfl;rfl)|(apply qF (ty:=0);rfl;rfl;rfl)|refine Jz ?_ ?_|refine Jo ?_|intro hb
   all_goals rfl
 simp only at d1 d2 d3 d4 d5 d6 d7
 rw [decide_eq_false (by omega)] at r2
 rw [decide_eq_false (by omega)] at r4
 rw [decide_eq_false (by omega)] at f12
 rw [decide_eq_false (by omega)] at t8
 rw [decide_eq_false (by omega)] at s0
 rw [decide_eq_false (by omega)] at s8
 rw [decide_eq_false (by omega)] at g8
 rw [e,if_neg (by decide)]
 generalize rs.all Yw=R at cR ⊢
 cases R with
 | false =>
   rw [if_pos rfl]
   repeat' first|refine Jk ?_|refine Jc (cN _) ?_|refine Jc (cR _) ?_|refine Ji ?_|refine JJ ?_|refine Jl ?_|refine Jx ?_|refine Jt ?_|refine Jb ?_ ?_|(apply qT (ty:=0);rfl;rfl;rfl)|(apply qF (ty:=0);rfl;rfl;rfl)|refine Jz ?_ ?_|refine Jo ?_|intro hb
   all_goals rfl
 |true=>
 rw [if_neg (by simp)]
 repeat' first|refine Jk ?_|refine Jc (cN _) ?_|refine Jc (cR _) ?_|refine Ji ?_|refine JJ ?_|refine Jl ?_|refine Jx ?_|refine Jt ?_|refine Jb ?_ ?_|(apply qT (ty:=0);rfl;rfl;rfl)|(apply qF (ty:=0);rfl;rfl;rfl)|refine Jz ?_ ?_|refine Jo ?_|intro hb
 refine Wp.while (fun m2 tm H=>∃ (i:Nat) (base:TM),i+m2=fr.length∧Zn Fr.err fr=Zn Fr.err (fr.drop i)∧tm=ovr base [(1,.ptr 0 6 0 0),(52,slV fn 3 (frC fr)),(53,.int .i64 (fr.length:Int)),(54,.int .i64 (i:Int))]∧H=⟨[naB nm rn rs fn fr tn ts sn ss gn gs],0,[],0⟩)
  (fun m2 tm H hI=>Wp.drop ?_) fr.length _ _ ⟨0,_,by omega,by simp,Ze ⟨rfl,rfl,Zt (by rw [e2]),rfl,trivial⟩,rfl⟩
 obtain ⟨i,base,hi,hgo,rfl,rfl⟩:=hI
 rw [hgo]
 by_cases hlt:i<fr.length
 · obtain ⟨x, hx⟩ : ∃ x, fr[i]? = some x := ⟨fr[i], by simp⟩
   have hxm:=List.mem_of_getElem? hx
   have hlx:=Zk (i:Int) (fr.length:Int)
   rw [decide_eq_true (by omega)] at hlx
   have hii:=Zw (a:=(i:Int)) (b:=1) (by omega) (by omega)
   rw [show (i:Int)+1=((i+1:Nat):Int) by omega] at hii
   have hxl:=hfs x hxm
   have hj:=XV hx
   have cA:=Zgf x.role (Nat.le_trans hxl.1 (by decide))
   have cB:=Zgf x.name (Nat.le_trans hxl.2 (by decide))
   have k1:=Zk x.sort 2
   have k2:=Yp x.sort 4
   cases hA:Yw x.role with
   | false =>
     rw [hA] at cA
     rw [Zj hx (e:=2) (if_pos (.inl hA)),if_pos (by decide),if_pos (by decide)]
     repeat' first|refine Jk ?_|refine Jc (cA _) ?_|refine Jc (cB _) ?_|refine Ji ?_|refine JJ ?_|refine Jl ?_|refine Jx ?_|refine Jt ?_|refine Jb ?_ ?_|(apply qT (ty:=0);rfl;rfl;rfl)|(apply qF (ty:=0);rfl;rfl;rfl)|refine Jz ?_ ?_|refine Jo ?_|intro hb
     all_goals rfl
   | true=>
   rw [hA] at cA
   cases hB:Yw x.name with
   | false =>
     rw [hB] at cB
     rw [Zj hx (e:=2) (if_pos (.inr hB)),if_pos (by decide),if_pos (by decide)]
     repeat' first|refine Jk ?_|refine Jc (cA _) ?_|refine Jc (cB _) ?_|refine Ji ?_|refine JJ ?_|refine Jl ?_|refine Jx ?_|refine Jt ?_|refine Jb ?_ ?_|(apply qT (ty:=0);rfl;rfl;rfl)|(apply qF (ty:=0);rfl;rfl;rfl)|refine Jz ?_ ?_|refine Jo ?_|intro hb
     all_goals rfl
   | true=>
   rw [hB] at cB
   have he:Fr.err x=if x.sort<2∨4<x.sort then 10 else 0:=if_neg (by simp [hA,hB])
   by_cases q1:x.sort<2
   · rw [decide_eq_true q1] at k1
     rw [Zj hx (e:=10) (he.trans (if_pos (.inl q1))),if_pos (by decide),if_pos (by decide)]
     repeat' first|refine Jk ?_|refine Jc (cA _) ?_|refine Jc (cB _) ?_|refine Ji ?_|refine JJ ?_|refine Jl ?_|refine Jx ?_|refine Jt ?_|refine Jb ?_ ?_|(apply qT (ty:=0);rfl;rfl;rfl)|(apply qF (ty:=0);rfl;rfl;rfl)|refine Jz ?_ ?_|refine Jo ?_|intro hb
     all_goals rfl
   rw [decide_eq_false q1] at k1
   by_cases q2:4<x.sort
   · rw [decide_eq_true q2] at k2
     rw [Zj hx (e:=10) (he.trans (if_pos (.inr q2))),if_pos (by decide),if_pos (by decide)]
     repeat' first|refine Jk ?_|refine Jc (cA _) ?_|refine Jc (cB _) ?_|refine Ji ?_|refine JJ ?_|refine Jl ?_|refine Jx ?_|refine Jt ?_|refine Jb ?_ ?_|(apply qT (ty:=0);rfl;rfl;rfl)|(apply qF (ty:=0);rfl;rfl;rfl)|refine Jz ?_ ?_|refine Jo ?_|intro hb
     all_goals rfl
   rw [decide_eq_false q2] at k2
   rw [Zj hx (e:=0) (he.trans (if_neg (by omega))),if_neg (by decide)]
   repeat' first|refine Jk ?_|refine Jc (cA _) ?_|refine Jc (cB _) ?_|refine Ji ?_|refine JJ ?_|refine Jl ?_|refine Jx ?_|refine Jt ?_|refine Jb ?_ ?_|(apply qT (ty:=0);rfl;rfl;rfl)|(apply qF (ty:=0);rfl;rfl;rfl)|refine Jz ?_ ?_|refine Jo ?_|intro hb
   refine DropQ.go [(1,.ptr 0 6 0 0),(52,slV fn 3 (frC fr)),(53,.int .i64 (fr.length:Int)),(54,.int .i64 ((i+1:Nat):Int))] ⟨rfl,rfl,rfl,rfl,trivial⟩ ?_ rfl ?_ ?_
   · simp [Zf,under]
   · simp [ZS,Zp,Zf,under]
   · exact LoopI.go (m2-1) (by omega) ⟨i+1,_,by omega,rfl,rfl,rfl⟩
 · have e : i = fr.length := by omega
   subst e
   have hlx:=Zk (fr.length:Int) (fr.length:Int)
   rw [decide_eq_false (by omega)] at hlx
   rw [List.drop_length]
   rw [show Zn Fr.err []=0 from rfl,if_neg (by decide)]
   generalize ts.all Yw=T at cT ⊢
   cases T with
   | false =>
     rw [if_pos rfl]
     repeat' first|refine Jk ?_|refine Jc (cT _) ?_|refine Ji ?_|refine JJ ?_|refine Jl ?_|refine Jx ?_|refine Jt ?_|refine Jb ?_ ?_|(apply qT (ty:=0);rfl;rfl;rfl)|(apply qF (ty:=0);rfl;rfl;rfl)|refine Jz ?_ ?_|refine Jo ?_|intro hb
     all_goals rfl
   | true =>
     rw [if_neg (by simp)]
     repeat' first|refine Jk ?_|refine Jc (cT _) ?_|refine Ji ?_|refine JJ ?_|refine Jl ?_|refine Jx ?_|refine Jt ?_|refine Jb ?_ ?_|(apply qT (ty:=0);rfl;rfl;rfl)|(apply qF (ty:=0);rfl;rfl;rfl)|refine Jz ?_ ?_|refine Jo ?_|intro hb
     all_goals rfl
theorem c60 (h:n.Sm):∀ H,CallOk E0 Tryz.prog 60 [.agg n.cells] H (.int .i64 n.syn) H:=by
 have cH:=c99 h
 have hss:=h.ss
 have hsl:=h.sl
 have hgs:=h.gs
 have hgl:=h.gl
 unfold Na.syn
 clear h
 have n1:=ZK n.head 0
 generalize n.head=hd at cH n1 ⊢
 obtain ⟨nm,rn,rs,fn,fr,tn,ts,sn,ss,gn,gs⟩:=n
 simp only [Na.cells] at cH hss hsl hgs hgl ⊢
 have e4:=ZV ss
 have e5:=YJ gs
 refine Jw tOk fe60.ok rfl ?_ (by simp only [Zv,Zl])
 by_cases d1:hd=0
 case neg=>
  rw [decide_eq_false d1] at n1
  rw [if_pos d1]
  repeat' first|refine Jk ?_|refine Jc (cH _) ?_|refine Ji ?_|refine JJ ?_|refine Jl ?_|refine Jx ?_|refine Jt ?_|refine Jb ?_ ?_|(apply qT (ty:=0);rfl;rfl;rfl)|(apply qF (ty:=0);rfl;rfl;rfl)|refine Jz ?_ ?_|refine Jo ?_|intro hb
  all_goals rfl
 rw [decide_eq_true d1] at n1
 rw [if_neg (by omega)]
 repeat' first|refine Jk ?_|refine Jc (cH _) ?_|refine Ji ?_|refine JJ ?_|refine Jl ?_|refine Jx ?_|refine Jt ?_|refine Jb ?_ ?_|(apply qT (ty:=0);rfl;rfl;rfl)|(apply qF (ty:=0);rfl;rfl;rfl)|refine Jz ?_ ?_|refine Jo ?_|intro hb
 clear cH n1
 refine Wp.while (fun m2 tm H=>∃ (i:Nat) (base:TM),i+m2=ss.length∧Zn Sp.err ss=Zn Sp.err (ss.drop i)∧tm=ovr base [(1,.ptr 0 6 0 0),(16,slV sn 7 (spC ss)),(17,.int .i64 (ss.length:Int)),(18,.int .i64 (i:Int))]∧H=⟨[naB nm rn rs fn fr tn ts sn ss gn gs],0,[],0⟩)
  (fun m2 tm H hI=>Wp.drop ?_) ss.length _ _ ⟨0,_,by omega,by simp,Ze ⟨rfl,rfl,Zt (by rw [e4]),rfl,trivial⟩,rfl⟩
 obtain ⟨i,base,hi,hgo,rfl,rfl⟩:=hI
 rw [hgo]
 by_cases hlt:i<ss.length
 · obtain ⟨x, hx⟩ : ∃ x, ss[i]? = some x := ⟨ss[i], by simp⟩
   have hxm:=List.mem_of_getElem? hx
   have hlx:=Zk (i:Int) (ss.length:Int)
   rw [decide_eq_true (by omega)] at hlx
   have hii:=Zw (a:=(i:Int)) (b:=1) (by omega) (by omega)
   rw [show (i:Int)+1=((i+1:Nat):Int) by omega] at hii
   have hxl:=hss x hxm
   have hj:=Yz hx
   have cA:=Zgf x.frm (Nat.le_trans hxl.1 (by decide))
   have cB:=Zgf x.to (Nat.le_trans hxl.2.1 (by decide))
   have cM:=ZhN hxl.2.2.1 (by have:=hxl.2.2.2;omega)
   have k1:=ZK x.msg.msgE 0
   have he:Yw x.frm=true→Yw x.to=true→Sp.err x=x.msg.msgE:=fun h1 h2=>if_neg (by simp [h1,h2])
   cases hA:Yw x.frm with
   | false =>
     rw [hA] at cA
     rw [Zj hx (e:=2) (if_pos (.inl hA)),if_pos (by decide),if_pos (by decide)]
     obtain ⟨xf,xt,⟨k',nm',s',b',kz'⟩,xl⟩:=x
     simp only [Sp.cells,Tm.cells,List.cons_append,List.nil_append] at hj cA cB
     repeat' first|refine Jk ?_|refine Jc (cA _) ?_|refine Jc (cB _) ?_|refine Ji ?_|refine JJ ?_|refine Jl ?_|refine Jx ?_|refine Jt ?_|refine Jb ?_ ?_|(apply qT (ty:=0);rfl;rfl;rfl)|(apply qF (ty:=0);rfl;rfl;rfl)|refine Jz ?_ ?_|refine Jo ?_|intro hb
     all_goals rfl
   | true=>
   rw [hA] at cA
   cases hB:Yw x.to with
   | false =>
     rw [hB] at cB
     rw [Zj hx (e:=2) (if_pos (.inr hB)),if_pos (by decide),if_pos (by decide)]
     obtain ⟨xf,xt,⟨k',nm',s',b',kz'⟩,xl⟩:=x
     simp only [Sp.cells,Tm.cells,List.cons_append,List.nil_append] at hj cA cB
     repeat' first|refine Jk ?_|refine Jc (cA _) ?_|refine Jc (cB _) ?_|refine Ji ?_|refine JJ ?_|refine Jl ?_|refine Jx ?_|refine Jt ?_|refine Jb ?_ ?_|(apply qT (ty:=0);rfl;rfl;rfl)|(apply qF (ty:=0);rfl;rfl;rfl)|refine Jz ?_ ?_|refine Jo ?_|intro hb
     all_goals rfl
   | true=>
   rw [hB] at cB
   rw [Zj hx (he hA hB)]
   clear he hA hB
   generalize x.msg.msgE=me at cM k1 ⊢
   obtain ⟨xf,xt,⟨k',nm',s',b',kz'⟩,xl⟩:=x
   simp only [Sp.cells,Tm.cells,List.cons_append,List.nil_append] at hj cA cB cM
   by_cases q1:me=0
   · rw [decide_eq_true q1] at k1
     rw [if_neg (show ¬ (me≠0) by omega)]
     repeat' first|refine Jk ?_|(apply qCl;rfl;rfl;rfl;rfl;first|exact cA _|exact cB _|exact cM _)|refine Ji ?_|refine JJ ?_|refine Jl ?_|refine Jx ?_|refine Jt ?_|refine Jb ?_ ?_|(apply qT (ty:=0);rfl;rfl;rfl)|(apply qF (ty:=0);rfl;rfl;rfl)|refine Jz ?_ ?_|refine Jo ?_|intro hb
     refine DropQ.go [(1,.ptr 0 6 0 0),(16,slV sn 7 (spC ss)),(17,.int .i64 (ss.length:Int)),(18,.int .i64 ((i+1:Nat):Int))] ⟨rfl,rfl,rfl,rfl,trivial⟩ ?_ rfl ?_ ?_
     · simp [Zf,under]
     · simp [ZS,Zp,Zf,under]
     · exact LoopI.go (m2-1) (by omega) ⟨i+1,_,by omega,rfl,rfl,rfl⟩
   · rw [decide_eq_false q1] at k1
     rw [if_pos q1,if_pos q1]
     repeat' first|refine Jk ?_|(apply qCl;rfl;rfl;rfl;rfl;first|exact cA _|exact cB _|exact cM _)|refine Ji ?_|refine JJ ?_|refine Jl ?_|refine Jx ?_|refine Jt ?_|refine Jb ?_ ?_|(apply qT (ty:=0);rfl;rfl;rfl)|(apply qF (ty:=0);rfl;rfl;rfl)|refine Jz ?_ ?_|refine Jo ?_|intro hb
     all_goals rfl
 · have e : i = ss.length := by omega
   subst e
   have hlx:=Zk (ss.length:Int) (ss.length:Int)
   rw [decide_eq_false (by omega)] at hlx
   rw [List.drop_length]
   rw [show Zn Sp.err []=0 from rfl,if_neg (by decide)]
   repeat' first|refine Jk ?_|refine Ji ?_|refine JJ ?_|refine Jl ?_|refine Jx ?_|refine Jt ?_|refine Jb ?_ ?_|(apply qT (ty:=0);rfl;rfl;rfl)|(apply qF (ty:=0);rfl;rfl;rfl)|refine Jz ?_ ?_|refine Jo ?_|intro hb
   clear hss hsl e4 hi hgo hlt hlx
   refine Wp.while (fun m2 tm H=>∃ (i:Nat) (base:TM),i+m2=gs.length∧Zn Gl.err gs=Zn Gl.err (gs.drop i)∧tm=ovr base [(1,.ptr 0 6 0 0),(38,slV gn 5 (glC gs)),(39,.int .i64 (gs.length:Int)),(40,.int .i64 (i:Int))]∧H=⟨[naB nm rn rs fn fr tn ts sn ss gn gs],0,[],0⟩)
    (fun m2 tm H hI=>Wp.drop ?_) gs.length _ _ ⟨0,_,by omega,by simp,Ze ⟨rfl,rfl,Zt (by rw [e5]),rfl,trivial⟩,rfl⟩
   obtain ⟨i,base,hi,hgo,rfl,rfl⟩:=hI
   rw [hgo]
   by_cases hlt:i<gs.length
   · obtain ⟨x, hx⟩ : ∃ x, gs[i]? = some x := ⟨gs[i], by simp⟩
     have hxm:=List.mem_of_getElem? hx
     have hlx:=Zk (i:Int) (gs.length:Int)
     rw [decide_eq_true (by omega)] at hlx
     have hii:=Zw (a:=(i:Int)) (b:=1) (by omega) (by omega)
     rw [show (i:Int)+1=((i+1:Nat):Int) by omega] at hii
     have hxl:=hgs x hxm
     have hj:=XI hx
     have cM:=ZjI (g:=x) (Nat.le_trans hxl.1 (by decide)) (Nat.le_trans hxl.2.1 (by decide)) (Nat.le_trans hxl.2.2.1 (by decide)) (fun t ht=>⟨(hxl.2.2.2 t ht).1,by have:=(hxl.2.2.2 t ht).2;omega⟩)
     have k1:=ZK x.err 0
     rw [Zj hx rfl]
     generalize x.err=me at cM k1 ⊢
     obtain ⟨xk,xr,xw,xb,xd,xl⟩:=x
     simp only [Gl.cells] at hj cM
     by_cases q1:me=0
     · rw [decide_eq_true q1] at k1
       rw [if_neg (by omega)]
       repeat' first|refine Jk ?_|refine Jc (cM _) ?_|refine Ji ?_|refine JJ ?_|refine Jl ?_|refine Jx ?_|refine Jt ?_|refine Jb ?_ ?_|(apply qT (ty:=0);rfl;rfl;rfl)|(apply qF (ty:=0);rfl;rfl;rfl)|refine Jz ?_ ?_|refine Jo ?_|intro hb
       refine DropQ.go [(1,.ptr 0 6 0 0),(38,slV gn 5 (glC gs)),(39,.int .i64 (gs.length:Int)),(40,.int .i64 ((i+1:Nat):Int))] ⟨rfl,rfl,rfl,rfl,trivial⟩ ?_ rfl ?_ ?_
       · simp [Zf,under]
       · simp [ZS,Zp,Zf,under]
       · exact LoopI.go (m2-1) (by omega) ⟨i+1,_,by omega,rfl,rfl,rfl⟩
     · rw [decide_eq_false q1] at k1
       rw [if_pos q1]
       repeat' first|refine Jk ?_|refine Jc (cM _) ?_|refine Ji ?_|refine JJ ?_|refine Jl ?_|refine Jx ?_|refine Jt ?_|refine Jb ?_ ?_|(apply qT (ty:=0);rfl;rfl;rfl)|(apply qF (ty:=0);rfl;rfl;rfl)|refine Jz ?_ ?_|refine Jo ?_|intro hb
       all_goals rfl
   · have e : i = gs.length := by omega
     subst e
     have hlx:=Zk (gs.length:Int) (gs.length:Int)
     rw [decide_eq_false (by omega)] at hlx
     rw [List.drop_length]
     repeat' first|refine Jk ?_|refine Ji ?_|refine JJ ?_|refine Jl ?_|refine Jx ?_|refine Jt ?_|refine Jb ?_ ?_|(apply qT (ty:=0);rfl;rfl;rfl)|(apply qF (ty:=0);rfl;rfl;rfl)|refine Jz ?_ ?_|refine Jo ?_|intro hb
     all_goals rfl
