/-
  Narrations by their syntax: the program's text, whole.
-/
import Derived.Test.YtgnklbkmfeafaaaGreatDoorTb
set_option maxHeartbeats 0
set_option maxRecDepth 100000
namespace Go.Vm
variable {α:Type}
def XS {α:Type} (p:α→Bool):List α→Nat→Int
 | [],_=> -1
 |x::r,i=>if p x=true then (i:Int) else XS p r (i+1)
theorem VR {α:Type} (p:α→Bool):∀ (l:List α) (i:Nat),l.any p=decide (0≤XS p l i)
 | [],i=>by simp [XS]
 | x :: r, i => by
   rw [List.any_cons]
   by_cases h:p x=true
   · have e : XS p (x :: r) i = (i : Int) := if_pos h
     rw [e,h];simp
   · have e : XS p (x :: r) i = XS p r (i + 1) := if_neg h
     rw [e, ← VR p r (i+1)]
     simp only [Bool.not_eq_true] at h
     rw [h];rfl
theorem Ut {p:α→Bool} {l:List α} {i j:Nat} {x:α} (h:l[i]? = some x):XS p (l.drop i) j=if p x=true then (j:Int) else XS p (l.drop (i+1)) (j+1):=by
 rw [ZA h];rfl
def VJ (s:Zg):Bool:= !YG s
theorem Zgk (p:α→Bool) (l:List α):l.any (fun x=> !p x)= !l.all p:=by
 induction l with
 |nil=>rfl
 |cons a r ih=>simp only [List.any_cons,List.all_cons,ih,Bool.not_and]
end Go.Vm
namespace Go.Vm.Seat
variable {l:List Zg} {n:Na}
open Go.Proofs
theorem ixW (hl:∀ s,s∈l→s.length≤maxLen) (hlen:l.length≤100000) (b:Bool):∀ H,CallOk E0 Tryz.prog 149 [slV b 1 (Zi l),.fn 100 []] H (.int .i64 (XS VJ l 0)) H:=by
 have hsl:=ZC l
 refine Jw tOk fe149.ok rfl ?_
 repeat' first|refine Ji ?_|refine JJ ?_|refine Jl ?_|refine Jx ?_|refine Jt ?_|refine Jb ?_ ?_|(apply qT (ty:=0);rfl;rfl;rfl)|(apply qF (ty:=0);rfl;rfl;rfl)|refine Jz ?_ ?_|refine Jo ?_|intro hb
 refine Wp.while (fun m tm H=>∃ (i:Nat) (base:TM),i+m=l.length∧XS VJ l 0=XS VJ (l.drop i) i∧tm=ovr base [(0,slV b 1 (Zi l)),(1,.fn 100 []),(7,.int .i64 (l.length:Int)),(8,.int .i64 (i:Int))]∧H=⟨[],0,[],0⟩)
  (fun m tm H hI=>?_) l.length _ _ ⟨0,_,by omega,by simp,Zf ⟨rfl,rfl,Zz (by rw [hsl]),rfl,trivial⟩,rfl⟩
 obtain ⟨i,base,hi,hgo,rfl,rfl⟩:=hI
 rw [hgo]
 by_cases hlt:i<l.length
 · obtain ⟨a, ha⟩ : ∃ a, l[i]? = some a := ⟨l[i], by simp⟩
   have hj:=Yf ha
   have hc:=ZgY a (hl a (List.mem_of_getElem? ha))
   have hlx:=Zn (i:Int) (l.length:Int)
   rw [decide_eq_true (by omega)] at hlx
   rw [Ut ha]
   have hc:∀ H,CallOk E0 Tryz.prog 100 [.str a] H (.bool (VJ a)) H:=hc
   generalize VJ a=B at hc ⊢
   cases B with
   | true =>
     rw [if_pos rfl]
     repeat' first|refine Jc (hc _) ?_|refine Ji ?_|refine JJ ?_|refine Jl ?_|refine Jx ?_|refine Jt ?_|refine Jb ?_ ?_|(apply qT (ty:=0);rfl;rfl;rfl)|(apply qF (ty:=0);rfl;rfl;rfl)|refine Jz ?_ ?_|refine Jo ?_|intro hb
     all_goals rfl
   | false =>
     rw [if_neg (by simp)]
     repeat' first|refine Jc (hc _) ?_|refine Ji ?_|refine JJ ?_|refine Jl ?_|refine Jx ?_|refine Jt ?_|refine Jb ?_ ?_|(apply qT (ty:=0);rfl;rfl;rfl)|(apply qF (ty:=0);rfl;rfl;rfl)|refine Jz ?_ ?_|refine Jo ?_|intro hb
     exact LoopI.go (m-1) (by omega) ⟨i+1,_,by omega,rfl,Zf ⟨rfl,rfl,rfl,Zz (YB (n:=i+1) (by omega)),trivial⟩,rfl⟩
 · have e : i = l.length := by omega
   subst e
   have hlx:=Zn (l.length:Int) (l.length:Int)
   rw [decide_eq_false (by omega)] at hlx
   rw [List.drop_length]
   repeat' first|refine Ji ?_|refine JJ ?_|refine Jl ?_|refine Jx ?_|refine Jt ?_|refine Jb ?_ ?_|(apply qT (ty:=0);rfl;rfl;rfl)|(apply qF (ty:=0);rfl;rfl;rfl)|refine Jz ?_ ?_|refine Jo ?_|intro hb
   all_goals rfl
theorem Zji (hl:∀ s,s∈l→s.length≤maxLen) (hlen:l.length≤100000) (b:Bool):∀ H,CallOk E0 Tryz.prog 130 [slV b 1 (Zi l),.fn 100 []] H (.bool (!l.all YG)) H:=by
 have hc:=ixW hl hlen b
 rw [← Zgk,show (l.any fun x=> !YG x)=l.any VJ from rfl,VR _ l 0]
 have hge:=Us (XS VJ l 0) 0
 generalize XS VJ l 0=x at hc hge ⊢
 generalize decide (0≤x)=A at hge ⊢
 refine Jw tOk fe130.ok rfl ?_
 cases A
 all_goals
  repeat' first|refine Jc (hc _) ?_|refine Ji ?_|refine Jt ?_|refine Jb ?_ ?_|refine Jo ?_|intro hb
  all_goals rfl
abbrev naB (nm:Zg) (rn:Bool) (rs:List Zg) (fn:Bool) (fr:List Fr) (tn:Bool) (ts:List Zg) (sn:Bool) (ss:List Sp) (gn:Bool) (gs:List Gl):Box:= .cells 6 [[.str nm,slV rn 1 (Zi rs),slV fn 3 (frC fr),slV tn 1 (Zi ts),slV sn 7 (spC ss),slV gn 5 (glC gs)]]
theorem X0 (n:Nat) (nm:Zg) (rn:Bool) (rs:List Zg) (fn:Bool) (fr:List Fr) (tn:Bool) (ts:List Zg) (sn:Bool) (ss:List Sp) (gn:Bool) (gs:List Gl):ZO n (naB nm rn rs fn fr tn ts sn ss gn gs)=true:=by
 simp [ZO,Zo,Ze,under]
theorem Zj (nm : Zg) (rn : Bool) (rs : List Zg) (fn : Bool) (fr : List Fr) (tn : Bool) (ts : List Zg) (sn : Bool) (ss : List Sp) (gn : Bool) (gs : List Gl) :
  frzG (.agg [.str nm,slV rn 1 (Zi rs),slV fn 3 (frC fr),slV tn 1 (Zi ts),slV sn 7 (spC ss),slV gn 5 (glC gs)])=some (.agg [.str nm,slV rn 1 (Zi rs),slV fn 3 (frC fr),slV tn 1 (Zi ts),slV sn 7 (spC ss),slV gn 5 (glC gs)]):=by
 simp only [frzG,Uy,Yy];rfl
theorem c99 (h:n.Sm):∀ H,CallOk E0 Tryz.prog 99 [.agg n.cells] H (.int .i64 n.head) H:=by
 have cN:=ZgY n.name (Nat.le_trans h.nm (by decide))
 have cR:=Zji (l:=n.roles) (fun s hs=>Nat.le_trans (h.rs s hs) (by decide)) (Nat.le_trans h.rl (by decide)) n.rn
 have cT:=Zji (l:=n.tags) (fun s hs=>Nat.le_trans (h.ts s hs) (by decide)) (Nat.le_trans h.tl (by decide)) n.tn
 have hfs:=h.fs
 have hfl:=h.fl
 clear h
 obtain ⟨nm,rn,rs,fn,fr,tn,ts,sn,ss,gn,gs⟩:=n
 simp only [Na.cells,Na.head] at cN cR cT hfs hfl ⊢
 have r2:=Zn ((Zi rs).length:Int) 2
 have r4:=Yv ((Zi rs).length:Int) 4
 have f12:=Yv ((frC fr).length:Int) 12
 have t8:=Yv ((Zi ts).length:Int) 8
 have s0:=Z6 ((spC ss).length:Int) 0
 have s8:=Yv ((spC ss).length:Int) 8
 have g8:=Yv ((glC gs).length:Int) 8
 have e1:=ZC rs
 have e2:=YI fr
 have e3:=ZC ts
 have e4:=ZI ss
 have e5:=YR gs
 refine Jw tOk fe99.ok rfl ?_ (by simp only [Zt,Zj])
 cases hA:YG nm with
 | false =>
   rw [hA] at cN
   rw [if_pos rfl]
   repeat' first|refine Jk ?_|refine Jc (cN _) ?_|refine Ji ?_|refine JJ ?_|refine Jl ?_|refine Jx ?_|refine Jt ?_|refine Jb ?_ ?_|(apply qT (ty:=0);rfl;rfl;rfl)|(apply qF (ty:=0);rfl;rfl;rfl)|refine Jz ?_ ?_|refine Jo ?_|intro hb
   all_goals rfl
 |true=>
 rw [hA] at cN
 rw [if_neg (by simp)]
 rcases Vj ⟨nm,rn,rs,fn,fr,tn,ts,sn,ss,gn,gs⟩ with ⟨d1,e⟩|⟨d1,d2,e⟩|⟨d1,d2,d3,e⟩|⟨d1,d2,d3,d4,e⟩|⟨d1,d2,d3,d4,d5,e⟩|⟨d1,d2,d3,d4,d5,d6,e⟩|⟨d1,d2,d3,d4,d5,d6,d7,e⟩|⟨d1,d2,d3,d4,d5,d6,d7,e⟩
 · simp only at d1
   rw [decide_eq_true (by omega)] at r2
   rw [e,if_pos (by decide)]
   repeat' first|refine Jk ?_|refine Jc (cN _) ?_|refine Ji ?_|refine JJ ?_|refine Jl ?_|refine Jx ?_|refine Jt ?_|refine Jb ?_ ?_|(apply qT (ty:=0);rfl;rfl;rfl)|(apply qF (ty:=0);rfl;rfl;rfl)|refine Jz ?_ ?_|refine Jo ?_|intro hb
   all_goals rfl
 · simp only at d1 d2
   rw [decide_eq_false (by omega)] at r2
   rw [decide_eq_true (by omega)] at r4
   rw [e,if_pos (by decide)]
   repeat' first|refine Jk ?_|refine Jc (cN _) ?_|refine Ji ?_|refine JJ ?_|refine Jl ?_|refine Jx ?_|refine Jt ?_|refine Jb ?_ ?_|(apply qT (ty:=0);rfl;rfl;rfl)|(apply qF (ty:=0);rfl;rfl;rfl)|refine Jz ?_ ?_|refine Jo ?_|intro hb
   all_goals rfl
 · simp only at d1 d2 d3
   rw [decide_eq_false (by omega)] at r2
   rw [decide_eq_false (by omega)] at r4
   rw [decide_eq_true (by omega)] at f12
   rw [e,if_pos (by decide)]
   repeat' first|refine Jk ?_|refine Jc (cN _) ?_|refine Ji ?_|refine JJ ?_|refine Jl ?_|refine Jx ?_|refine Jt ?_|refine Jb ?_ ?_|(apply qT (ty:=0);rfl;rfl;rfl)|(apply qF (ty:=0);rfl;rfl;rfl)|refine Jz ?_ ?_|refine Jo ?_|intro hb
   all_goals rfl
 · simp only at d1 d2 d3 d4
   rw [decide_eq_false (by omega)] at r2
   rw [decide_eq_false (by omega)] at r4
   rw [decide_eq_false (by omega)] at f12
   rw [decide_eq_true (by omega)] at t8
   rw [e,if_pos (by decide)]
   repeat' first|refine Jk ?_|refine Jc (cN _) ?_|refine Ji ?_|refine JJ ?_|refine Jl ?_|refine Jx ?_|refine Jt ?_|refine Jb ?_ ?_|(apply qT (ty:=0);rfl;rfl;rfl)|(apply qF (ty:=0);rfl;rfl;rfl)|refine Jz ?_ ?_|refine Jo ?_|intro hb
   all_goals rfl
 · simp only at d1 d2 d3 d4 d5
   rw [decide_eq_false (by omega)] at r2
   rw [decide_eq_false (by omega)] at r4
   rw [decide_eq_false (by omega)] at f12
   rw [decide_eq_false (by omega)] at t8
   rw [decide_eq_true (by omega)] at s0
   rw [e,if_pos (by decide)]
   repeat' first|refine Jk ?_|refine Jc (cN _) ?_|refine Ji ?_|refine JJ ?_|refine Jl ?_|refine Jx ?_|refine Jt ?_|refine Jb ?_ ?_|(apply qT (ty:=0);rfl;rfl;rfl)|(apply qF (ty:=0);rfl;rfl;rfl)|refine Jz ?_ ?_|refine Jo ?_|intro hb
   all_goals rfl
 · simp only at d1 d2 d3 d4 d5 d6
   rw [decide_eq_false (by omega)] at r2
   rw [decide_eq_false (by omega)] at r4
   rw [decide_eq_false (by omega)] at f12
   rw [decide_eq_false (by omega)] at t8
   rw [decide_eq_false (by omega)] at s0
   rw [decide_eq_true (by omega)] at s8
   rw [e,if_pos (by decide)]
   repeat' first|refine Jk ?_|refine Jc (cN _) ?_|refine Ji ?_|refine JJ ?_|refine Jl ?_|refine Jx ?_|refine Jt ?_|refine Jb ?_ ?_|(apply qT (ty:=0);rfl;rfl;rfl)|(apply qF (ty:=0);rfl;rfl;rfl)|refine Jz ?_ ?_|refine Jo ?_|intro hb
   all_goals rfl
 · simp only at d1 d2 d3 d4 d5 d6 d7
   rw [decide_eq_false (by omega)] at r2
   rw [decide_eq_false (by omega)] at r4
   rw [decide_eq_false (by omega)] at f12
   rw [decide_eq_false (by omega)] at t8
   rw [decide_eq_false (by omega)] at s0
   rw [decide_eq_false (by omega)] at s8
   rw [decide_eq_true (by omega)] at g8
   rw [e,if_pos (by decide)]
   repeat' first|refine Jk ?_|refine Jc (cN _) ?_|refine Ji ?_|refine JJ ?_|refine Jl ?_|refine Jx ?_|refine Jt ?_|refine Jb ?_ ?_|(apply qT (ty:=0);rfl;rfl;rfl)|(apply qF (ty:=0);rfl;rfl;rfl)|refine Jz ?_ ?_|refine Jo ?_|intro hb
   all_goals rfl
 simp only at d1 d2 d3 d4 d5 d6 d7
 rw [decide_eq_false (by omega)] at r2
 rw [decide_eq_false (by omega)] at r4
 rw [decide_eq_false (by omega)] at f12
 rw [decide_eq_false (by omega)] at t8
 rw [decide_eq_false (by omega)] at s0
 rw [decide_eq_false (by omega)] at s8
 rw [decide_eq_false (by omega)] at g8
 rw [e,if_neg (by decide)]
 generalize rs.all YG=R at cR ⊢
 cases R with
 | false =>
   rw [if_pos rfl]
   repeat' first|refine Jk ?_|refine Jc (cN _) ?_|refine Jc (cR _) ?_|refine Ji ?_|refine JJ ?_|refine Jl ?_|refine Jx ?_|refine Jt ?_|refine Jb ?_ ?_|(apply qT (ty:=0);rfl;rfl;rfl)|(apply qF (ty:=0);rfl;rfl;rfl)|refine Jz ?_ ?_|refine Jo ?_|intro hb
   all_goals rfl
 |true=>
 rw [if_neg (by simp)]
 repeat' first|refine Jk ?_|refine Jc (cN _) ?_|refine Jc (cR _) ?_|refine Ji ?_|refine JJ ?_|refine Jl ?_|refine Jx ?_|refine Jt ?_|refine Jb ?_ ?_|(apply qT (ty:=0);rfl;rfl;rfl)|(apply qF (ty:=0);rfl;rfl;rfl)|refine Jz ?_ ?_|refine Jo ?_|intro hb
 refine Wp.while (fun m2 tm H=>∃ (i:Nat) (base:TM),i+m2=fr.length∧Zv Fr.err fr=Zv Fr.err (fr.drop i)∧tm=ovr base [(1,.ptr 0 6 0 0),(52,slV fn 3 (frC fr)),(53,.int .i64 (fr.length:Int)),(54,.int .i64 (i:Int))]∧H=⟨[naB nm rn rs fn fr tn ts sn ss gn gs],0,[],0⟩)
  (fun m2 tm H hI=>Wp.drop ?_) fr.length _ _ ⟨0,_,by omega,by simp,Zf ⟨rfl,rfl,Zz (by rw [e2]),rfl,trivial⟩,rfl⟩
 obtain ⟨i,base,hi,hgo,rfl,rfl⟩:=hI
 rw [hgo]
 by_cases hlt:i<fr.length
 · obtain ⟨x, hx⟩ : ∃ x, fr[i]? = some x := ⟨fr[i], by simp⟩
   have hxm:=List.mem_of_getElem? hx
   have hlx:=Zn (i:Int) (fr.length:Int)
   rw [decide_eq_true (by omega)] at hlx
   have hii:=Zy (a:=(i:Int)) (b:=1) (by omega) (by omega)
   rw [show (i:Int)+1=((i+1:Nat):Int) by omega] at hii
   have hxl:=hfs x hxm
   have hj:=Wb hx
   have cA:=ZgY x.role (Nat.le_trans hxl.1 (by decide))
   have cB:=ZgY x.name (Nat.le_trans hxl.2 (by decide))
   have k1:=Zn x.sort 2
   have k2:=Yv x.sort 4
   cases hA:YG x.role with
   | false =>
     rw [hA] at cA
     rw [Zl hx (e:=2) (if_pos (.inl hA)),if_pos (by decide),if_pos (by decide)]
     repeat' first|refine Jk ?_|refine Jc (cA _) ?_|refine Jc (cB _) ?_|refine Ji ?_|refine JJ ?_|refine Jl ?_|refine Jx ?_|refine Jt ?_|refine Jb ?_ ?_|(apply qT (ty:=0);rfl;rfl;rfl)|(apply qF (ty:=0);rfl;rfl;rfl)|refine Jz ?_ ?_|refine Jo ?_|intro hb
     all_goals rfl
   | true=>
   rw [hA] at cA
   cases hB:YG x.name with
   | false =>
     rw [hB] at cB
     rw [Zl hx (e:=2) (if_pos (.inr hB)),if_pos (by decide),if_pos (by decide)]
     repeat' first|refine Jk ?_|refine Jc (cA _) ?_|refine Jc (cB _) ?_|refine Ji ?_|refine JJ ?_|refine Jl ?_|refine Jx ?_|refine Jt ?_|refine Jb ?_ ?_|(apply qT (ty:=0);rfl;rfl;rfl)|(apply qF (ty:=0);rfl;rfl;rfl)|refine Jz ?_ ?_|refine Jo ?_|intro hb
     all_goals rfl
   | true=>
   rw [hB] at cB
   have he:Fr.err x=if x.sort<2∨4<x.sort then 10 else 0:=if_neg (by simp [hA,hB])
   by_cases q1:x.sort<2
   · rw [decide_eq_true q1] at k1
     rw [Zl hx (e:=10) (he.trans (if_pos (.inl q1))),if_pos (by decide),if_pos (by decide)]
     repeat' first|refine Jk ?_|refine Jc (cA _) ?_|refine Jc (cB _) ?_|refine Ji ?_|refine JJ ?_|refine Jl ?_|refine Jx ?_|refine Jt ?_|refine Jb ?_ ?_|(apply qT (ty:=0);rfl;rfl;rfl)|(apply qF (ty:=0);rfl;rfl;rfl)|refine Jz ?_ ?_|refine Jo ?_|intro hb
     all_goals rfl
   rw [decide_eq_false q1] at k1
   by_cases q2:4<x.sort
   · rw [decide_eq_true q2] at k2
     rw [Zl hx (e:=10) (he.trans (if_pos (.inr q2))),if_pos (by decide),if_pos (by decide)]
     repeat' first|refine Jk ?_|refine Jc (cA _) ?_|refine Jc (cB _) ?_|refine Ji ?_|refine JJ ?_|refine Jl ?_|refine Jx ?_|refine Jt ?_|refine Jb ?_ ?_|(apply qT (ty:=0);rfl;rfl;rfl)|(apply qF (ty:=0);rfl;rfl;rfl)|refine Jz ?_ ?_|refine Jo ?_|intro hb
     all_goals rfl
   rw [decide_eq_false q2] at k2
   rw [Zl hx (e:=0) (he.trans (if_neg (by omega))),if_neg (by decide)]
   repeat' first|refine Jk ?_|refine Jc (cA _) ?_|refine Jc (cB _) ?_|refine Ji ?_|refine JJ ?_|refine Jl ?_|refine Jx ?_|refine Jt ?_|refine Jb ?_ ?_|(apply qT (ty:=0);rfl;rfl;rfl)|(apply qF (ty:=0);rfl;rfl;rfl)|refine Jz ?_ ?_|refine Jo ?_|intro hb
   refine DropQ.go [(1,.ptr 0 6 0 0),(52,slV fn 3 (frC fr)),(53,.int .i64 (fr.length:Int)),(54,.int .i64 ((i+1:Nat):Int))] ⟨rfl,rfl,rfl,rfl,trivial⟩ ?_ rfl ?_ ?_
   · simp [Ze,under]
   · simp [ZO,Zo,Ze,under]
   · exact LoopI.go (m2-1) (by omega) ⟨i+1,_,by omega,rfl,rfl,rfl⟩
 · have e : i = fr.length := by omega
   subst e
   have hlx:=Zn (fr.length:Int) (fr.length:Int)
   rw [decide_eq_false (by omega)] at hlx
   rw [List.drop_length]
   rw [show Zv Fr.err []=0 from rfl,if_neg (by decide)]
   generalize ts.all YG=T at cT ⊢
   cases T with
   | false =>
     rw [if_pos rfl]
     repeat' first|refine Jk ?_|refine Jc (cT _) ?_|refine Ji ?_|refine JJ ?_|refine Jl ?_|refine Jx ?_|refine Jt ?_|refine Jb ?_ ?_|(apply qT (ty:=0);rfl;rfl;rfl)|(apply qF (ty:=0);rfl;rfl;rfl)|refine Jz ?_ ?_|refine Jo ?_|intro hb
     all_goals rfl
   | true =>
     rw [if_neg (by simp)]
     repeat' first|refine Jk ?_|refine Jc (cT _) ?_|refine Ji ?_|refine JJ ?_|refine Jl ?_|refine Jx ?_|refine Jt ?_|refine Jb ?_ ?_|(apply qT (ty:=0);rfl;rfl;rfl)|(apply qF (ty:=0);rfl;rfl;rfl)|refine Jz ?_ ?_|refine Jo ?_|intro hb
     all_goals rfl
theorem c60 (h:n.Sm):∀ H,CallOk E0 Tryz.prog 60 [.agg n.cells] H (.int .i64 n.syn) H:=by
 have cH:=c99 h
 have hss:=h.ss
 have hsl:=h.sl
 have hgs:=h.gs
 have hgl:=h.gl
 unfold Na.syn
 clear h
 have n1:=ZK n.head 0
 generalize n.head=hd at cH n1 ⊢
 obtain ⟨nm,rn,rs,fn,fr,tn,ts,sn,ss,gn,gs⟩:=n
 simp only [Na.cells] at cH hss hsl hgs hgl ⊢
 have e4:=ZI ss
 have e5:=YR gs
 refine Jw tOk fe60.ok rfl ?_ (by simp only [Zt,Zj])
 by_cases d1:hd=0
 case neg=>
  rw [decide_eq_false d1] at n1
  rw [if_pos d1]
  repeat' first|refine Jk ?_|refine Jc (cH _) ?_|refine Ji ?_|refine JJ ?_|refine Jl ?_|refine Jx ?_|refine Jt ?_|refine Jb ?_ ?_|(apply qT (ty:=0);rfl;rfl;rfl)|(apply qF (ty:=0);rfl;rfl;rfl)|refine Jz ?_ ?_|refine Jo ?_|intro hb
  all_goals rfl
 rw [decide_eq_true d1] at n1
 rw [if_neg (by omega)]
 repeat' first|refine Jk ?_|refine Jc (cH _) ?_|refine Ji ?_|refine JJ ?_|refine Jl ?_|refine Jx ?_|refine Jt ?_|refine Jb ?_ ?_|(apply qT (ty:=0);rfl;rfl;rfl)|(apply qF (ty:=0);rfl;rfl;rfl)|refine Jz ?_ ?_|refine Jo ?_|intro hb
 clear cH n1
 refine Wp.while (fun m2 tm H=>∃ (i:Nat) (base:TM),i+m2=ss.length∧Zv Sp.err ss=Zv Sp.err (ss.drop i)∧tm=ovr base [(1,.ptr 0 6 0 0),(16,slV sn 7 (spC ss)),(17,.int .i64 (ss.length:Int)),(18,.int .i64 (i:Int))]∧H=⟨[naB nm rn rs fn fr tn ts sn ss gn gs],0,[],0⟩)
  (fun m2 tm H hI=>Wp.drop ?_) ss.length _ _ ⟨0,_,by omega,by simp,Zf ⟨rfl,rfl,Zz (by rw [e4]),rfl,trivial⟩,rfl⟩
 obtain ⟨i,base,hi,hgo,rfl,rfl⟩:=hI
 rw [hgo]
 by_cases hlt:i<ss.length
 · obtain ⟨x, hx⟩ : ∃ x, ss[i]? = some x := ⟨ss[i], by simp⟩
   have hxm:=List.mem_of_getElem? hx
   have hlx:=Zn (i:Int) (ss.length:Int)
   rw [decide_eq_true (by omega)] at hlx
   have hii:=Zy (a:=(i:Int)) (b:=1) (by omega) (by omega)
   rw [show (i:Int)+1=((i+1:Nat):Int) by omega] at hii
   have hxl:=hss x hxm
   have hj:=ZX hx
   have cA:=ZgY x.frm (Nat.le_trans hxl.1 (by decide))
   have cB:=ZgY x.to (Nat.le_trans hxl.2.1 (by decide))
   have cM:=ZiR hxl.2.2.1 (by have:=hxl.2.2.2;omega)
   have k1:=ZK x.msg.msgE 0
   have he:YG x.frm=true→YG x.to=true→Sp.err x=x.msg.msgE:=fun h1 h2=>if_neg (by simp [h1,h2])
   cases hA:YG x.frm with
   | false =>
     rw [hA] at cA
     rw [Zl hx (e:=2) (if_pos (.inl hA)),if_pos (by decide),if_pos (by decide)]
     obtain ⟨xf,xt,⟨k',nm',s',b',kz'⟩,xl⟩:=x
     simp only [Sp.cells,Tm.cells,List.cons_append,List.nil_append] at hj cA cB
     repeat' first|refine Jk ?_|refine Jc (cA _) ?_|refine Jc (cB _) ?_|refine Ji ?_|refine JJ ?_|refine Jl ?_|refine Jx ?_|refine Jt ?_|refine Jb ?_ ?_|(apply qT (ty:=0);rfl;rfl;rfl)|(apply qF (ty:=0);rfl;rfl;rfl)|refine Jz ?_ ?_|refine Jo ?_|intro hb
     all_goals rfl
   | true=>
   rw [hA] at cA
   cases hB:YG x.to with
   | false =>
     rw [hB] at cB
     rw [Zl hx (e:=2) (if_pos (.inr hB)),if_pos (by decide),if_pos (by decide)]
     obtain ⟨xf,xt,⟨k',nm',s',b',kz'⟩,xl⟩:=x
     simp only [Sp.cells,Tm.cells,List.cons_append,List.nil_append] at hj cA cB
     repeat' first|refine Jk ?_|refine Jc (cA _) ?_|refine Jc (cB _) ?_|refine Ji ?_|refine JJ ?_|refine Jl ?_|refine Jx ?_|refine Jt ?_|refine Jb ?_ ?_|(apply qT (ty:=0);rfl;rfl;rfl)|(apply qF (ty:=0);rfl;rfl;rfl)|refine Jz ?_ ?_|refine Jo ?_|intro hb
     all_goals rfl
   | true=>
   rw [hB] at cB
   rw [Zl hx (he hA hB)]
   clear he hA hB
   generalize x.msg.msgE=me at cM k1 ⊢
   obtain ⟨xf,xt,⟨k',nm',s',b',kz'⟩,xl⟩:=x
   simp only [Sp.cells,Tm.cells,List.cons_append,List.nil_append] at hj cA cB cM
   by_cases q1:me=0
   · rw [decide_eq_true q1] at k1
     rw [if_neg (show ¬ (me≠0) by omega)]
     repeat' first|refine Jk ?_|(apply qCl;rfl;rfl;rfl;rfl;first|exact cA _|exact cB _|exact cM _)|refine Ji ?_|refine JJ ?_|refine Jl ?_|refine Jx ?_|refine Jt ?_|refine Jb ?_ ?_|(apply qT (ty:=0);rfl;rfl;rfl)|(apply qF (ty:=0);rfl;rfl;rfl)|refine Jz ?_ ?_|refine Jo ?_|intro hb
     refine DropQ.go [(1,.ptr 0 6 0 0),(16,slV sn 7 (spC ss)),(17,.int .i64 (ss.length:Int)),(18,.int .i64 ((i+1:Nat):Int))] ⟨rfl,rfl,rfl,rfl,trivial⟩ ?_ rfl ?_ ?_
     · simp [Ze,under]
     · simp [ZO,Zo,Ze,under]
     · exact LoopI.go (m2-1) (by omega) ⟨i+1,_,by omega,rfl,rfl,rfl⟩
   · rw [decide_eq_false q1] at k1
     rw [if_pos q1,if_pos q1]
     repeat' first|refine Jk ?_|(apply qCl;rfl;rfl;rfl;rfl;first|exact cA _|exact cB _|exact cM _)|refine Ji ?_|refine JJ ?_|refine Jl ?_|refine Jx ?_|refine Jt ?_|refine Jb ?_ ?_|(apply qT (ty:=0);rfl;rfl;rfl)|(apply qF (ty:=0);rfl;rfl;rfl)|refine Jz ?_ ?_|refine Jo ?_|intro hb
     all_goals rfl
 · have e : i = ss.length := by omega
   subst e
   have hlx:=Zn (ss.length:Int) (ss.length:Int)
   rw [decide_eq_false (by omega)] at hlx
   rw [List.drop_length]
   rw [show Zv Sp.err []=0 from rfl,if_neg (by decide)]
   repeat' first|refine Jk ?_|refine Ji ?_|refine JJ ?_|refine Jl ?_|refine Jx ?_|refine Jt ?_|refine Jb ?_ ?_|(apply qT (ty:=0);rfl;rfl;rfl)|(apply qF (ty:=0);rfl;rfl;rfl)|refine Jz ?_ ?_|refine Jo ?_|intro hb
   clear hss hsl e4 hi hgo hlt hlx
   refine Wp.while (fun m2 tm H=>∃ (i:Nat) (base:TM),i+m2=gs.length∧Zv Gl.err gs=Zv Gl.err (gs.drop i)∧tm=ovr base [(1,.ptr 0 6 0 0),(38,slV gn 5 (glC gs)),(39,.int .i64 (gs.length:Int)),(40,.int .i64 (i:Int))]∧H=⟨[naB nm rn rs fn fr tn ts sn ss gn gs],0,[],0⟩)
    (fun m2 tm H hI=>Wp.drop ?_) gs.length _ _ ⟨0,_,by omega,by simp,Zf ⟨rfl,rfl,Zz (by rw [e5]),rfl,trivial⟩,rfl⟩
   obtain ⟨i,base,hi,hgo,rfl,rfl⟩:=hI
   rw [hgo]
   by_cases hlt:i<gs.length
   · obtain ⟨x, hx⟩ : ∃ x, gs[i]? = some x := ⟨gs[i], by simp⟩
     have hxm:=List.mem_of_getElem? hx
     have hlx:=Zn (i:Int) (gs.length:Int)
     rw [decide_eq_true (by omega)] at hlx
     have hii:=Zy (a:=(i:Int)) (b:=1) (by omega) (by omega)
     rw [show (i:Int)+1=((i+1:Nat):Int) by omega] at hii
     have hxl:=hgs x hxm
     have hj:=XO hx
     have cM:=ZjZ (g:=x) (Nat.le_trans hxl.1 (by decide)) (Nat.le_trans hxl.2.1 (by decide)) (Nat.le_trans hxl.2.2.1 (by decide)) (fun t ht=>⟨(hxl.2.2.2 t ht).1,by have:=(hxl.2.2.2 t ht).2;omega⟩)
     have k1:=ZK x.err 0
     rw [Zl hx rfl]
     generalize x.err=me at cM k1 ⊢
     obtain ⟨xk,xr,xw,xb,xd,xl⟩:=x
     simp only [Gl.cells] at hj cM
     by_cases q1:me=0
     · rw [decide_eq_true q1] at k1
       rw [if_neg (by omega)]
       repeat' first|refine Jk ?_|refine Jc (cM _) ?_|refine Ji ?_|refine JJ ?_|refine Jl ?_|refine Jx ?_|refine Jt ?_|refine Jb ?_ ?_|(apply qT (ty:=0);rfl;rfl;rfl)|(apply qF (ty:=0);rfl;rfl;rfl)|refine Jz ?_ ?_|refine Jo ?_|intro hb
       refine DropQ.go [(1,.ptr 0 6 0 0),(38,slV gn 5 (glC gs)),(39,.int .i64 (gs.length:Int)),(40,.int .i64 ((i+1:Nat):Int))] ⟨rfl,rfl,rfl,rfl,trivial⟩ ?_ rfl ?_ ?_
       · simp [Ze,under]
       · simp [ZO,Zo,Ze,under]
       · exact LoopI.go (m2-1) (by omega) ⟨i+1,_,by omega,rfl,rfl,rfl⟩
     · rw [decide_eq_false q1] at k1
       rw [if_pos q1]
       repeat' first|refine Jk ?_|refine Jc (cM _) ?_|refine Ji ?_|refine JJ ?_|refine Jl ?_|refine Jx ?_|refine Jt ?_|refine Jb ?_ ?_|(apply qT (ty:=0);rfl;rfl;rfl)|(apply qF (ty:=0);rfl;rfl;rfl)|refine Jz ?_ ?_|refine Jo ?_|intro hb
       all_goals rfl
   · have e : i = gs.length := by omega
     subst e
     have hlx:=Zn (gs.length:Int) (gs.length:Int)
     rw [decide_eq_false (by omega)] at hlx
     rw [List.drop_length]
     repeat' first|refine Jk ?_|refine Ji ?_|refine JJ ?_|refine Jl ?_|refine Jx ?_|refine Jt ?_|refine Jb ?_ ?_|(apply qT (ty:=0);rfl;rfl;rfl)|(apply qF (ty:=0);rfl;rfl;rfl)|refine Jz ?_ ?_|refine Jo ?_|intro hb
     all_goals rfl
