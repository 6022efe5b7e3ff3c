/-
  Padding: the program's text.
-/
import Derived.Test.YtgnklbkmfeafaaaGreatDoorWc
set_option maxHeartbeats 0
set_option maxRecDepth 100000
namespace Go.Vm
variable {n:Na} {H:Heap}
structure Na.Ti (n:Na):Prop where
 sm:n.Sm
 fl:n.fresh.length≤20
 tl:n.tags.length≤20
 sl:n.steps.length≤20
 ms:∀ s,s∈n.steps→s.msg.size≤100
theorem Qq {s:Zg} (h:YG s=true):s.length≤24:=by
 rw [YG,Bool.and_eq_true] at h
 cases s with
 |nil=>simp
 | cons c r =>
   have h1:=h.1
   rw [WK,Bool.and_eq_true] at h1
   exact of_decide_eq_true h1.1
theorem Zdt (h:n.chk.2=0):n.syn=0:=by
 by_cases c:n.syn=0
 · exact c
 · rw [Zbk c] at h;exact absurd h c
theorem QH (h:n.syn=0):n.head=0:=by
 unfold Na.syn at h
 split at h
 · contradiction
 · rename_i h1;simpa using h1
theorem Ub (h:n.head=0):YG n.name=true∧n.nums=0∧n.roles.all YG=true∧Zv Fr.err n.fresh=0∧n.tags.all YG=true:=by
 unfold Na.head at h
 split at h
 · contradiction
 rename_i h1
 split at h
 · contradiction
 rename_i h2
 split at h
 · contradiction
 rename_i h3
 split at h
 · contradiction
 rename_i h4
 split at h
 · contradiction
 rename_i h5
 exact ⟨by simpa using h1,by simpa using h2,by simpa using h3,by simpa using h4,by simpa using h5⟩
theorem Zez {l:List Fr} (h:Zv Fr.err l=0):∀ f,f∈l→YG f.name=true:=fun f hf=>by
 have:=Um h f hf
 unfold Fr.err at this
 split at this
 · contradiction
 · rename_i h1
   cases h2:YG f.name with
   | true=>rfl
   | false=>exact absurd (.inr h2) h1
theorem Xg (h:n.chk.2=0):∀ s,s∈n.nms→s.length≤24:=by
 obtain ⟨-, -,h1,h2,h3⟩:=Ub (QH (Zdt h))
 intro s hs
 rcases List.mem_append.1 hs with hs|hs
 · exact Qq (List.all_eq_true.1 h1 s hs)
 rcases List.mem_append.1 hs with hs|hs
 · obtain ⟨f, hf, rfl⟩ := List.mem_map.1 hs
   exact Qq (Zez h2 f hf)
 · exact Qq (List.all_eq_true.1 h3 s hs)
theorem XB (h:n.chk.2=0):n.steps≠ []∧2≤n.roles.length:=by
 obtain ⟨-,h1, -⟩:=Ub (QH (Zdt h))
 unfold Na.nums at h1
 split at h1
 · contradiction
 rename_i h2
 split at h1
 · contradiction
 split at h1
 · contradiction
 rename_i h3
 exact ⟨fun e=>h3 (by rw [e];rfl),by omega⟩
theorem Za5 {N:List Zg} {w:Zg} (hN:∀ s,s∈N→s.length≤60) (hw:w.length≤61):(nnF N w).length≤61:=by
 have:=(Zeg N hN (61-w.length) w).1
 rw [nnF]
 omega
theorem Qh {l:List Zg} (h:l≠ []) (b:Bool):slV b 1 (Zi l)= .sl .none 1 (Zi l):=by
 cases l with
 |nil=>exact absurd rfl h
 |cons x r=>exact Zx _ _ _ _
theorem VN {id es:Nat} {L:List (List PV)} (hb:nth H.bx id=some (.cells es L)) (hf:Y0 L=some L):frzC 0 H (.own id es 0 L.length)=some (.sl .none es L):=by
 have h1:((L.drop 0).take L.length)=L:=by rw [List.drop_zero,List.take_length]
 simp only [frzC,Nat.not_lt_zero,if_false,hb,true_and,Nat.zero_add,Nat.le_refl,if_true,h1,hf]
theorem Zd6 {oF oT gv : PV} {lv : List Nat} {nt : Nat} (hF : ApV n.fn 3 (frC n.fresh) oF lv nt) {tn : Bool} (hT : ApV tn 1 (Zi n.tags) oT lv nt) (hTn : tn = n.tn ∨ n.tags ≠ []) (hS : nth H.bx 4 = some (.cells 7 (spC n.steps))) (hne : n.steps ≠ [])
  (hG:(n.goals= []∧gv=slV n.gn 5 (glC n.goals))∨(n.goals≠ []∧gv= .own 5 5 0 (glC n.goals).length∧nth H.bx 5=some (.cells 5 (glC n.goals)))) :
  Z1 0 H [.str n.name,slV n.rn 1 (Zi n.roles),oF,oT,.own 4 7 0 (spC n.steps).length,gv]=some n.cells:=by
 have hs:=VN hS (Qt n.steps)
 have hg:frzC 0 H gv=some (slV n.gn 5 (glC n.goals)):=by
  rcases hG with ⟨_,rfl⟩|⟨h1,rfl,h2⟩
  · exact Ye _ _ _ _ _
  · rw [VN h2 (QJ n.goals),Zdr h1]
 have ht:frzC 0 H oT=some (slV n.tn 1 (Zi n.tags)):=by
  rw [hT.frzC]
  rcases hTn with rfl|h
  · rfl
  · rw [Qh h,Qh h]
 simp only [Z1,Ye,hF.frzC,ht,hs,hg,Na.cells,ZbT hne]
 rfl
end Go.Vm
namespace Go.Vm.Seat
open Go.Proofs
theorem Wj (m:Nat) (H:Heap) (k:Int) (nm:Zg) (s:Int) (b:Bool) (l:List (List PV)):frz3 m H (.agg [.int .i64 k,.str nm,.int .i64 s,slV b 4 l])=some (.agg [.int .i64 k,.str nm,.int .i64 s,slV b 4 l]):=by
 show (match Z1 m H [.int .i64 k,.str nm,.int .i64 s,slV b 4 l] with|some cs'=>some (PV.agg cs')|none=>none)=_
 simp only [Z1,Ye]
 rfl
theorem c30 (s:Zg):∀ H,CallOk E0 Tryz.prog 30 [.str s] H (.agg (atT s).cells) H:=by
 simp only [atT,Tm.cells,Zb,Zq]
 refine Jw tOk fe30.ok rfl ?_
 repeat' first|refine Jo ?_|intro hb
 all_goals rfl
theorem Zij (f:Zg) (b:Bool) (l:List Tm):U3 E0 49 [(0,.int .i64 3),(1,.str f),(3,slV b 4 (Zb l))]=some (.agg [.int .i64 3,.str f,.int .i64 0,slV b 4 (Zb l)]):=by
 cases h:Zb l with
 | nil => cases b
          · rw [ZB];rfl
          · rw [Zq];rfl
 |cons a r=>rw [Zx];rfl
theorem c29 (f:Zg) (b:Bool) (l:List Tm):∀ H,CallOk E0 Tryz.prog 29 [.str f,slV b 4 (Zb l)] H (.agg [.int .i64 3,.str f,.int .i64 0,slV b 4 (Zb l)]) H:=by
 have hbd:=Zij f b l
 obtain ⟨q1,q2⟩:=Zk b 4 (Zb l)
 have q3:[PV.int .i64 3,.str f,.int .i64 0,slV b 4 (Zb l)].all Zp=true:=by
  simp only [List.all_cons,List.all_nil,Bool.and_true] at q2 ⊢
  rw [q2];rfl
 refine Jw tOk fe29.ok (Wj _ _ _ _ _ _ _) ?_
 repeat' first|(apply qBd;rfl;rfl;rfl;assumption;exact IsV.aggN)|refine Jo ?_|intro hb
 all_goals exact Wj _ _ _ _ _ _ _
theorem Zix (f:Zg) (x:Tm):∀ H,CallOk E0 Tryz.prog 29 [.str f,.sl .full 4 [x.cells]] H (.agg (apT f [x]).cells) H:=fun H=>by
 have h:=c29 f true [x] H
 obtain ⟨k,m,s,b,kz⟩:=x
 simp only [apT,Tm.cells,Zb,Zx] at h ⊢
 exact Xa h rfl
theorem Zhd (f:Zg) (x y:Tm):∀ H,CallOk E0 Tryz.prog 29 [.str f,.sl .full 4 [x.cells,y.cells]] H (.agg (apT f [x,y]).cells) H:=fun H=>by
 have h:=c29 f true [x,y] H
 obtain ⟨k,m,s,b,kz⟩:=x
 obtain ⟨k',m',s',b',kz'⟩:=y
 simp only [apT,Tm.cells,Zb,Zx] at h ⊢
 exact Xa h rfl
end Go.Vm.Seat
namespace Go.Vm
variable {s:Sp} {n:Na} {i:Nat}
theorem Zu:Na.none.cells= [.str [],.nils,.nils,.nils,.nils,.nils]:=by
 simp [Na.none,Na.cells,Zi,frC,spC,glC,Zq]
theorem W9 (t:Zg):∀ k,(WF (atT t) k).size=2*k+1
 |0=>by simp [WF,atT,Tm.size,ZW]
 | k + 1 => by
   have:=W9 t k
   simp only [WF,apT,Tm.size,ZW,this]
   simp [atT,Tm.size,ZW]
   omega
theorem X2 {f:Zg} {l:List Tm} (hf:f.length≤1000) (hl:l.length≤1000) (h:∀ t,t∈l→t.Ok):(apT f l).Ok:=
 .mk (by decide) (by decide) (Nat.le_trans hf (by decide)) (Nat.le_trans hl (by decide)) h
theorem ZdK {s:Zg} (hs:s.length≤1000):(atT s).Ok:= .mk (by decide) (by decide) (Nat.le_trans hs (by decide)) (by simp) (by simp)
theorem Qa {s:Zg} (hs:s.length≤1000):∀ k,(WF (atT s) k).Ok
 |0=>ZdK hs
 | k + 1 => X2 (by decide) (by simp) fun t ht => by
   rcases List.mem_cons.1 ht with rfl|ht
   · exact ZdK hs
   · rw [List.mem_singleton.1 ht];exact Qa hs k
theorem Vl (h:n.Sm) (hl:n.tags.length≤30) {t:Zg} (ht:t.length≤100):(n.with t).Sm where
 nm:=h.nm
 rl:=h.rl
 fl:=h.fl
 tl:=by simp [Na.with];omega
 sl:=h.sl
 gl:=h.gl
 rs:=h.rs
 fs:=h.fs
 ts:=fun s hs=>by
  rcases List.mem_append.1 (show s∈n.tags++ [t] from hs) with hs|hs
  · exact h.ts s hs
  · rw [List.mem_singleton.1 hs];omega
 ss:=h.ss
 gs:=h.gs
theorem UO (h:n.steps[i]? = some s) (m:Tm):(n.repl i m).steps=n.steps.set i {s with msg:=m}:=by
 simp [Na.repl,h]
theorem Zda {α:Type} {l:List α} {x y:α} (h:y∈l.set i x):y∈l∨y=x:=by
 rcases List.mem_or_eq_of_mem_set h with h|h
 · exact .inl h
 · exact .inr h
theorem WH (h:n.Sm) (hs:n.steps[i]? = some s) {m:Tm} (hm:m.Ok) (hz:m.size≤400):(n.repl i m).Sm where
 nm:=h.nm
 rl:=h.rl
 fl:=h.fl
 tl:=h.tl
 sl:=by rw [UO hs,List.length_set];exact h.sl
 gl:=h.gl
 rs:=h.rs
 fs:=h.fs
 ts:=h.ts
 ss:=fun x hx=>by
  rw [UO hs] at hx
  rcases Zda hx with hx|rfl
  · exact h.ss x hx
  · have := h.ss s (List.mem_of_getElem? hs)
    exact ⟨this.1,this.2.1,hm,hz⟩
 gs:=h.gs
theorem Vk (h:n.steps[i]? = some s) (m:Tm):n.repl i m={n with steps:=n.steps.set i {s with msg:=m}}:=by
 simp [Na.repl,h]
theorem ZbG (l:List Sp) (i:Nat) (x:Sp):(spC l).set i x.cells=spC (l.set i x):=by simp [spC,List.map_set]
end Go.Vm
namespace Go.Vm.Seat
variable {H:Heap} {C:List PV} {n:Na}
open Go.Proofs
abbrev zB:Box:= .cells 6 [[.str [],.nils,.nils,.nils,.nils,.nils]]
theorem Uf (h:Z1 0 H C=some n.cells):Xn 0 H [.agg C]=some [.agg n.cells]:=by
 have:frz2 0 H (.agg C)=some (.agg n.cells):=by
  show (match Z1 0 H C with|some cs'=>some (PV.agg cs')|none=>none)=_
  rw [h]
 simp only [Xn,this]
theorem Vr {e:Int} (h:Z1 0 H C=some n.cells):frz3 0 H (.tup [.agg C,.int .i64 e])=some (.tup [.agg n.cells,.int .i64 e]):=by
 have:=Uf h
 rw [YL]
 simp only [Xn] at this ⊢
 cases h2:frz2 0 H (.agg C) with
 |none=>rw [h2] at this;cases this
 | some v =>
   rw [h2] at this
   simp only [Option.some.injEq,List.cons.injEq,and_true] at this
   subst this
   rfl
theorem ZjL (h : n.Sm) {oF oT sv gv : PV} {B0 B1 B2 B3 B4 B5 B6 B7 : Box} {lv : List Nat} {nt : Nat} (hok : [PV.str n.name, slV n.rn 1 (Zi n.roles), oF, oT, sv, gv].all Zp = true)
  (hf:∀ ex,Z1 0 ⟨[B0,B1,B2,B3,B4,B5,B6,B7]++ex,0,lv,nt⟩ [.str n.name,slV n.rn 1 (Zi n.roles),oF,oT,sv,gv]=some n.cells) :
  CallOk E0 Tryz.prog 31 [.agg [.str n.name,slV n.rn 1 (Zi n.roles),oF,oT,sv,gv]] ⟨[B0,B1,B2,B3,B4,B5,B6,B7],0,lv,nt⟩
   (if n.chk.2=0 then .tup [.agg [.str n.name,slV n.rn 1 (Zi n.roles),oF,oT,sv,gv],.int .i64 0] else .tup [.agg Na.none.cells,.int .i64 n.chk.2])
   ⟨[B0,B1,B2,B3,B4,B5,B6,B7,cpB n.name (slV n.rn 1 (Zi n.roles)) oF oT sv gv,if n.chk.2=0 then cpB n.name (slV n.rn 1 (Zi n.roles)) oF oT sv gv else zB],0,lv,nt⟩:=by
 have hck:=YD (c25 h hNil) (Uf (hf [cpB n.name (slV n.rn 1 (Zi n.roles)) oF oT sv gv,zB])) rfl
 rw [Zu]
 clear hf h
 have n1:=ZK n.chk.2 0
 generalize n.chk.2=e at hck n1 ⊢
 generalize n.chk.1=ln at hck
 generalize slV n.rn 1 (Zi n.roles)=R at hok hck ⊢
 by_cases c:e=0
 · rw [decide_eq_true c] at n1
   subst c
   rw [if_pos rfl,if_pos rfl]
   refine Zs (own:=fun _=>false) tOk fe31.ok ?_
   refine Wp.seq ?_
   repeat' first|refine Jc hck ?_|refine Ji ?_|refine Jt ?_|refine Jb ?_ ?_|refine Jo ?_|intro hb
   all_goals exact RetE.ret rfl rfl rfl
 · rw [decide_eq_false c] at n1
   rw [if_neg c,if_neg c]
   refine Zs (own:=fun _=>false) tOk fe31.ok ?_
   refine Wp.seq ?_
   repeat' first|refine Jc hck ?_|refine Ji ?_|refine Jt ?_|refine Jb ?_ ?_|refine Jo ?_|intro hb
   all_goals exact RetE.ret rfl rfl rfl
