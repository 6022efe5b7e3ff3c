/-
  Terms as they come in: a tree, its cells, its size. More rules by the type of what comes out: operations in drawn regions, and lengths, that want a fact. The rules of VmTac and VmTac2 once more, under short names, with what closes their side goals written beside them. Rules for an operation of any kind: its value and the heap behind it are brought to their head forms. Terms: what is left of a budget of nodes, what is small, what is stripped. Valid terms: names, nodes, levels; the symbols of the theory and what fits them. A call that is known at some boxes is known where further boxes lie behin
-/
import Derived.Test.YtajpkolimokcdaaGreatDoorFf
import Derived.IntWalk
import Derived.Lib.Bytealg
namespace Go.Vm
inductive Tm where
 | mk (kind : Int) (name : List UInt8) (sort : Int) (nil : Bool) (kids : List Tm)
mutual
def Tm.cells : Tm → List PV
 | .mk k nm s b kids => [.int .i64 k, .str nm, .int .i64 s, slV b 4 (cellsL kids)]
def cellsL : List Tm → List (List PV)
 | [] => []
 | t :: r => t.cells :: cellsL r
end
mutual
def Tm.size : Tm → Nat
 | .mk _ _ _ _ kids => 1 + sizeL kids
def sizeL : List Tm → Nat
 | [] => 0
 | t :: r => t.size + sizeL r
end
theorem cellsL_eq : ∀ l : List Tm, cellsL l = l.map Tm.cells
 | [] => rfl
 | t :: r => by simp [cellsL, cellsL_eq r]
theorem cellsL_length (l : List Tm) : (cellsL l).length = l.length := by simp [cellsL_eq]
theorem cellsL_get {l : List Tm} {i : Nat} {k : Int} {nm : List UInt8} {s : Int} {b : Bool} {kids : List Tm} (h : l[i]? = some (.mk k nm s b kids)) :
  (cellsL l)[i]? = some [.int .i64 k, .str nm, .int .i64 s, slV b 4 (cellsL kids)] := by
 simp [cellsL_eq, h, Tm.cells]
theorem sizeL_take {l : List Tm} : ∀ {i : Nat} {t : Tm}, l[i]? = some t → sizeL (l.take (i + 1)) = sizeL (l.take i) + t.size := by
 induction l with
 | nil => intro i t h; simp at h
 | cons a r ih =>
   intro i t h
   cases i with
   | zero => simp at h; subst h; simp [sizeL]
   | succ i => simp at h; simp only [List.take_succ_cons, sizeL, ih h]; omega
theorem sizeL_take_le (l : List Tm) (i : Nat) : sizeL (l.take i) ≤ sizeL l := by
 induction l generalizing i with
 | nil => simp
 | cons a r ih => cases i with
   | zero => simp [sizeL]
   | succ i => simp only [List.take_succ_cons, sizeL]; have := ih i; omega
theorem size_le {l : List Tm} {t : Tm} (h : t ∈ l) : t.size ≤ sizeL l := by
 induction l with
 | nil => simp at h
 | cons a r ih =>
   simp only [sizeL]
   rcases List.mem_cons.1 h with rfl | h
   · omega
   · have := ih h; omega
theorem ovr_mk {tm : TM} {l : List (Nat × PV)} (h : okL tm l) : tm = ovr tm l := (ovr_self h).symm
theorem int_eq {k : IntKind} {a b : Int} (h : a = b) : PV.int k a = PV.int k b := by rw [h]
inductive Tm.Ok : Tm → Prop
 | mk {k : Int} {nm : List UInt8} {s : Int} {b : Bool} {kids : List Tm} (hk : (Lit.int .i64 k).wf = true) (hs : (Lit.int .i64 s).wf = true) (hn : nm.length ≤ maxLen) (hl : kids.length ≤ maxLen) (h : ∀ t, t ∈ kids → t.Ok) : Tm.Ok (.mk k nm s b kids)
theorem wrap_nat {n : Nat} (h : n < 9223372036854775808) : IntKind.i64.wrap (n : Int) = (n : Int) := IntWalk.i64_in _ (by omega)
end Go.Vm
namespace Go.Vm
section
variable {E : Env} {P : Program} {own : Tmp → Bool} {n : Nat} {Q : Ex → TM → Heap → Prop} {K : TM → Heap → Prop} {tm : TM} {H : Heap}
theorem DrwQ.rIa {ops : Array Oper} {n0 i : Nat} {r : List Oper} {d : Nat} {ty : TypeId} {pos : String} {aft : Array Edge} {grd : Option (Nat × Bool)} {t : TypeId} {x y : Operand} {X Y p p' : PV} (hw : wantedA ops.toList tm ⟨some d, .indexAddr t x y, ty, pos, aft, grd⟩ = some true) (hn : Nat.blt d n = true) (hx : evalO E tm x = X) (hy : evalO E tm y = Y) (h : aIndexAddr E t X Y = some p) (hv : IsV p p')
  (hr : DrwQ E P own n ops n0 (i + 1) r K (setD tm (some d) p') H) : DrwQ E P own n ops n0 i (⟨some d, .indexAddr t x y, ty, pos, aft, grd⟩ :: r) K tm H := .run hw rfl hn (p := p) (by simp only [aOp, hx, hy, h, Option.map_some]) hv (by simp [okD, clsO]) hr
theorem DrwQ.rLd {ops : Array Oper} {n0 i : Nat} {r : List Oper} {d : Nat} {ty : TypeId} {pos : String} {aft : Array Edge} {grd : Option (Nat × Bool)} {t : TypeId} {x : Operand} {X p p' : PV} (hw : wantedA ops.toList tm ⟨some d, .load t x, ty, pos, aft, grd⟩ = some true) (hn : Nat.blt d n = true) (hx : evalO E tm x = X) (h : aLoad E t X H = some p) (hv : IsV p p')
  (hk : okD E own n0 tm ⟨some d, .load t x, ty, pos, aft, grd⟩ H H = true) (hr : DrwQ E P own n ops n0 (i + 1) r K (setD tm (some d) p') H) : DrwQ E P own n ops n0 i (⟨some d, .load t x, ty, pos, aft, grd⟩ :: r) K tm H := .run hw rfl hn (p := p) (by simp only [aOp, hx, h, Option.map_some]) hv hk hr
theorem RegQ.rLe {all r : List Oper} {d : Nat} {x : Operand} {X p p' : PV} {t : TypeId} {ty : TypeId} {pos : String} {aft : Array Edge} {grd : Option (Nat × Bool)} (hw : wantedA all tm ⟨some d, .call { callee := .builtin .len, args := #[x], argTypes := #[t] }, ty, pos, aft, grd⟩ = some true)
  (hn : Nat.blt d n = true) (hx : evalO E tm x = X) (h : ∀ H, aLen E t X H = some p) (hv : IsV p p') (hr : RegQ E P own n all r K (setD tm (some d) p') H) :
  RegQ E P own n all (⟨some d, .call { callee := .builtin .len, args := #[x], argTypes := #[t] }, ty, pos, aft, grd⟩ :: r) K tm H :=
 .run hw rfl hn (p := p) (by simp [aOp, aBuiltin, hx, h]) hv hr
theorem DrwQ.rLe {ops : Array Oper} {n0 i : Nat} {r : List Oper} {d : Nat} {x : Operand} {X p p' : PV} {t : TypeId} {ty : TypeId} {pos : String} {aft : Array Edge} {grd : Option (Nat × Bool)} (hw : wantedA ops.toList tm ⟨some d, .call { callee := .builtin .len, args := #[x], argTypes := #[t] }, ty, pos, aft, grd⟩ = some true)
  (hn : Nat.blt d n = true) (hx : evalO E tm x = X) (h : ∀ H, aLen E t X H = some p) (hv : IsV p p') (hk : okD E own n0 tm ⟨some d, .call { callee := .builtin .len, args := #[x], argTypes := #[t] }, ty, pos, aft, grd⟩ H H = true)
  (hr : DrwQ E P own n ops n0 (i + 1) r K (setD tm (some d) p') H) :
  DrwQ E P own n ops n0 i (⟨some d, .call { callee := .builtin .len, args := #[x], argTypes := #[t] }, ty, pos, aft, grd⟩ :: r) K tm H :=
 .run hw rfl hn (p := p) (by simp [aOp, aBuiltin, hx, h]) hv hk hr
theorem DrwQ.rBs {ops : Array Oper} {n0 i : Nat} {r : List Oper} {d : Nat} {t : TypeId} {m : Nat} {ps : Array (Nat × Operand)} {ty : TypeId} {pos : String} {aft : Array Edge} {grd : Option (Nat × Bool)} {es : Nat} {el el' : List (List PV)} (hw : wantedA ops.toList tm ⟨some d, .buildSlice t m ps, ty, pos, aft, grd⟩ = some true) (hn : Nat.blt d n = true)
  (ho : own d = false) (h : aBuildSlice E t m (ps.toList.map fun p => (p.1, evalO E tm p.2)) = some (es, el)) (hl : IsLL el el') (hf : frzLL el' = some el') (hk : okD E own n0 tm ⟨some d, .buildSlice t m ps, ty, pos, aft, grd⟩ H H = true)
  (hr : DrwQ E P own n ops n0 (i + 1) r K (setD tm (some d) (.sl .full es el')) H) : DrwQ E P own n ops n0 i (⟨some d, .buildSlice t m ps, ty, pos, aft, grd⟩ :: r) K tm H := by
 have e := hl.eq
 subst e
 refine .run hw rfl hn (p := .sl .full es el) ?_ (.any _) hk hr
 simp only [aOp, h, ho, Bool.false_eq_true, if_false, hf]
theorem DrwQ.tk {ops : Array Oper} {n0 i : Nat} {o : Oper} {r : List Oper} {p : PV} {M : Heap} (hw : wantedA ops.toList tm o = some true) (hd : dstOk n o = true) (hc : clsO E own o = .tk)
  (h : aOp E (own (o.dst.getD 0)) (evalO E tm) o.op { H with ro := H.bx.length } = some (p, M)) (hl : H.bx.length ≤ M.bx.length)
  (hr : DrwQ E P own n ops n0 (i + 1) r K (setD tm o.dst p) (growH H M)) : DrwQ E P own n ops n0 i (o :: r) K tm H :=
 .stepN hd (.inr (.inr hc)) (fun ho' => by
  have hci := (clsI_eq (E := E) (own := own) ho').trans hc
  exact ⟨by rw [hci]; simp, .inr (.inl ⟨by rw [hci]; exact ⟨by simp, by simp, by simp⟩, .tk _ _ M hw hci (.op _ _ h) hl⟩)⟩) hr
theorem DrwQ.rApT {ops : Array Oper} {n0 i : Nat} {r : List Oper} {d : Nat} {ty : TypeId} {pos : String} {aft : Array Edge} {grd : Option (Nat × Bool)} {t u : TypeId} {x y : Operand} {X Y p : PV} {bx : List Box} {ro nt nt' : Nat} {lv lv' : List Nat} (hw : wantedA ops.toList tm ⟨some d, .call { callee := .builtin .append, args := #[x, y], argTypes := #[t, u] }, ty, pos, aft, grd⟩ = some true) (hn : Nat.blt d n = true) (ho : own d = false) (ht : own (d + 5000) = true)
  (hx : evalO E tm x = X) (hy : evalO E tm y = Y) (h : ∀ ro, aAppend E t u X Y ⟨bx, ro, lv, nt⟩ = some (p, ⟨bx, ro, lv', nt'⟩))
  (hr : DrwQ E P own n ops n0 (i + 1) r K (setD tm (some d) p) ⟨bx, ro, lv', nt'⟩) : DrwQ E P own n ops n0 i (⟨some d, .call { callee := .builtin .append, args := #[x, y], argTypes := #[t, u] }, ty, pos, aft, grd⟩ :: r) K tm ⟨bx, ro, lv, nt⟩ := by
 refine .tk (M := ⟨bx, bx.length, lv', nt'⟩) (p := p) hw ?_ ?_ ?_ (Nat.le_refl _) ?_
 · simp only [dstOk, hn]
 · simp [clsO, ht]
 · simp [aOp, aBuiltin, ho, hx, hy, h]
 · have e : growH ⟨bx, ro, lv, nt⟩ ⟨bx, bx.length, lv', nt'⟩ = ⟨bx, ro, lv', nt'⟩ := by simp [growH]
   rw [e]
   exact hr
end
end Go.Vm
namespace Go.Vm
theorem IsV.aggN {cs cs' : List PV} (h : IsL cs cs' := by repeat' first | exact Go.Vm.IsL.nil | exact Go.Vm.IsV.int _ _ | exact Go.Vm.IsV.str _ | exact Go.Vm.IsV.slV _ _ _ | exact Go.Vm.IsV.nils | exact Go.Vm.IsV.bool _ | exact Go.Vm.IsV.sl _ _ _ | apply Go.Vm.IsL.cons | apply Go.Vm.IsV.agg | exact Go.Vm.IsV.any _ | exact Go.Vm.IsL.any _) : IsV (.agg cs) (.agg cs') := .agg _ _ h
theorem IsV.tupN {cs cs' : List PV} (h : IsL cs cs' := by repeat' first | exact Go.Vm.IsL.nil | exact Go.Vm.IsV.int _ _ | exact Go.Vm.IsV.str _ | exact Go.Vm.IsV.slV _ _ _ | exact Go.Vm.IsV.nils | exact Go.Vm.IsV.bool _ | exact Go.Vm.IsV.sl _ _ _ | apply Go.Vm.IsL.cons | apply Go.Vm.IsV.agg | exact Go.Vm.IsV.any _ | exact Go.Vm.IsL.any _) : IsV (.tup cs) (.tup cs') := .tup _ _ h
theorem IsV.ptrN {a b c d a' b' c' d' : Nat} (h1 : a = a' := by first | exact (rfl : (_ : Nat) = 0) | exact (rfl : (_ : Nat) = 1) | exact (rfl : (_ : Nat) = 2) | exact (rfl : (_ : Nat) = 3) | exact (rfl : (_ : Nat) = 4) | exact (rfl : (_ : Nat) = 5) | exact (rfl : (_ : Nat) = 6) | exact (rfl : (_ : Nat) = 7) | exact (rfl : (_ : Nat) = 8) | exact rfl)
  (h2 : b = b' := by first | exact (rfl : (_ : Nat) = 1) | exact (rfl : (_ : Nat) = 2) | exact (rfl : (_ : Nat) = 3) | exact (rfl : (_ : Nat) = 4) | exact (rfl : (_ : Nat) = 5) | exact (rfl : (_ : Nat) = 6) | exact (rfl : (_ : Nat) = 7) | exact (rfl : (_ : Nat) = 8) | exact rfl)
  (h3 : c = c' := by first | exact (rfl : (_ : Nat) = 0) | exact (rfl : (_ : Nat) = 1) | exact (rfl : (_ : Nat) = 2) | exact rfl)
  (h4 : d = d' := by first | exact (rfl : (_ : Nat) = 0) | exact (rfl : (_ : Nat) = 1) | exact (rfl : (_ : Nat) = 2) | exact (rfl : (_ : Nat) = 3) | exact (rfl : (_ : Nat) = 4) | exact (rfl : (_ : Nat) = 5) | exact (rfl : (_ : Nat) = 6) | exact (rfl : (_ : Nat) = 7) | exact (rfl : (_ : Nat) = 8) | exact rfl) : IsV (.ptr a b c d) (.ptr a' b' c' d') := .ptr4 h1 h2 h3 h4
theorem IsH.mkN {bx bx' : List Box} {ro ro' nt nt' : Nat} {lv lv' : List Nat}
  (h : IsBL bx bx' := by repeat' first | exact Go.Vm.IsBL.nil | apply Go.Vm.IsBL.cells | apply Go.Vm.IsBL.cons | exact Go.Vm.IsLL.nil | apply Go.Vm.IsLL.cons | exact Go.Vm.IsL.nil | exact Go.Vm.IsV.int _ _ | exact Go.Vm.IsV.str _ | exact Go.Vm.IsV.slV _ _ _ | exact Go.Vm.IsV.nils | exact Go.Vm.IsV.bool _ | exact Go.Vm.IsV.sl _ _ _ | apply Go.Vm.IsL.cons | exact Go.Vm.IsV.any _ | exact Go.Vm.IsL.any _ | exact Go.Vm.IsLL.any _ | exact Go.Vm.IsBL.any _ | exact (rfl : (_ : Nat) = 1) | exact (rfl : (_ : Nat) = 2) | exact (rfl : (_ : Nat) = 3) | exact (rfl : (_ : Nat) = 4) | exact (rfl : (_ : Nat) = 5) | exact (rfl : (_ : Nat) = 6) | exact (rfl : (_ : Nat) = 7) | exact (rfl : (_ : Nat) = 8) | exact rfl)
  (h1 : ro = ro' := by first | exact (rfl : (_ : Nat) = 0) | exact (rfl : (_ : Nat) = 1) | exact rfl) (h2 : lv = lv' := by first | exact (rfl : (_ : List Nat) = []) | exact rfl)
  (h3 : nt = nt' := by first | exact (rfl : (_ : Nat) = 0) | exact (rfl : (_ : Nat) = 1) | exact (rfl : (_ : Nat) = 2) | exact (rfl : (_ : Nat) = 3) | exact (rfl : (_ : Nat) = 4) | exact rfl) : IsH ⟨bx, ro, lv, nt⟩ ⟨bx', ro', lv', nt'⟩ := .mk _ _ _ _ _ _ _ _ h h1 h2 h3
theorem IsL.n {l l' : List PV} (h : IsL l l' := by repeat' first | exact Go.Vm.IsL.nil | exact Go.Vm.IsV.int _ _ | exact Go.Vm.IsV.str _ | exact Go.Vm.IsV.slV _ _ _ | exact Go.Vm.IsV.nils | exact Go.Vm.IsV.bool _ | exact Go.Vm.IsV.sl _ _ _ | exact Go.Vm.IsV.ptrN | apply Go.Vm.IsL.cons | apply Go.Vm.IsV.agg | exact Go.Vm.IsV.any _ | exact Go.Vm.IsL.any _) : IsL l l' := h
theorem IsLL.n {l l' : List (List PV)} (h : IsLL l l' := by repeat' first | exact Go.Vm.IsLL.nil | apply Go.Vm.IsLL.cons | exact Go.Vm.IsL.nil | exact Go.Vm.IsV.int _ _ | exact Go.Vm.IsV.str _ | exact Go.Vm.IsV.slV _ _ _ | exact Go.Vm.IsV.nils | exact Go.Vm.IsV.bool _ | exact Go.Vm.IsV.sl _ _ _ | exact Go.Vm.IsV.ptrN | apply Go.Vm.IsL.cons | apply Go.Vm.IsV.agg | exact Go.Vm.IsV.any _ | exact Go.Vm.IsL.any _ | exact Go.Vm.IsLL.any _) : IsLL l l' := h
section
variable {E : Env} {P : Program} {own : Tmp → Bool} {n : Nat} {Q : Ex → TM → Heap → Prop} {K : TM → Heap → Prop} {tm : TM} {H : Heap}
theorem qT {all r : List Oper} {d : Nat} {OP : Op} {ty : TypeId} {pos : String} {aft : Array Edge} {grd : Option (Nat × Bool)} {H1 : Heap} (hw : wantedA all tm ⟨some d, OP, ty, pos, aft, grd⟩ = some true) (hn : Nat.blt d n = true) (h : aOp E (own d) (evalO E tm) OP H = some (.bool true, H1)) (hr : RegQ E P own n all r K (setD tm (some d) (.bool true)) H1) : RegQ E P own n all (⟨some d, OP, ty, pos, aft, grd⟩ :: r) K tm H := .rOp hw hn h (.bool _) hr
theorem dT {ops : Array Oper} {n0 i : Nat} {r : List Oper} {d : Nat} {OP : Op} {ty : TypeId} {pos : String} {aft : Array Edge} {grd : Option (Nat × Bool)} {H1 : Heap} (hw : wantedA ops.toList tm ⟨some d, OP, ty, pos, aft, grd⟩ = some true) (hn : Nat.blt d n = true) (h : aOp E (own d) (evalO E tm) OP H = some (.bool true, H1)) (hk : okD E own n0 tm ⟨some d, OP, ty, pos, aft, grd⟩ H H1 = true) (hr : DrwQ E P own n ops n0 (i + 1) r K (setD tm (some d) (.bool true)) H1) : DrwQ E P own n ops n0 i (⟨some d, OP, ty, pos, aft, grd⟩ :: r) K tm H := .rOp hw hn h (.bool _) hk hr
theorem qF {all r : List Oper} {d : Nat} {OP : Op} {ty : TypeId} {pos : String} {aft : Array Edge} {grd : Option (Nat × Bool)} {H1 : Heap} (hw : wantedA all tm ⟨some d, OP, ty, pos, aft, grd⟩ = some true) (hn : Nat.blt d n = true) (h : aOp E (own d) (evalO E tm) OP H = some (.bool false, H1)) (hr : RegQ E P own n all r K (setD tm (some d) (.bool false)) H1) : RegQ E P own n all (⟨some d, OP, ty, pos, aft, grd⟩ :: r) K tm H := .rOp hw hn h (.bool _) hr
theorem dF {ops : Array Oper} {n0 i : Nat} {r : List Oper} {d : Nat} {OP : Op} {ty : TypeId} {pos : String} {aft : Array Edge} {grd : Option (Nat × Bool)} {H1 : Heap} (hw : wantedA ops.toList tm ⟨some d, OP, ty, pos, aft, grd⟩ = some true) (hn : Nat.blt d n = true) (h : aOp E (own d) (evalO E tm) OP H = some (.bool false, H1)) (hk : okD E own n0 tm ⟨some d, OP, ty, pos, aft, grd⟩ H H1 = true) (hr : DrwQ E P own n ops n0 (i + 1) r K (setD tm (some d) (.bool false)) H1) : DrwQ E P own n ops n0 i (⟨some d, OP, ty, pos, aft, grd⟩ :: r) K tm H := .rOp hw hn h (.bool _) hk hr
theorem qB {all r : List Oper} {d : Nat} {OP : Op} {ty : TypeId} {pos : String} {aft : Array Edge} {grd : Option (Nat × Bool)} {e : Bool} {H1 : Heap} (hw : wantedA all tm ⟨some d, OP, ty, pos, aft, grd⟩ = some true) (hn : Nat.blt d n = true) (h : aOp E (own d) (evalO E tm) OP H = some (.bool e, H1)) (ht : e = true → RegQ E P own n all r K (setD tm (some d) (.bool true)) H1) (hf : e = false → RegQ E P own n all r K (setD tm (some d) (.bool false)) H1) : RegQ E P own n all (⟨some d, OP, ty, pos, aft, grd⟩ :: r) K tm H := .rB hw hn h ht hf
theorem qK {all r : List Oper} {d : Nat} {OP : Op} {ty : TypeId} {pos : String} {aft : Array Edge} {j : Nat} {w : Bool} (hw : wantedA all tm ⟨some d, OP, ty, pos, aft, some (j, w)⟩ = some false) (hn : Nat.blt d n = true) (hr : RegQ E P own n all r K (setD tm (some d) unset) H) : RegQ E P own n all (⟨some d, OP, ty, pos, aft, some (j, w)⟩ :: r) K tm H := .rSkip hw hn hr
theorem qLn {all r : List Oper} {d : Nat} {x : Operand} {t : TypeId} {ty : TypeId} {pos : String} {aft : Array Edge} {grd : Option (Nat × Bool)} {ti : TI} {e : TypeId} {b : Bool} {es : Nat} {el : List (List PV)} (hw : wantedA all tm ⟨some d, .call { callee := .builtin .len, args := #[x], argTypes := #[t] }, ty, pos, aft, grd⟩ = some true) (hn : Nat.blt d n = true) (hx : evalO E tm x = slV b es el) (ht : E.T t = some ti) (hk : ti.tk = .slice e) (hr : RegQ E P own n all r K (setD tm (some d) (.int .i64 (el.length : Int))) H) : RegQ E P own n all (⟨some d, .call { callee := .builtin .len, args := #[x], argTypes := #[t] }, ty, pos, aft, grd⟩ :: r) K tm H := .rLen hw hn hx ht hk hr
theorem qIx {all r : List Oper} {d : Nat} {t e : TypeId} {x y : Operand} {ty : TypeId} {pos : String} {aft : Array Edge} {grd : Option (Nat × Bool)} {ti ei : TI} {b : Bool} {es : Nat} {el : List (List PV)} {k : IntKind} {j : Nat} {cs : List PV} (hw : wantedA all tm ⟨some d, .indexAddr t x y, ty, pos, aft, grd⟩ = some true) (hn : Nat.blt d n = true) (hx : evalO E tm x = slV b es el) (ht : E.T t = some ti) (hk : ti.tk = .slice e) (he : E.T e = some ei) (hes : ei.size = es) (hy : evalO E tm y = .int k (j : Int)) (hj : el[j]? = some cs) (hr : RegQ E P own n all r K (setD tm (some d) (.fptr cs 0)) H) : RegQ E P own n all (⟨some d, .indexAddr t x y, ty, pos, aft, grd⟩ :: r) K tm H := .rIdx hw hn hx ht hk he hes hy hj hr
theorem dB {ops : Array Oper} {n0 i : Nat} {r : List Oper} {d : Nat} {OP : Op} {ty : TypeId} {pos : String} {aft : Array Edge} {grd : Option (Nat × Bool)} {e : Bool} {H1 : Heap} (hw : wantedA ops.toList tm ⟨some d, OP, ty, pos, aft, grd⟩ = some true) (hn : Nat.blt d n = true) (h : aOp E (own d) (evalO E tm) OP H = some (.bool e, H1)) (hk : okD E own n0 tm ⟨some d, OP, ty, pos, aft, grd⟩ H H1 = true) (ht : e = true → DrwQ E P own n ops n0 (i + 1) r K (setD tm (some d) (.bool true)) H1) (hf : e = false → DrwQ E P own n ops n0 (i + 1) r K (setD tm (some d) (.bool false)) H1) : DrwQ E P own n ops n0 i (⟨some d, OP, ty, pos, aft, grd⟩ :: r) K tm H := .rB hw hn h hk ht hf
theorem dK {ops : Array Oper} {n0 i : Nat} {r : List Oper} {d : Nat} {OP : Op} {ty : TypeId} {pos : String} {aft : Array Edge} {j : Nat} {w : Bool} (hw : wantedA ops.toList tm ⟨some d, OP, ty, pos, aft, some (j, w)⟩ = some false) (hn : Nat.blt d n = true) (hns : nstB E own ⟨some d, OP, ty, pos, aft, some (j, w)⟩ = true) (hr : DrwQ E P own n ops n0 (i + 1) r K (setD tm (some d) unset) H) : DrwQ E P own n ops n0 i (⟨some d, OP, ty, pos, aft, some (j, w)⟩ :: r) K tm H := .rSkip hw hn hns hr
theorem dLn {ops : Array Oper} {n0 i : Nat} {r : List Oper} {d : Nat} {x : Operand} {t : TypeId} {ty : TypeId} {pos : String} {aft : Array Edge} {grd : Option (Nat × Bool)} {ti : TI} {e : TypeId} {b : Bool} {es : Nat} {el : List (List PV)} (hw : wantedA ops.toList tm ⟨some d, .call { callee := .builtin .len, args := #[x], argTypes := #[t] }, ty, pos, aft, grd⟩ = some true) (hn : Nat.blt d n = true) (hx : evalO E tm x = slV b es el) (ht : E.T t = some ti) (hk : ti.tk = .slice e) (hr : DrwQ E P own n ops n0 (i + 1) r K (setD tm (some d) (.int .i64 (el.length : Int))) H) : DrwQ E P own n ops n0 i (⟨some d, .call { callee := .builtin .len, args := #[x], argTypes := #[t] }, ty, pos, aft, grd⟩ :: r) K tm H := .rLen hw hn hx ht hk hr
theorem dIx {ops : Array Oper} {n0 i : Nat} {r : List Oper} {d : Nat} {t e : TypeId} {x y : Operand} {ty : TypeId} {pos : String} {aft : Array Edge} {grd : Option (Nat × Bool)} {ti ei : TI} {b : Bool} {es : Nat} {el : List (List PV)} {k : IntKind} {j : Nat} {cs : List PV} (hw : wantedA ops.toList tm ⟨some d, .indexAddr t x y, ty, pos, aft, grd⟩ = some true) (hn : Nat.blt d n = true) (hx : evalO E tm x = slV b es el) (ht : E.T t = some ti) (hk : ti.tk = .slice e) (he : E.T e = some ei) (hes : ei.size = es) (hy : evalO E tm y = .int k (j : Int)) (hj : el[j]? = some cs) (hr : DrwQ E P own n ops n0 (i + 1) r K (setD tm (some d) (.fptr cs 0)) H) : DrwQ E P own n ops n0 i (⟨some d, .indexAddr t x y, ty, pos, aft, grd⟩ :: r) K tm H := .rIdx hw hn hx ht hk he hes hy hj hr
theorem qSt {all r : List Oper} {t : TypeId} {a v : Operand} {ty : TypeId} {pos : String} {aft : Array Edge} {grd : Option (Nat × Bool)} {ti : TI} {cs cs' : List PV} {H1 H1' : Heap} (hw : wantedA all tm ⟨none, .store t a v, ty, pos, aft, grd⟩ = some true) (ht : E.T t = some ti) (hcs : (evalO E tm v).cells = cs) (hn : IsL cs cs') (hl : (Nat.beq cs'.length ti.size && Nat.blt 0 ti.size) = true) (hc : cs'.all cellOk = true) (hwr : H.wr (evalO E tm a) cs' = some H1) (hh : IsH H1 H1') (hr : RegQ E P own n all r K tm H1') :
  RegQ E P own n all (⟨none, .store t a v, ty, pos, aft, grd⟩ :: r) K tm H := .rSt hw ht hcs hn hl hc hwr hh hr
theorem qSl {all r : List Oper} {d : Nat} {ty : TypeId} {pos : String} {aft : Array Edge} {grd : Option (Nat × Bool)} {t : TypeId} {x : Operand} {lo hi mx : Option Operand} {X : PV} {LO HI MX : Option PV} {p p' : PV} (hw : wantedA all tm ⟨some d, .slice t x lo hi mx, ty, pos, aft, grd⟩ = some true) (hn : Nat.blt d n = true) (hx : evalO E tm x = X) (h1 : optV (evalO E tm) lo = LO) (h2 : optV (evalO E tm) hi = HI) (h3 : optV (evalO E tm) mx = MX) (h : aSlice E t X LO HI MX = some p) (hv : IsV p p') (hr : RegQ E P own n all r K (setD tm (some d) p') H) : RegQ E P own n all (⟨some d, .slice t x lo hi mx, ty, pos, aft, grd⟩ :: r) K tm H := .rSl hw hn hx h1 h2 h3 h hv hr
theorem dSl {ops : Array Oper} {n0 i : Nat} {r : List Oper} {d : Nat} {ty : TypeId} {pos : String} {aft : Array Edge} {grd : Option (Nat × Bool)} {t : TypeId} {x : Operand} {lo hi mx : Option Operand} {X : PV} {LO HI MX : Option PV} {p p' : PV} (hw : wantedA ops.toList tm ⟨some d, .slice t x lo hi mx, ty, pos, aft, grd⟩ = some true) (hn : Nat.blt d n = true) (hx : evalO E tm x = X) (h1 : optV (evalO E tm) lo = LO) (h2 : optV (evalO E tm) hi = HI) (h3 : optV (evalO E tm) mx = MX) (h : aSlice E t X LO HI MX = some p) (hv : IsV p p') (hk : okD E own n0 tm ⟨some d, .slice t x lo hi mx, ty, pos, aft, grd⟩ H H = true) (hr : DrwQ E P own n ops n0 (i + 1) r K (setD tm (some d) p') H) : DrwQ E P own n ops n0 i (⟨some d, .slice t x lo hi mx, ty, pos, aft, grd⟩ :: r) K tm H := .rSl hw hn hx h1 h2 h3 h hv hk hr
theorem qBi {all r : List Oper} {d : Nat} {ty : TypeId} {pos : String} {aft : Array Edge} {grd : Option (Nat × Bool)} {op : BinOp} {t yt : TypeId} {x y : Operand} {X Y : PV} {p p' : PV} (hw : wantedA all tm ⟨some d, .binOp op t x y yt, ty, pos, aft, grd⟩ = some true) (hn : Nat.blt d n = true) (hx : evalO E tm x = X) (hy : evalO E tm y = Y) (h : aBin E op t X Y = some p) (hv : IsV p p') (hr : RegQ E P own n all r K (setD tm (some d) p') H) : RegQ E P own n all (⟨some d, .binOp op t x y yt, ty, pos, aft, grd⟩ :: r) K tm H := .rBi hw hn hx hy h hv hr
theorem dBi {ops : Array Oper} {n0 i : Nat} {r : List Oper} {d : Nat} {ty : TypeId} {pos : String} {aft : Array Edge} {grd : Option (Nat × Bool)} {op : BinOp} {t yt : TypeId} {x y : Operand} {X Y : PV} {p p' : PV} (hw : wantedA ops.toList tm ⟨some d, .binOp op t x y yt, ty, pos, aft, grd⟩ = some true) (hn : Nat.blt d n = true) (hx : evalO E tm x = X) (hy : evalO E tm y = Y) (h : aBin E op t X Y = some p) (hv : IsV p p') (hk : okD E own n0 tm ⟨some d, .binOp op t x y yt, ty, pos, aft, grd⟩ H H = true) (hr : DrwQ E P own n ops n0 (i + 1) r K (setD tm (some d) p') H) : DrwQ E P own n ops n0 i (⟨some d, .binOp op t x y yt, ty, pos, aft, grd⟩ :: r) K tm H := .rBi hw hn hx hy h hv hk hr
theorem qXi {all r : List Oper} {d : Nat} {ty : TypeId} {pos : String} {aft : Array Edge} {grd : Option (Nat × Bool)} {t : TypeId} {x y : Operand} {X Y : PV} {p p' : PV} (hw : wantedA all tm ⟨some d, .index t x y, ty, pos, aft, grd⟩ = some true) (hn : Nat.blt d n = true) (hx : evalO E tm x = X) (hy : evalO E tm y = Y) (h : aIndex E t X Y = some p) (hv : IsV p p') (hr : RegQ E P own n all r K (setD tm (some d) p') H) : RegQ E P own n all (⟨some d, .index t x y, ty, pos, aft, grd⟩ :: r) K tm H := .rIx hw hn hx hy h hv hr
theorem qIa {all r : List Oper} {d : Nat} {ty : TypeId} {pos : String} {aft : Array Edge} {grd : Option (Nat × Bool)} {t : TypeId} {x y : Operand} {X Y : PV} {p p' : PV} (hw : wantedA all tm ⟨some d, .indexAddr t x y, ty, pos, aft, grd⟩ = some true) (hn : Nat.blt d n = true) (hx : evalO E tm x = X) (hy : evalO E tm y = Y) (h : aIndexAddr E t X Y = some p) (hv : IsV p p') (hr : RegQ E P own n all r K (setD tm (some d) p') H) : RegQ E P own n all (⟨some d, .indexAddr t x y, ty, pos, aft, grd⟩ :: r) K tm H := .rIa hw hn hx hy h hv hr
theorem dIa {ops : Array Oper} {n0 i : Nat} {r : List Oper} {d : Nat} {ty : TypeId} {pos : String} {aft : Array Edge} {grd : Option (Nat × Bool)} {t : TypeId} {x y : Operand} {X Y : PV} {p p' : PV} (hw : wantedA ops.toList tm ⟨some d, .indexAddr t x y, ty, pos, aft, grd⟩ = some true) (hn : Nat.blt d n = true) (hx : evalO E tm x = X) (hy : evalO E tm y = Y) (h : aIndexAddr E t X Y = some p) (hv : IsV p p') (hr : DrwQ E P own n ops n0 (i + 1) r K (setD tm (some d) p') H) : DrwQ E P own n ops n0 i (⟨some d, .indexAddr t x y, ty, pos, aft, grd⟩ :: r) K tm H := .rIa hw hn hx hy h hv hr
theorem qLd {all r : List Oper} {d : Nat} {ty : TypeId} {pos : String} {aft : Array Edge} {grd : Option (Nat × Bool)} {t : TypeId} {x : Operand} {X : PV} {p p' : PV} (hw : wantedA all tm ⟨some d, .load t x, ty, pos, aft, grd⟩ = some true) (hn : Nat.blt d n = true) (hx : evalO E tm x = X) (h : aLoad E t X H = some p) (hv : IsV p p') (hr : RegQ E P own n all r K (setD tm (some d) p') H) : RegQ E P own n all (⟨some d, .load t x, ty, pos, aft, grd⟩ :: r) K tm H := .rLd hw hn hx h hv hr
theorem dLd {ops : Array Oper} {n0 i : Nat} {r : List Oper} {d : Nat} {ty : TypeId} {pos : String} {aft : Array Edge} {grd : Option (Nat × Bool)} {t : TypeId} {x : Operand} {X : PV} {p p' : PV} (hw : wantedA ops.toList tm ⟨some d, .load t x, ty, pos, aft, grd⟩ = some true) (hn : Nat.blt d n = true) (hx : evalO E tm x = X) (h : aLoad E t X H = some p) (hv : IsV p p') (hk : okD E own n0 tm ⟨some d, .load t x, ty, pos, aft, grd⟩ H H = true) (hr : DrwQ E P own n ops n0 (i + 1) r K (setD tm (some d) p') H) : DrwQ E P own n ops n0 i (⟨some d, .load t x, ty, pos, aft, grd⟩ :: r) K tm H := .rLd hw hn hx h hv hk hr
theorem qLe {all r : List Oper} {d : Nat} {ty : TypeId} {pos : String} {aft : Array Edge} {grd : Option (Nat × Bool)} {t : TypeId} {x : Operand} {X : PV} {p p' : PV} (hw : wantedA all tm ⟨some d, .call { callee := .builtin .len, args := #[x], argTypes := #[t] }, ty, pos, aft, grd⟩ = some true) (hn : Nat.blt d n = true) (hx : evalO E tm x = X) (h : ∀ H, aLen E t X H = some p) (hv : IsV p p') (hr : RegQ E P own n all r K (setD tm (some d) p') H) : RegQ E P own n all (⟨some d, .call { callee := .builtin .len, args := #[x], argTypes := #[t] }, ty, pos, aft, grd⟩ :: r) K tm H := .rLe hw hn hx h hv hr
theorem qMk {all r : List Oper} {d : Nat} {ty : TypeId} {pos : String} {aft : Array Edge} {grd : Option (Nat × Bool)} {t : TypeId} {l c : Operand} {X Y : PV} {p : PV} {H1 : Heap} (hw : wantedA all tm ⟨some d, .makeSlice t l c, ty, pos, aft, grd⟩ = some true) (hn : Nat.blt d n = true) (ho : own d = true) (hx : evalO E tm l = X) (hy : evalO E tm c = Y) (h : aMakeSlice E t X Y H = some (p, H1)) (hr : RegQ E P own n all r K (setD tm (some d) p) H1) : RegQ E P own n all (⟨some d, .makeSlice t l c, ty, pos, aft, grd⟩ :: r) K tm H := .rMk hw hn ho hx hy h hr
theorem qAp {all r : List Oper} {d : Nat} {ty : TypeId} {pos : String} {aft : Array Edge} {grd : Option (Nat × Bool)} {t u : TypeId} {x y : Operand} {X Y : PV} {p : PV} {H1 : Heap} (hw : wantedA all tm ⟨some d, .call { callee := .builtin .append, args := #[x, y], argTypes := #[t, u] }, ty, pos, aft, grd⟩ = some true) (hn : Nat.blt d n = true) (ho : own d = false) (hx : evalO E tm x = X) (hy : evalO E tm y = Y) (h : aAppend E t u X Y H = some (p, H1)) (hr : RegQ E P own n all r K (setD tm (some d) p) H1) : RegQ E P own n all (⟨some d, .call { callee := .builtin .append, args := #[x, y], argTypes := #[t, u] }, ty, pos, aft, grd⟩ :: r) K tm H := .rAp hw hn ho hx hy h hr
theorem dAp {ops : Array Oper} {n0 i : Nat} {r : List Oper} {d : Nat} {ty : TypeId} {pos : String} {aft : Array Edge} {grd : Option (Nat × Bool)} {t u : TypeId} {x y : Operand} {X Y : PV} {p : PV} {H1 : Heap} (hw : wantedA ops.toList tm ⟨some d, .call { callee := .builtin .append, args := #[x, y], argTypes := #[t, u] }, ty, pos, aft, grd⟩ = some true) (hn : Nat.blt d n = true) (ho : own d = false) (hx : evalO E tm x = X) (hy : evalO E tm y = Y) (h : aAppend E t u X Y H = some (p, H1)) (hk : okD E own n0 tm ⟨some d, .call { callee := .builtin .append, args := #[x, y], argTypes := #[t, u] }, ty, pos, aft, grd⟩ H H1 = true) (hr : DrwQ E P own n ops n0 (i + 1) r K (setD tm (some d) p) H1) : DrwQ E P own n ops n0 i (⟨some d, .call { callee := .builtin .append, args := #[x, y], argTypes := #[t, u] }, ty, pos, aft, grd⟩ :: r) K tm H := .rAp hw hn ho hx hy h hk hr
theorem qCl {all r : List Oper} {d : Nat} {ty : TypeId} {pos : String} {aft : Array Edge} {grd : Option (Nat × Bool)} {p : PV} {f : Operand} {args : Array Operand} {ats : Array TypeId} {k : FuncId} {caps al : List PV} {H1 : Heap} (hw : wantedA all tm ⟨some d, .call { callee := .value f, args := args, argTypes := ats }, ty, pos, aft, grd⟩ = some true) (hn : Nat.blt d n = true) (hf : evalO E tm f = .fn k caps) (ha : args.toList.map (evalO E tm) ++ caps = al) (h : CallOk E P k al H p H1) (hr : RegQ E P own n all r K (setD tm (some d) p) H1) : RegQ E P own n all (⟨some d, .call { callee := .value f, args := args, argTypes := ats }, ty, pos, aft, grd⟩ :: r) K tm H := .rCall hw hn hf ha h (.any _) hr
theorem dCl {ops : Array Oper} {n0 i : Nat} {r : List Oper} {d : Nat} {ty : TypeId} {pos : String} {aft : Array Edge} {grd : Option (Nat × Bool)} {p : PV} {f : Operand} {args : Array Operand} {ats : Array TypeId} {k : FuncId} {caps al : List PV} (hw : wantedA ops.toList tm ⟨some d, .call { callee := .value f, args := args, argTypes := ats }, ty, pos, aft, grd⟩ = some true) (hn : Nat.blt d n = true) (hf : evalO E tm f = .fn k caps) (ha : args.toList.map (evalO E tm) ++ caps = al) (hc : clsO E own ⟨some d, .call { callee := .value f, args := args, argTypes := ats }, ty, pos, aft, grd⟩ = .qu) (h : CallOk E P k al H p H) (hr : DrwQ E P own n ops n0 (i + 1) r K (setD tm (some d) p) H) : DrwQ E P own n ops n0 i (⟨some d, .call { callee := .value f, args := args, argTypes := ats }, ty, pos, aft, grd⟩ :: r) K tm H := .rCall hw hn hf ha hc h (.any _) hr
theorem dAq {ops : Array Oper} {n0 i : Nat} {r : List Oper} {d : Nat} {ty : TypeId} {pos : String} {aft : Array Edge} {grd : Option (Nat × Bool)} {t u : TypeId} {x y : Operand} {X Y p : PV} {bx : List Box} {ro nt nt' : Nat} {lv lv' : List Nat} (hw : wantedA ops.toList tm ⟨some d, .call { callee := .builtin .append, args := #[x, y], argTypes := #[t, u] }, ty, pos, aft, grd⟩ = some true) (hn : Nat.blt d n = true) (ho : own d = false) (ht : own (d + 5000) = true) (hx : evalO E tm x = X) (hy : evalO E tm y = Y) (h : ∀ ro, aAppend E t u X Y ⟨bx, ro, lv, nt⟩ = some (p, ⟨bx, ro, lv', nt'⟩)) (hr : DrwQ E P own n ops n0 (i + 1) r K (setD tm (some d) p) ⟨bx, ro, lv', nt'⟩) : DrwQ E P own n ops n0 i (⟨some d, .call { callee := .builtin .append, args := #[x, y], argTypes := #[t, u] }, ty, pos, aft, grd⟩ :: r) K tm ⟨bx, ro, lv, nt⟩ := .rApT hw hn ho ht hx hy h hr
theorem qBs {all r : List Oper} {d : Nat} {ty : TypeId} {pos : String} {aft : Array Edge} {grd : Option (Nat × Bool)} {t : TypeId} {m : Nat} {ps : Array (Nat × Operand)} {es : Nat} {el el' : List (List PV)} (hw : wantedA all tm ⟨some d, .buildSlice t m ps, ty, pos, aft, grd⟩ = some true) (hn : Nat.blt d n = true) (ho : own d = false) (h : aBuildSlice E t m (ps.toList.map fun p => (p.1, evalO E tm p.2)) = some (es, el)) (hl : IsLL el el') (hf : frzLL el' = some el') (hr : RegQ E P own n all r K (setD tm (some d) (.sl .full es el')) H) : RegQ E P own n all (⟨some d, .buildSlice t m ps, ty, pos, aft, grd⟩ :: r) K tm H := .rBs hw hn ho h hl hf hr
theorem dBs {ops : Array Oper} {n0 i : Nat} {r : List Oper} {d : Nat} {ty : TypeId} {pos : String} {aft : Array Edge} {grd : Option (Nat × Bool)} {t : TypeId} {m : Nat} {ps : Array (Nat × Operand)} {es : Nat} {el el' : List (List PV)} (hw : wantedA ops.toList tm ⟨some d, .buildSlice t m ps, ty, pos, aft, grd⟩ = some true) (hn : Nat.blt d n = true) (ho : own d = false) (h : aBuildSlice E t m (ps.toList.map fun p => (p.1, evalO E tm p.2)) = some (es, el)) (hl : IsLL el el') (hf : frzLL el' = some el') (hk : okD E own n0 tm ⟨some d, .buildSlice t m ps, ty, pos, aft, grd⟩ H H = true) (hr : DrwQ E P own n ops n0 (i + 1) r K (setD tm (some d) (.sl .full es el')) H) : DrwQ E P own n ops n0 i (⟨some d, .buildSlice t m ps, ty, pos, aft, grd⟩ :: r) K tm H := .rBs hw hn ho h hl hf hk hr
theorem rFin {fn : Func} {r : PV} {ps ps' : List PV} (h1 : resA E tm H fn.results.toList = some ps) (hp : IsL ps ps') (h2 : frz3 0 H (one ps') = some r) : RetQ E fn r .ret tm H := .fin h1 hp h2
theorem mFin {fn : Func} {m : Nat} {r : PV} {ps ps' : List PV} (h1 : resA E tm H fn.results.toList = some ps) (hp : IsL ps ps') (h2 : frz3 m H (one ps') = some r) : RetM E fn m r .ret tm H := .fin h1 hp h2
theorem rInt {fn : Func} {r : PV} {ps : List PV} {k : IntKind} {m : Int} (h1 : resA E tm H fn.results.toList = some ps) (h2 : frz3 0 H (one ps) = some (.int k m)) (he : .int k m = r) : RetQ E fn r .ret tm H := .end h1 h2 (.int _ _) he
theorem rBool {fn : Func} {r : PV} {ps : List PV} {b : Bool} (h1 : resA E tm H fn.results.toList = some ps) (h2 : frz3 0 H (one ps) = some (.bool b)) (he : .bool b = r) : RetQ E fn r .ret tm H := .end h1 h2 (.bool _) he
end
end Go.Vm
namespace Go.Vm
theorem IsV.n {p p' : PV} (h : IsV p p' := by first | exact Go.Vm.IsV.int _ _ | exact Go.Vm.IsV.str _ | exact Go.Vm.IsV.slV _ _ _ | exact Go.Vm.IsV.nils | exact Go.Vm.IsV.sl _ _ _ | exact Go.Vm.IsV.ptrN | exact Go.Vm.IsV.aggN | exact Go.Vm.IsV.tupN | exact Go.Vm.IsV.fptr _ _ | exact Go.Vm.IsV.own _ _ _ _ | exact Go.Vm.IsV.fn _ _ | exact Go.Vm.IsV.nilp | exact Go.Vm.IsV.nilm | exact Go.Vm.IsV.map _ | exact Go.Vm.IsV.nilf | exact Go.Vm.IsV.any _) : IsV p p' := h
section
variable {E : Env} {P : Program} {own : Tmp → Bool} {n : Nat} {Q : Ex → TM → Heap → Prop} {K : TM → Heap → Prop} {tm : TM} {H : Heap}
theorem g0 {all r : List Oper} {d : Nat} {OP : Op} {ty : TypeId} {pos : String} {aft : Array Edge} {grd : Option (Nat × Bool)} {p p' : PV} (hw : wantedA all tm ⟨some d, OP, ty, pos, aft, grd⟩ = some true) (hn : Nat.blt d n = true) (h : aOp E (own d) (evalO E tm) OP H = some (p, H)) (hv : IsV p p')
  (hr : RegQ E P own n all r K (setD tm (some d) p') H) : RegQ E P own n all (⟨some d, OP, ty, pos, aft, grd⟩ :: r) K tm H := .rOp hw hn h hv hr
theorem g1 {all r : List Oper} {d : Nat} {OP : Op} {ty : TypeId} {pos : String} {aft : Array Edge} {grd : Option (Nat × Bool)} {p p' : PV} {H1 H1' : Heap} (hw : wantedA all tm ⟨some d, OP, ty, pos, aft, grd⟩ = some true) (hn : Nat.blt d n = true) (h : aOp E (own d) (evalO E tm) OP H = some (p, H1)) (hv : IsV p p') (hh : IsH H1 H1')
  (hr : RegQ E P own n all r K (setD tm (some d) p') H1') : RegQ E P own n all (⟨some d, OP, ty, pos, aft, grd⟩ :: r) K tm H := .rOpH hw hn h hv hh hr
theorem h0 {ops : Array Oper} {n0 i : Nat} {r : List Oper} {d : Nat} {OP : Op} {ty : TypeId} {pos : String} {aft : Array Edge} {grd : Option (Nat × Bool)} {p p' : PV} (hw : wantedA ops.toList tm ⟨some d, OP, ty, pos, aft, grd⟩ = some true) (hn : Nat.blt d n = true) (h : aOp E (own d) (evalO E tm) OP H = some (p, H)) (hv : IsV p p')
  (hk : okD E own n0 tm ⟨some d, OP, ty, pos, aft, grd⟩ H H = true) (hr : DrwQ E P own n ops n0 (i + 1) r K (setD tm (some d) p') H) : DrwQ E P own n ops n0 i (⟨some d, OP, ty, pos, aft, grd⟩ :: r) K tm H := .rOp hw hn h hv hk hr
theorem h1 {ops : Array Oper} {n0 i : Nat} {r : List Oper} {d : Nat} {OP : Op} {ty : TypeId} {pos : String} {aft : Array Edge} {grd : Option (Nat × Bool)} {p p' : PV} {H1 H1' : Heap} (hw : wantedA ops.toList tm ⟨some d, OP, ty, pos, aft, grd⟩ = some true) (hn : Nat.blt d n = true) (h : aOp E (own d) (evalO E tm) OP H = some (p, H1)) (hv : IsV p p') (hh : IsH H1 H1')
  (hk : okD E own n0 tm ⟨some d, OP, ty, pos, aft, grd⟩ H H1 = true) (hr : DrwQ E P own n ops n0 (i + 1) r K (setD tm (some d) p') H1') : DrwQ E P own n ops n0 i (⟨some d, OP, ty, pos, aft, grd⟩ :: r) K tm H := .rOpH hw hn h hv hh hk hr
theorem under_slV (n : Nat) (b : Bool) (es : Nat) (el : List (List PV)) : under n (slV b es el) = true := by
 unfold slV
 cases el with
 | nil => cases b <;> rfl
 | cons c r => rfl
def dropR (n0 : Nat) (Q : Ex → TM → Heap → Prop) (ex : Ex) (tm : TM) (H : Heap) : Prop :=
 Q ex tm H ∨ ∃ tm2, (∀ t, tm2 t = .undef ∨ (tm2 t = tm t ∧ under n0 (tm t) = true)) ∧ (H.bx.take n0).all (boxU n0) = true ∧ Q ex tm2 { H with bx := H.bx.take n0 }
structure DropQ (n0 : Nat) (Q : Ex → TM → Heap → Prop) (ex : Ex) (tm : TM) (H : Heap) : Prop where
 out : dropR n0 Q ex tm H
theorem Wp.drop {c : Code} (h : Wp E P own n c (DropQ H.bx.length Q) tm H) : Wp E P own n c Q tm H := by
 obtain ⟨ex, tm', H', h1, ⟨h2⟩⟩ := h.out
 rcases h2 with h2 | ⟨tm2, a, b, h3⟩
 · exact ⟨ex, tm', H', h1, h2⟩
 · exact ⟨ex, tm2, _, .drop _ _ _ _ _ _ _ h1 a b, h3⟩
theorem DropQ.ret {n0 : Nat} (h : Q .ret tm H) : DropQ n0 Q .ret tm H := ⟨.inl h⟩
theorem DropQ.exit {n0 i : Nat} (h : Q (.exit i) tm H) : DropQ n0 Q (.exit i) tm H := ⟨.inl h⟩
theorem ovr_undef {l : List (Nat × PV)} : okL tm l → (l.all fun x => under n x.2) = true → ∀ t, ovr (fun _ => .undef) l t = .undef ∨ (ovr (fun _ => .undef) l t = tm t ∧ under n (tm t) = true) := by
 induction l with
 | nil => intro _ _ t; exact .inl rfl
 | cons x r ih =>
   obtain ⟨d, v⟩ := x
   intro h hu t
   simp only [List.all_cons, Bool.and_eq_true] at hu
   simp only [ovr, setD]
   split
   · rename_i e
     subst e
     exact .inr ⟨h.1.symm, by rw [h.1]; exact hu.1⟩
   · exact ih h.2 hu.2 t
theorem DropQ.go {n0 : Nat} {ex : Ex} (l : List (Nat × PV)) {bx bx' : List Box} {ro nt : Nat} {lv : List Nat} (hl : okL tm l) (hu : (l.all fun x => under n0 x.2) = true) (hb : bx.take n0 = bx') (hbu : bx'.all (boxU n0) = true)
  (h : Q ex (ovr (fun _ => .undef) l) ⟨bx', ro, lv, nt⟩) : DropQ n0 Q ex tm ⟨bx, ro, lv, nt⟩ := by
 subst hb
 exact ⟨.inr ⟨_, ovr_undef hl hu, hbu, h⟩⟩
theorem dSt {ops : Array Oper} {n0 i : Nat} {r : List Oper} {t : TypeId} {a v : Operand} {ty : TypeId} {pos : String} {aft : Array Edge} {grd : Option (Nat × Bool)} {ti : TI} {cs cs' : List PV} {H1 H1' : Heap} {id es ix off : Nat} (hw : wantedA ops.toList tm ⟨none, .store t a v, ty, pos, aft, grd⟩ = some true) (ht : E.T t = some ti)
  (ha : evalO E tm a = .ptr id es ix off) (hcs : (evalO E tm v).cells = cs) (hn : IsL cs cs') (hl : (Nat.beq cs'.length ti.size && Nat.blt 0 ti.size) = true) (hc : cs'.all cellOk = true) (hwr : H.wr (.ptr id es ix off) cs' = some H1) (hh : IsH H1 H1')
  (hb : (nth H1'.bx id).isSome = true) (hf : own (30000 + i) = Nat.ble n0 id) (hq : (match own 29999 with | false => true | true => Nat.beq id (tgB own i)) = true) (hr : DrwQ E P own n ops n0 (i + 1) r K tm H1') : DrwQ E P own n ops n0 i (⟨none, .store t a v, ty, pos, aft, grd⟩ :: r) K tm H := by
 have e := hn.eq
 subst e
 subst hcs
 have e2 := hh.eq
 subst e2
 simp only [Bool.and_eq_true] at hl
 have h1 := Nat.eq_of_beq_eq_true hl.1
 have h2 : 0 < ti.size := Nat.le_of_ble_eq_true hl.2
 obtain ⟨b, hb⟩ := Option.isSome_iff_exists.1 hb
 exact .opS hw ht ha ⟨h1, h2, hc⟩ hwr hb hf (fun e => by rw [e] at hq; exact Nat.eq_of_beq_eq_true hq) hr
theorem dCs {ops : Array Oper} {n0 i : Nat} {r : List Oper} {d : Nat} {ty : TypeId} {pos : String} {aft : Array Edge} {grd : Option (Nat × Bool)} {p : PV} {f : Operand} {args : Array Operand} {ats : Array TypeId} {k : FuncId} {caps al : List PV} {H1 : Heap} {id : Nat} {b : Box} (hw : wantedA ops.toList tm ⟨some d, .call { callee := .value f, args := args, argTypes := ats }, ty, pos, aft, grd⟩ = some true) (hn : Nat.blt d n = true) (hf : evalO E tm f = .fn k caps)
  (ha : args.toList.map (evalO E tm) ++ caps = al) (hc : clsO E own ⟨some d, .call { callee := .value f, args := args, argTypes := ats }, ty, pos, aft, grd⟩ = .st) (h : StoreC E P k al H p id b) (hh : IsH (setB H id b) H1)
  (hl : own (30000 + i) = Nat.ble n0 id) (hq : (match own 29999 with | false => true | true => Nat.beq id (tgB own i)) = true)
  (hr : DrwQ E P own n ops n0 (i + 1) r K (setD tm (some d) p) H1) : DrwQ E P own n ops n0 i (⟨some d, .call { callee := .value f, args := args, argTypes := ats }, ty, pos, aft, grd⟩ :: r) K tm H := by
 have e := hh.eq
 subst e
 exact .callS hw (dstOk_of rfl hn) rfl hf ha hc h hl (fun e => by rw [e] at hq; exact Nat.eq_of_beq_eq_true hq) hr
theorem dApO {ops : Array Oper} {n0 i : Nat} {r : List Oper} {d : Nat} {ty : TypeId} {pos : String} {aft : Array Edge} {grd : Option (Nat × Bool)} {t u : TypeId} {x y : Operand} {X Y : PV} {p : PV} {H1 : Heap} (hw : wantedA ops.toList tm ⟨some d, .call { callee := .builtin .append, args := #[x, y], argTypes := #[t, u] }, ty, pos, aft, grd⟩ = some true) (hn : Nat.blt d n = true)
  (ho : own d = true) (ho2 : own (d + 5000) = false) (hx : evalO E tm x = X) (hy : evalO E tm y = Y) (h : aAppendOwn E t u X Y H = some (p, H1)) (hl : H.bx.length ≤ H1.bx.length)
  (hr : DrwQ E P own n ops n0 (i + 1) r K (setD tm (some d) p) H1) : DrwQ E P own n ops n0 i (⟨some d, .call { callee := .builtin .append, args := #[x, y], argTypes := #[t, u] }, ty, pos, aft, grd⟩ :: r) K tm H := by
 refine .op (p := p) hw (by simp only [dstOk, hn]) ?_ ?_ hr
 · simp [aOp, aBuiltin, ho, hx, hy, h]
 · simp only [okD, clsO, Option.getD_some, ho2]
   exact Nat.ble_eq_true_of_le hl
theorem qCv {all r : List Oper} {d : Nat} {ty : TypeId} {pos : String} {aft : Array Edge} {grd : Option (Nat × Bool)} {t u : TypeId} {x : Operand} {X : PV} {p p' : PV} (hw : wantedA all tm ⟨some d, .convert t u x, ty, pos, aft, grd⟩ = some true) (hn : Nat.blt d n = true) (hx : evalO E tm x = X) (h : aConv E t u X = some p) (hv : IsV p p')
  (hr : RegQ E P own n all r K (setD tm (some d) p') H) : RegQ E P own n all (⟨some d, .convert t u x, ty, pos, aft, grd⟩ :: r) K tm H := .run hw rfl hn (p := p) (by simp only [aOp, hx, h, Option.map_some]) hv hr
theorem dCv {ops : Array Oper} {n0 i : Nat} {r : List Oper} {d : Nat} {ty : TypeId} {pos : String} {aft : Array Edge} {grd : Option (Nat × Bool)} {t u : TypeId} {x : Operand} {X : PV} {p p' : PV} (hw : wantedA ops.toList tm ⟨some d, .convert t u x, ty, pos, aft, grd⟩ = some true) (hn : Nat.blt d n = true) (hx : evalO E tm x = X) (h : aConv E t u X = some p) (hv : IsV p p')
  (hk : okD E own n0 tm ⟨some d, .convert t u x, ty, pos, aft, grd⟩ H H = true) (hr : DrwQ E P own n ops n0 (i + 1) r K (setD tm (some d) p') H) : DrwQ E P own n ops n0 i (⟨some d, .convert t u x, ty, pos, aft, grd⟩ :: r) K tm H := .run hw rfl hn (p := p) (by simp only [aOp, hx, h, Option.map_some]) hv hk hr
theorem IsV.ptrM {a b c d a' b' c' d' : Nat} (h1 : a = a' := by first | exact (rfl : (_ : Nat) = 0) | exact (rfl : (_ : Nat) = 1) | exact (rfl : (_ : Nat) = 2) | exact (rfl : (_ : Nat) = 3) | exact (rfl : (_ : Nat) = 4) | exact (rfl : (_ : Nat) = 5) | exact (rfl : (_ : Nat) = 6) | exact (rfl : (_ : Nat) = 7) | exact (rfl : (_ : Nat) = 8) | exact (rfl : (_ : Nat) = 9) | exact (rfl : (_ : Nat) = 10) | exact (rfl : (_ : Nat) = 11) | exact (rfl : (_ : Nat) = 12) | exact (rfl : (_ : Nat) = 13) | exact (rfl : (_ : Nat) = 14) | exact (rfl : (_ : Nat) = 15) | exact (rfl : (_ : Nat) = 16) | exact (rfl : (_ : Nat) = 17) | exact (rfl : (_ : Nat) = 18) | exact (rfl : (_ : Nat) = 19) | exact (rfl : (_ : Nat) = 20) | exact (rfl : (_ : Nat) = 21) | exact (rfl : (_ : Nat) = 22) | exact (rfl : (_ : Nat) = 23) | exact (rfl : (_ : Nat) = 24) | exact (rfl : (_ : Nat) = 25) | exact (rfl : (_ : Nat) = 26) | exact (rfl : (_ : Nat) = 27) | exact (rfl : (_ : Nat) = 28) | exact (rfl : (_ : Nat) = 29) | exact (rfl : (_ : Nat) = 30) | exact (rfl : (_ : Nat) = 31) | exact (rfl : (_ : Nat) = 32) | exact (rfl : (_ : Nat) = 33) | exact (rfl : (_ : Nat) = 34) | exact (rfl : (_ : Nat) = 35) | exact (rfl : (_ : Nat) = 36) | exact (rfl : (_ : Nat) = 37) | exact (rfl : (_ : Nat) = 38) | exact (rfl : (_ : Nat) = 39) | exact (rfl : (_ : Nat) = 40) | exact (rfl : (_ : Nat) = 41) | exact (rfl : (_ : Nat) = 42) | exact (rfl : (_ : Nat) = 43) | exact (rfl : (_ : Nat) = 44) | exact (rfl : (_ : Nat) = 45) | exact (rfl : (_ : Nat) = 46) | exact (rfl : (_ : Nat) = 47) | exact rfl)
  (h2 : b = b' := by first | exact (rfl : (_ : Nat) = 1) | exact (rfl : (_ : Nat) = 2) | exact (rfl : (_ : Nat) = 3) | exact (rfl : (_ : Nat) = 4) | exact (rfl : (_ : Nat) = 5) | exact (rfl : (_ : Nat) = 6) | exact (rfl : (_ : Nat) = 7) | exact (rfl : (_ : Nat) = 8) | exact rfl)
  (h3 : c = c' := by exact rfl) (h4 : d = d' := by exact rfl) : IsV (.ptr a b c d) (.ptr a' b' c' d') := .ptr4 h1 h2 h3 h4
theorem dAl {ops : Array Oper} {n0 i : Nat} {r : List Oper} {d : Nat} {e : TypeId} {ty : TypeId} {pos : String} {aft : Array Edge} {grd : Option (Nat × Bool)} {ei : TI} {H1 : Heap} {p : PV} (hw : wantedA ops.toList tm ⟨some d, .alloc e, ty, pos, aft, grd⟩ = some true) (hn : Nat.blt d n = true)
  (he : E.T e = some ei) (hz : (Nat.beq ei.zero.cells.length ei.size && Nat.blt 0 ei.size) = true) (hv : IsV (.ptr (n0 + i) ei.size 0 0) p) (hs : IsH (setB H (n0 + i) (.cells ei.size [ei.zero.cells])) H1)
  (hr : DrwQ E P own n ops n0 (i + 1) r K (setD tm (some d) p) H1) : DrwQ E P own n ops n0 i (⟨some d, .alloc e, ty, pos, aft, grd⟩ :: r) K tm H := by
 have e1 := hv.eq
 subst e1
 exact .al hw hn he hz hs.eq hr
theorem dWA {id : Nat} {ops : Array Oper} {H0 : Heap} (hE : TOk E P) (hm : P.follows .mixedOrders = true) (hs : (statG E own ops && !(alL E own ops.toList 0).isEmpty) = true) (hro : H.ro = 0) (hH : IsH (extH H ops.size) H0)
  (h : DrwQ E P own n ops H.bx.length 0 ops.toList (Q .normal) tm H0) : Wp E P own n (.region id ops true) Q tm H := by
 simp only [Bool.and_eq_true, Bool.not_eq_true'] at hs
 have hr : roomL E own ops = ops.size := by
  unfold roomL
  cases e : alL E own ops.toList 0 with
  | nil => rw [e] at hs; simp at hs
  | cons a l => rfl
 have e := hH.eq
 subst e
 exact .drawA hE hm hs.1 hro (by rw [hr]) h
end
end Go.Vm
namespace Go.Vm
mutual
def Tm.budget : Tm → Int → Int
 | .mk _ nm _ _ kids, n => if n ≤ 0 ∨ 40 < nm.length then -1 else budgetL kids (n - 1)
def budgetL : List Tm → Int → Int
 | [], n => n
 | t :: r, n => if t.budget n < 0 then -1 else budgetL r (t.budget n)
end
mutual
theorem Tm.budget_eq : ∀ (t : Tm) (n : Int), 0 ≤ t.budget n → t.budget n = n - (t.size : Int)
 | .mk k nm s b kids, n, h => by
   simp only [Tm.budget] at h ⊢
   split at h
   · omega
   · rename_i hc
     rw [if_neg hc, budgetL_eq kids (n - 1) (by omega) h]
     simp only [Tm.size]
     omega
theorem budgetL_eq : ∀ (l : List Tm) (n : Int), 0 ≤ n → 0 ≤ budgetL l n → budgetL l n = n - (sizeL l : Int)
 | [], n, _, _ => by simp [budgetL, sizeL]
 | t :: r, n, hn, h => by
   simp only [budgetL] at h ⊢
   split at h
   · omega
   · rename_i hc
     rw [if_neg hc]
     have h1 := Tm.budget_eq t n (by omega)
     rw [budgetL_eq r _ (by omega) h, h1]
     simp only [sizeL]
     omega
end
def fewL : List Tm → Int → Bool
 | [], _ => true
 | t :: r, n => if t.budget n < 0 then false else fewL r (t.budget n)
def fewF (l : List Tm) (n most : Int) : Bool := if n < (l.length : Int) then false else fewL l most
def Tm.zero : Tm := .mk 0 [] 0 true []
def isF (kind : Int) (nm w : List UInt8) : Bool := decide (kind = 3) && (nm == w)
theorem drop_cons {α : Type} {l : List α} {i : Nat} {t : α} (h : l[i]? = some t) : l.drop i = t :: l.drop (i + 1) := by
 have hl : i < l.length := by
  rcases Nat.lt_or_ge i l.length with h' | h'
  · exact h'
  · rw [List.getElem?_eq_none h'] at h; cases h
 rw [List.drop_eq_getElem_cons hl]
 rw [List.getElem?_eq_getElem hl] at h
 simp only [Option.some.injEq] at h
 rw [h]
theorem bytesLess_irrefl : ∀ a : List UInt8, Op.bytesLess a a = false
 | [] => rfl
 | x :: r => by simp [Op.bytesLess, bytesLess_irrefl r]
theorem Tm.ok_zero : Tm.zero.Ok := .mk (by decide) (by decide) (Nat.zero_le _) (Nat.zero_le _) (fun t h => absurd h (by simp))
theorem Tm.Ok.kid {k : Int} {nm : List UInt8} {s : Int} {b : Bool} {kids : List Tm} (h : (Tm.mk k nm s b kids).Ok) {t : Tm} (ht : t ∈ kids) : t.Ok := by
 cases h with | mk _ _ _ _ h => exact h t ht
theorem size_pos (t : Tm) : 0 < t.size := by
 cases t
 simp only [Tm.size]
 omega
theorem few_size {t : Tm} {n most : Int} (h : fewF [t] n most = true) : (t.size : Int) ≤ most := by
 simp only [fewF] at h
 split at h
 · cases h
 · simp only [fewL] at h
   split at h
   · cases h
   · rename_i hb
     have := t.budget_eq most (by omega)
     omega
end Go.Vm
namespace Go.Vm
def ltrI (c : Int) : Bool := (decide (97 ≤ c) && decide (c ≤ 122)) || (decide (65 ≤ c) && decide (c ≤ 90))
def digI (c : Int) : Bool := decide (48 ≤ c) && decide (c ≤ 57)
def partI (c : Int) : Bool := ltrI c || (digI c || (decide (c = 95) || decide (c = 35)))
def partB (c : UInt8) : Bool := partI (Int.ofNat c.toNat)
def nameF (s : List UInt8) : Bool := match s with
 | [] => false
 | c :: _ => decide (s.length ≤ 24) && (ltrI (Int.ofNat c.toNat) && s.all partB)
def nodeF (k : Int) (nm : List UInt8) (s : Int) (n : Nat) : Int :=
 if ¬ (k = 1 ∨ k = 2 ∨ k = 3) ∨ s < 0 ∨ 5 < s ∨ (k = 3 ∧ s ≠ 0) ∨ (k ≠ 3 ∧ 0 < n) then 1 else if nameF nm = false then 2 else if 8 < n then 3 else 0
mutual
def Tm.nodes : Tm → Int
 | .mk k nm s _ kids => if nodeF k nm s kids.length ≠ 0 then nodeF k nm s kids.length else nodesL kids
def nodesL : List Tm → Int
 | [] => 0
 | t :: r => if t.nodes ≠ 0 then t.nodes else nodesL r
end
mutual
def Tm.depth : Tm → Nat
 | .mk _ _ _ _ kids => depthL kids + 1
def depthL : List Tm → Nat
 | [] => 0
 | t :: r => max t.depth (depthL r)
end
def Tm.valid (t : Tm) : Int := if t.nodes ≠ 0 then t.nodes else if 400 < t.size ∨ 40 < t.depth then 3 else 0
mutual
def Tm.check : Tm → Int → Int → Int → Int × Int × Int
 | .mk k nm s _ kids, lvl, n, d => if nodeF k nm s kids.length ≠ 0 then (nodeF k nm s kids.length, n + 1, if d < lvl then lvl else d) else checkL kids (lvl + 1) (n + 1) (if d < lvl then lvl else d)
def checkL : List Tm → Int → Int → Int → Int × Int × Int
 | [], _, n, d => (0, n, d)
 | t :: r, lvl, n, d => if (t.check lvl n d).1 ≠ 0 then t.check lvl n d else checkL r lvl (t.check lvl n d).2.1 (t.check lvl n d).2.2
end
mutual
theorem Tm.check_eq : ∀ (t : Tm) (lvl n d : Int), (t.check lvl n d).1 = t.nodes ∧ (t.nodes = 0 → 0 ≤ lvl → (t.check lvl n d).2 = (n + (t.size : Int), max d (lvl + (t.depth : Int) - 1)))
 | .mk k nm s b kids, lvl, n, d => by
   simp only [Tm.check, Tm.nodes, Tm.size, Tm.depth]
   split
   · rename_i h
     exact ⟨rfl, fun h' => absurd h' h⟩
   · obtain ⟨h1, h2⟩ := checkL_eq kids (lvl + 1) (n + 1) (if d < lvl then lvl else d)
     refine ⟨h1, fun h3 h4 => ?_⟩
     rw [h2 h3 (by omega)]
     refine Prod.ext_iff.2 ⟨?_, ?_⟩
     · simp; omega
     · simp only []
       split
       · split <;> omega
       · split <;> omega
theorem checkL_eq : ∀ (l : List Tm) (lvl n d : Int), (checkL l lvl n d).1 = nodesL l ∧ (nodesL l = 0 → 0 ≤ lvl → (checkL l lvl n d).2 = (n + (sizeL l : Int), if depthL l = 0 then d else max d (lvl + (depthL l : Int) - 1)))
 | [], lvl, n, d => by simp [checkL, nodesL, sizeL, depthL]
 | t :: r, lvl, n, d => by
   obtain ⟨h1, h2⟩ := Tm.check_eq t lvl n d
   have hD : depthL (t :: r) = max t.depth (depthL r) := by simp only [depthL]
   simp only [checkL, nodesL, sizeL, h1]
   generalize depthL (t :: r) = D at hD ⊢
   split
   · rename_i h
     exact ⟨h1, fun h' => absurd h' h⟩
   · rename_i h
     have h0 : t.nodes = 0 := by simpa using h
     obtain ⟨h3, h4⟩ := checkL_eq r lvl (t.check lvl n d).2.1 (t.check lvl n d).2.2
     refine ⟨h3, fun h5 h6 => ?_⟩
     rw [h4 h5 h6, h2 h0 h6]
     have hp : 1 ≤ t.depth := by cases t; simp [Tm.depth]
     refine Prod.ext_iff.2 ⟨?_, ?_⟩
     · simp; omega
     · simp only []
       split <;> split <;> omega
end
theorem Tm.valid_check (t : Tm) : t.valid = (if (t.check 1 0 0).1 ≠ 0 then (t.check 1 0 0).1 else if 400 < (t.check 1 0 0).2.1 ∨ 40 < (t.check 1 0 0).2.2 then 3 else 0) := by
 obtain ⟨h1, h2⟩ := t.check_eq 1 0 0
 rw [h1]
 unfold Tm.valid
 split
 · rfl
 · rename_i h
   rw [h2 (by simpa using h) (by omega)]
   congr 1
   apply propext
   simp only []
   omega
mutual
theorem Tm.depth_le : ∀ t : Tm, t.depth ≤ t.size
 | .mk _ _ _ _ kids => by have := depthL_le kids; simp only [Tm.depth, Tm.size]; omega
theorem depthL_le : ∀ l : List Tm, depthL l ≤ sizeL l
 | [] => by simp [depthL]
 | t :: r => by have := t.depth_le; have := depthL_le r; simp only [depthL, sizeL]; omega
end
theorem depthL_take {l : List Tm} : ∀ {i : Nat} {t : Tm}, l[i]? = some t → depthL (l.take (i + 1)) = max (depthL (l.take i)) t.depth := by
 induction l with
 | nil => intro i t h; simp at h
 | cons a r ih =>
   intro i t h
   cases i with
   | zero => simp at h; subst h; simp [depthL]
   | succ i => simp at h; simp only [List.take_succ_cons, depthL, ih h]; omega
mutual
theorem Tm.check_range : ∀ (t : Tm) (lvl n d : Int), n ≤ (t.check lvl n d).2.1 ∧ (t.check lvl n d).2.1 ≤ n + (t.size : Int) ∧ d ≤ (t.check lvl n d).2.2 ∧ (t.check lvl n d).2.2 ≤ max d (lvl + (t.size : Int))
 | .mk k nm s b kids, lvl, n, d => by
   simp only [Tm.check, Tm.size]
   split
   · simp only []
     split <;> omega
   · have := checkL_range kids (lvl + 1) (n + 1) (if d < lvl then lvl else d)
     split at this <;> split <;> omega
theorem checkL_range : ∀ (l : List Tm) (lvl n d : Int), n ≤ (checkL l lvl n d).2.1 ∧ (checkL l lvl n d).2.1 ≤ n + (sizeL l : Int) ∧ d ≤ (checkL l lvl n d).2.2 ∧ (checkL l lvl n d).2.2 ≤ max d (lvl + (sizeL l : Int))
 | [], lvl, n, d => by simp [checkL, sizeL]; omega
 | t :: r, lvl, n, d => by
   have h1 := t.check_range lvl n d
   simp only [checkL, sizeL]
   split
   · omega
   · have h2 := checkL_range r lvl (t.check lvl n d).2.1 (t.check lvl n d).2.2
     omega
end
structure Sym where
 name : List UInt8
 least : Int
 most : Int
 kind : Int
def Sym.cells (s : Sym) : List PV := [.str s.name, .int .i64 s.least, .int .i64 s.most, .int .i64 s.kind]
def Sym.zero : Sym := ⟨[], 0, 0, 0⟩
def syms : List Sym := [
 ⟨[112, 97, 105, 114], 2, 2, 1⟩, ⟨[101, 110, 99], 2, 2, 1⟩, ⟨[97, 101, 110, 99], 2, 2, 1⟩, ⟨[112, 107], 1, 1, 1⟩, ⟨[115, 105, 103, 110], 2, 2, 1⟩, ⟨[104, 97, 115, 104], 1, 1, 1⟩,
 ⟨[120, 111, 114], 2, 8, 1⟩, ⟨[122, 101, 114, 111], 0, 0, 1⟩, ⟨[101, 120, 112], 2, 2, 1⟩, ⟨[109, 117, 108], 2, 8, 1⟩, ⟨[105, 110, 118], 1, 1, 1⟩, ⟨[111, 110, 101], 0, 0, 1⟩,
 ⟨[115, 107], 1, 1, 2⟩, ⟨[115, 104, 107], 2, 2, 2⟩, ⟨[110, 101, 119], 1, 8, 2⟩,
 ⟨[102, 115, 116], 1, 1, 3⟩, ⟨[115, 110, 100], 1, 1, 3⟩, ⟨[100, 101, 99], 2, 2, 3⟩, ⟨[97, 100, 101, 99], 2, 2, 3⟩, ⟨[111, 112, 101, 110], 2, 2, 3⟩, ⟨[114, 101, 97, 100], 1, 1, 3⟩]
def symC (l : List Sym) : List (List PV) := l.map Sym.cells
theorem symC_len (l : List Sym) : (symC l).length = l.length := by simp [symC]
theorem symC_get {l : List Sym} {i : Nat} {s : Sym} (h : l[i]? = some s) : (symC l)[i]? = some s.cells := by simp [symC, h]
def findS (nm : List UInt8) : List Sym → Option Sym
 | [] => none
 | s :: r => if (s.name == nm) = true then some s else findS nm r
def symF (nm : List UInt8) : Sym := (findS nm syms).getD .zero
def privF (nm : List UInt8) (kids : List Tm) : Bool := if nm = [110, 101, 119] then (match kids with | .mk k _ _ _ _ :: _ => decide (k = 2) | [] => false) else kids.all fun t => match t with | .mk k _ s _ _ => !(decide (k = 3)) && decide (s = 1)
mutual
def Tm.th : Tm → Int
 | .mk k nm _ _ kids => if k ≠ 3 then 0 else if (symF nm).kind = 0 then 10 else if (kids.length : Int) < (symF nm).least ∨ (symF nm).most < (kids.length : Int) then 6 else if (symF nm).kind = 2 ∧ privF nm kids = false then 10 else thL kids
def thL : List Tm → Int
 | [] => 0
 | t :: r => if t.th ≠ 0 then t.th else thL r
end
theorem findS_mem {nm : List UInt8} : ∀ {l : List Sym} {s : Sym}, findS nm l = some s → s ∈ l ∧ s.name = nm
 | a :: r, s, h => by
   simp only [findS] at h
   split at h
   · rename_i e
     cases h
     exact ⟨List.mem_cons_self, by simpa using e⟩
   · obtain ⟨h1, h2⟩ := findS_mem h
     exact ⟨List.mem_cons_of_mem _ h1, h2⟩
theorem symF_case (nm : List UInt8) : symF nm = .zero ∨ (symF nm ∈ syms ∧ (symF nm).name = nm) := by
 unfold symF
 cases h : findS nm syms with
 | none => exact .inl rfl
 | some s => exact .inr (findS_mem h)
theorem symF_priv {nm : List UInt8} : (symF nm).kind = 2 ↔ nm = [115, 107] ∨ nm = [115, 104, 107] ∨ nm = [110, 101, 119] := by
 constructor
 · intro h
   rcases symF_case nm with e | ⟨e1, e2⟩
   · rw [e] at h; simp [Sym.zero] at h
   · rw [← e2]
     revert h
     generalize symF nm = s at e1
     simp only [syms, List.mem_cons, List.not_mem_nil, or_false] at e1
     rcases e1 with rfl | rfl | rfl | rfl | rfl | rfl | rfl | rfl | rfl | rfl | rfl | rfl | rfl | rfl | rfl | rfl | rfl | rfl | rfl | rfl | rfl <;> simp
 · rintro (rfl | rfl | rfl) <;> rfl
def algB (nm : List UInt8) : Bool := (nm == [120, 111, 114]) || (nm == [122, 101, 114, 111]) || (nm == [101, 120, 112]) || (nm == [109, 117, 108]) || (nm == [105, 110, 118]) || (nm == [111, 110, 101])
def fNmB (nm : List UInt8) : Bool := !(algB nm) && decide ((symF nm).kind ≠ 3)
mutual
def Tm.fre : Tm → Bool
 | .mk k nm _ _ kids => (if k = 3 then fNmB nm else true) && freL kids
def freL : List Tm → Bool
 | [] => true
 | t :: r => t.fre && freL r
end
end Go.Vm
namespace Go.Vm
section
variable {E : Env} {P : Program}
theorem live_app {bx ext : List Box} {ro nt : Nat} {lv : List Nat} {i : Nat} (h : i < bx.length) : (⟨bx ++ ext, ro, lv, nt⟩ : Heap).liveAt i ↔ (⟨bx, ro, lv, nt⟩ : Heap).liveAt i := by
 simp only [Heap.liveAt, List.getElem?_append_left h]
theorem live_ext {bx bx' ext : List Box} {ro ro' nt nt' : Nat} {lv lv' : List Nat} {i : Nat} (hl : bx'.length = bx.length) (h : bx.length ≤ i) : (⟨bx' ++ ext, ro', lv', nt'⟩ : Heap).liveAt i ↔ (⟨bx ++ ext, ro, lv, nt⟩ : Heap).liveAt i := by
 simp only [Heap.liveAt, List.getElem?_append_right h, List.getElem?_append_right (show bx'.length ≤ i by omega), hl]
def Gh.glue (g' g : Gh) (n : Nat) : Gh := { g' with σ := fun i => if i < n then g'.σ i else g.σ i, κ := fun i => if i < n then g'.κ i else g.κ i }
theorem CallOk.ext {f : FuncId} {args : List PV} {r : PV} {bx bx' ext : List Box} {ro nt nt' : Nat} {lv lv' : List Nat} (h : CallOk E P f args ⟨bx, ro, lv, nt⟩ r ⟨bx', ro, lv', nt'⟩) (hl : bx'.length = bx.length)
  (hu : underL bx.length args = true) (hb : bx.all (boxU bx.length) = true) (hro : ro ≤ bx.length) : CallOk E P f args ⟨bx ++ ext, ro, lv, nt⟩ r ⟨bx' ++ ext, ro, lv', nt'⟩ := by
 intro g w vals hi hg hv
 have htake : (bx ++ ext).take bx.length = bx := by simp
 have hic := inv_cut (n := bx.length) hi (by simp) hro (by simpa [htake] using hb)
 simp only [htake] at hic
 have hvc : VL (g.cutσ bx.length) args vals.toList := ⟨hv.1, fun i h1 h2 => (hv.2 i h1 h2).cut (underL_get hu i h1)⟩
 refine UponCall.mono (fun v w' ⟨g', hp, hi', k⟩ => ?_) (h (g.cutσ bx.length) w vals hic hg hvc)
 have hsd : ∀ i, bx.length ≤ i → g'.σ i = none := fun i hi0 => hi'.sd i (by simpa [hl] using hi0)
 have s1 : ∀ i, i < bx.length → (g'.glue g bx.length).σ i = g'.σ i := fun i h => by simp [Gh.glue, h]
 have s2 : ∀ i, bx.length ≤ i → (g'.glue g bx.length).σ i = g.σ i := fun i h => by simp [Gh.glue, Nat.not_lt.2 h]
 have le1 : g'.Le (g'.glue g bx.length) := ⟨fun _ _ _ h => h, fun i b h => (by
  by_cases e : i < bx.length
  · rw [s1 i e]; exact h
  · rw [hsd i (by omega)] at h; cases h), fun _ _ h => h, fun i b h => (by
  by_cases e : i < bx.length
  · simp [Gh.glue, e]
  · rw [hsd i (by omega)] at h; cases h), rfl⟩
 have le2 : g.Le (g'.glue g bx.length) := ⟨fun b o v h => k.le.S b o v h, fun i b h => (by
  by_cases e : i < bx.length
  · rw [s1 i e]; exact k.le.σ i b (by rw [cutσ_lt e]; exact h)
  · rw [s2 i (by omega)]; exact h), fun t x h => k.le.τ t x h, fun i b h => (by
  by_cases e : i < bx.length
  · simp only [Gh.glue, e, if_true]
    exact k.le.κ i b (by rw [cutσ_lt e]; exact h)
  · simp [Gh.glue, e]), k.le.mono⟩
 have cutlive : ∀ {i}, (⟨bx, ro, lv, nt⟩ : Heap).liveAt i → i < bx.length ∧ (⟨bx ++ ext, ro, lv, nt⟩ : Heap).liveAt i := fun {i} h => by
  obtain ⟨b, hb, ha⟩ := h
  have := get_lt hb
  exact ⟨this, (live_app this).2 ⟨b, hb, ha⟩⟩
 have shutE : ∀ j b, bx.length ≤ j → (⟨bx ++ ext, ro, lv, nt⟩ : Heap).liveAt j → g.σ j = some b → Shut (g.cutσ bx.length) ⟨bx, ro, lv, nt⟩ b := fun j b hj hlj hs =>
  ⟨fun id _ hlid he => by
    obtain ⟨h1, h2⟩ := cutσ_some he
    have := hi.inj id j b (cutlive hlid).2 hlj h2 hs
    omega, fun t lo hi2 ht he => (hi.tk t b lo hi2 ht he).2.2 j hlj hs⟩
 have heapE : ∀ j b, bx.length ≤ j → (⟨bx ++ ext, ro, lv, nt⟩ : Heap).liveAt j → g.σ j = some b → w'.heap[b]? = w.heap[b]? ∧ ∀ o, g'.S b o = g.S b o := fun j b hj hlj hs =>
  ⟨k.heap b (hi.sz j b hs) (shutE j b hj hlj hs), k.store b (hi.sz j b hs) (shutE j b hj hlj hs)⟩
 have notnew : ∀ i j b, i < bx.length → (⟨bx', ro, lv', nt'⟩ : Heap).liveAt i → bx.length ≤ j → (⟨bx ++ ext, ro, lv, nt⟩ : Heap).liveAt j → g'.σ i = some b → g.σ j = some b → False := fun i j b hi1 hli hj hlj h1 h2 => by
  cases e : (g.cutσ bx.length).σ i with
  | some b0 =>
    have := k.le.σ _ _ e
    rw [h1] at this
    cases this
    have hl0 := k.al i b e hli
    have := hi.inj i j b (cutlive hl0).2 hlj (cutσ_some e).2 h2
    omega
  | none =>
    rcases k.new i b e h1 with h3 | ⟨id', _, h4, h5⟩
    · have := hi.sz j b h2; omega
    · have h6 := hi.inj id' j b (cutlive h4).2 hlj (cutσ_some h5).2 h2
      have := (cutσ_some h5).1
      omega
 have getl : ∀ i, i < bx.length → (bx' ++ ext)[i]? = bx'[i]? := fun i h => List.getElem?_append_left (by omega)
 have getr : ∀ i, bx.length ≤ i → (bx' ++ ext)[i]? = (bx ++ ext)[i]? := fun i h => by
  rw [List.getElem?_append_right (by omega), List.getElem?_append_right h, hl]
 have liveSplit : ∀ i, (⟨bx' ++ ext, ro, lv', nt'⟩ : Heap).liveAt i → (i < bx.length ∧ (⟨bx', ro, lv', nt'⟩ : Heap).liveAt i) ∨ (bx.length ≤ i ∧ (⟨bx ++ ext, ro, lv, nt⟩ : Heap).liveAt i) := fun i h => by
  by_cases e : i < bx.length
  · exact .inl ⟨e, (live_app (by omega)).1 h⟩
  · exact .inr ⟨by omega, (live_ext hl (by omega)).1 h⟩
 refine ⟨g'.glue g bx.length, hp.mono le1, ⟨hi'.st, fun id es el h => ?_, fun id es h => ?_, fun id T cs h => ?_, fun i j b h1 h2 h3 h4 => ?_, fun id h => ?_, hi'.td, fun t b lo hi2 ht hτ => ?_, hi'.tinj, hi'.nd, hi'.lt, fun id b h => ?_, ?_, fun id b c T m h1 h2 h3 => ?_⟩,
  ⟨le2, fun b hb hs => k.heap b hb ?_, fun b hb hs => k.store b hb ?_, k.size, fun id b h h' => ?_, fun t b lo hi2 h h' => k.tnew t b lo hi2 h h', rfl, by simp [hl], fun id h => ?_, k.nt, k.lv, fun id b h h' => ?_, fun id h h' => ?_, k.so⟩⟩
 · by_cases e : id < bx.length
   · obtain ⟨b, c, T, h1, h2, h3, h4, h5, h6⟩ := hi'.bx id es el (by rw [← getl id e]; exact h)
     exact ⟨b, c, T, by rw [s1 id e]; exact h1, h2, h3, h4, fun i hi0 j hj => let ⟨v, a, x⟩ := h5 i hi0 j hj; ⟨v, a, x.mono le1⟩, h6⟩
   · have hg0 : (bx ++ ext)[id]? = some (.cells es el) := by rw [← getr id (by omega)]; exact h
     obtain ⟨b, c, T, h1, h2, h3, h4, h5, h6⟩ := hi.bx id es el hg0
     obtain ⟨hh, hS⟩ := heapE id b (by omega) ⟨_, hg0, trivial⟩ h1
     exact ⟨b, c, T, by rw [s2 id (by omega)]; exact h1, by rw [hh]; exact h2, h3, h4, fun i hi0 j hj => let ⟨v, a, x⟩ := h5 i hi0 j hj; ⟨v, a, x.mono le2⟩, fun o => (hS o).trans (h6 o)⟩
 · by_cases e : id < bx.length
   · obtain ⟨b, c, T, h1, h2, h3, h4, h5⟩ := hi'.mp id es (by rw [← getl id e]; exact h)
     exact ⟨b, c, T, by rw [s1 id e]; exact h1, h2, h3, fun i hi0 => let ⟨a, z, x, y⟩ := h4 i hi0; ⟨a, z, x.mono le1, y.mono le1⟩, h5⟩
   · have hg0 : (bx ++ ext)[id]? = some (.map es) := by rw [← getr id (by omega)]; exact h
     obtain ⟨b, c, T, h1, h2, h3, h4, h5⟩ := hi.mp id es hg0
     obtain ⟨hh, hS⟩ := heapE id b (by omega) ⟨_, hg0, trivial⟩ h1
     exact ⟨b, c, T, by rw [s2 id (by omega)]; exact h1, by rw [hh]; exact h2, h3, fun i hi0 => let ⟨a, z, x, y⟩ := h4 i hi0; ⟨a, z, x.mono le2, y.mono le2⟩, fun o => (hS o).trans (h5 o)⟩
 · by_cases e : id < bx.length
   · obtain ⟨b, c, h1, h2, h3, h4, h5⟩ := hi'.sp id T cs (by rw [← getl id e]; exact h)
     exact ⟨b, c, by rw [s1 id e]; exact h1, h2, h3, fun j hj => let ⟨v, a, x⟩ := h4 j hj; ⟨v, a, x.mono le1⟩, h5⟩
   · have hg0 : (bx ++ ext)[id]? = some (.sp T cs) := by rw [← getr id (by omega)]; exact h
     obtain ⟨b, c, h1, h2, h3, h4, h5⟩ := hi.sp id T cs hg0
     obtain ⟨hh, hS⟩ := heapE id b (by omega) ⟨_, hg0, trivial⟩ h1
     exact ⟨b, c, by rw [s2 id (by omega)]; exact h1, by rw [hh]; exact h2, h3, fun j hj => let ⟨v, a, x⟩ := h4 j hj; ⟨v, a, x.mono le2⟩, fun o => (hS o).trans (h5 o)⟩
 · rcases liveSplit i h1 with ⟨a1, a2⟩ | ⟨a1, a2⟩ <;> rcases liveSplit j h2 with ⟨b1, b2⟩ | ⟨b1, b2⟩
   · rw [s1 i a1] at h3; rw [s1 j b1] at h4; exact hi'.inj i j b a2 b2 h3 h4
   · rw [s1 i a1] at h3; rw [s2 j b1] at h4; exact (notnew i j b a1 a2 b1 b2 h3 h4).elim
   · rw [s2 i a1] at h3; rw [s1 j b1] at h4; exact (notnew j i b b1 b2 a1 a2 h4 h3).elim
   · rw [s2 i a1] at h3; rw [s2 j b1] at h4; exact hi.inj i j b a2 b2 h3 h4
 · have h : bx.length + ext.length ≤ id := by simpa [hl] using h
   rw [s2 id (by omega)]
   exact hi.sd id (by simpa using h)
 · obtain ⟨h3, h5, h6⟩ := hi'.tk t b lo hi2 ht hτ
   refine ⟨h3, h5, fun id hlid he => ?_⟩
   rcases liveSplit id hlid with ⟨a1, a2⟩ | ⟨a1, a2⟩
   · rw [s1 id a1] at he; exact h6 id a2 he
   · rw [s2 id a1] at he
     cases e : (g.cutσ bx.length).τ t with
     | some x =>
       have := k.le.τ _ _ e
       have hτ' : g'.τ t = some (b, lo, hi2) := hτ
       rw [hτ'] at this
       cases this
       rcases k.lv t ht with h7 | h7
       · exact (hi.tk t b lo hi2 h7 e).2.2 id a2 he
       · rw [show (g.cutσ bx.length).τ t = g.τ t from rfl, hi.td t h7] at e; cases e
     | none =>
       rcases k.tnew t b lo hi2 e hτ with h7 | ⟨t', lo', hi3, h8, h9⟩
       · have := hi.sz id b he; omega
       · exact (hi.tk t' b lo' hi3 h8 h9).2.2 id a2 he
 · by_cases e : id < bx.length
   · rw [s1 id e] at h; exact hi'.sz id b h
   · rw [s2 id (by omega)] at h; exact Nat.lt_of_lt_of_le (hi.sz id b h) k.size
 · simp [hl]; omega
 · rcases liveSplit id h1 with ⟨a1, a2⟩ | ⟨a1, a2⟩
   · rw [s1 id a1] at h2
     simp only [Gh.glue, a1, if_true]
     exact hi'.rm id b c T m a2 h2 h3
   · rw [s2 id a1] at h2
     simp only [Gh.glue, Nat.not_lt.2 a1, if_false]
     rw [(heapE id b a1 a2 h2).1] at h3
     exact hi.rm id b c T m a2 h2 h3
 · exact ⟨fun id hr hlid he => hs.1 id hr (cutlive hlid).2 (cutσ_some he).2, hs.2⟩
 · exact ⟨fun id hr hlid he => hs.1 id hr (cutlive hlid).2 (cutσ_some he).2, hs.2⟩
 · by_cases e : id < bx.length
   · rw [s1 id e] at h'
     exact (k.new id b (by rw [cutσ_lt e]; exact h) h').imp (fun h => h) fun ⟨id', a, b, c⟩ => ⟨id', a, (cutlive b).2, (cutσ_some c).2⟩
   · rw [s2 id (by omega), h] at h'; cases h'
 · have h : id < ro := h
   have hx := k.bx id h
   rw [getl id (by omega), List.getElem?_append_left (by omega)]
   exact hx
 · rcases liveSplit id h' with ⟨a1, a2⟩ | ⟨a1, a2⟩
   · exact (cutlive (k.al id b (by rw [cutσ_lt a1]; exact h) a2)).2
   · exact a2
 · by_cases e : id < bx.length
   · rw [s1 id e]; exact k.ns id e (by rw [cutσ_lt e]; exact h')
   · rw [s2 id (by omega)]; exact h'
structure RetE (E : Env) (fn : Func) (r : PV) (H' : Heap) (ex : Ex) (tm : TM) (H1 : Heap) : Prop where
 nx : ∀ i, ex ≠ .exit i
 res : ∃ ps, resA E tm H1 fn.results.toList = some ps ∧ one ps = r
 hp : H1 = H'
theorem callOk_wpE (hE : TOk E P) {own : Tmp → Bool} {f : FuncId} {fn : Func} {c : Code} (hf : FnOk P f fn c) {args : List PV} {r : PV} {H H' : Heap}
  (h : Wp E P own fn.ntmps c (RetE E fn r H') (tm0 args) H) : CallOk E P f args H r H' := by
 obtain ⟨ex, tm', H1, h1, h2⟩ := h.out
 obtain ⟨ps, h3, rfl⟩ := h2.res
 obtain rfl := h2.hp
 exact callOk_full (own := own) hE hf h1 h2.nx h3
structure DropF (n0 : Nat) (Q : Ex → TM → Heap → Prop) (ex : Ex) (tm : TM) (H : Heap) : Prop where
 out : DropQ n0 Q ex tm H
theorem callOk_wpD (hE : TOk E P) {own : Tmp → Bool} {f : FuncId} {fn : Func} {c : Code} (hf : FnOk P f fn c) {args : List PV} {r : PV} {H H' : Heap}
  (h : Wp E P own fn.ntmps c (DropF H.bx.length (RetE E fn r H')) (tm0 args) H) : CallOk E P f args H r H' := by
 refine callOk_wpE (own := own) hE hf (Wp.drop ?_)
 obtain ⟨ex, tm', H1, h1, h2⟩ := h.out
 exact ⟨ex, tm', H1, h1, h2.out⟩
theorem DropF.ret {n0 : Nat} {Q : Ex → TM → Heap → Prop} {ex : Ex} {tm : TM} (l : List (Nat × PV)) {bx bx' : List Box} {ro nt : Nat} {lv : List Nat} (hl : okL tm l) (hu : (l.all fun x => under n0 x.2) = true) (hb : bx.take n0 = bx') (hbu : bx'.all (boxU n0) = true)
  (h : Q ex (ovr (fun _ => .undef) l) ⟨bx', ro, lv, nt⟩) : DropF n0 Q ex tm ⟨bx, ro, lv, nt⟩ := ⟨DropQ.go l hl hu hb hbu h⟩
theorem RetE.ret {fn : Func} {r : PV} {H' H1 : Heap} {tm : TM} {ps : List PV} (h1 : resA E tm H1 fn.results.toList = some ps) (h2 : one ps = r) (h3 : H1 = H') : RetE E fn r H' .ret tm H1 := ⟨fun i h => (by cases h), ⟨ps, h1, h2⟩, h3⟩
theorem RetE.go {fn : Func} {r : PV} {H' H1 : Heap} {tm : TM} {ps : List PV} (h1 : resA E tm H1 fn.results.toList = some ps) (h2 : one ps = r) (h3 : H1 = H') : RetE E fn r H' .normal tm H1 := ⟨fun i h => (by cases h), ⟨ps, h1, h2⟩, h3⟩
structure RetP (E : Env) (fn : Func) (r : PV) (Pr : Heap → Prop) (ex : Ex) (tm : TM) (H1 : Heap) : Prop where
 nx : ∀ i, ex ≠ .exit i
 res : ∃ ps, resA E tm H1 fn.results.toList = some ps ∧ one ps = r
 hp : Pr H1
theorem callOk_wpP (hE : TOk E P) {own : Tmp → Bool} {f : FuncId} {fn : Func} {c : Code} (hf : FnOk P f fn c) {args : List PV} {r : PV} {H : Heap} {Pr : Heap → Prop}
  (h : Wp E P own fn.ntmps c (RetP E fn r Pr) (tm0 args) H) : ∃ H', CallOk E P f args H r H' ∧ Pr H' := by
 obtain ⟨ex, tm', H1, h1, h2⟩ := h.out
 obtain ⟨ps, h3, rfl⟩ := h2.res
 exact ⟨H1, callOk_full (own := own) hE hf h1 h2.nx h3, h2.hp⟩
theorem RetP.ret {fn : Func} {r : PV} {Pr : Heap → Prop} {H1 : Heap} {tm : TM} {ps : List PV} (h1 : resA E tm H1 fn.results.toList = some ps) (h2 : one ps = r) (h3 : Pr H1) : RetP E fn r Pr .ret tm H1 := ⟨fun i h => (by cases h), ⟨ps, h1, h2⟩, h3⟩
theorem RetP.go {fn : Func} {r : PV} {Pr : Heap → Prop} {H1 : Heap} {tm : TM} {ps : List PV} (h1 : resA E tm H1 fn.results.toList = some ps) (h2 : one ps = r) (h3 : Pr H1) : RetP E fn r Pr .normal tm H1 := ⟨fun i h => (by cases h), ⟨ps, h1, h2⟩, h3⟩
structure RetR (E : Env) (fn : Func) (Pr : PV → Heap → Prop) (ex : Ex) (tm : TM) (H1 : Heap) : Prop where
 nx : ∀ i, ex ≠ .exit i
 res : ∃ ps, resA E tm H1 fn.results.toList = some ps ∧ Pr (one ps) H1
theorem callOk_wpR (hE : TOk E P) {own : Tmp → Bool} {f : FuncId} {fn : Func} {c : Code} (hf : FnOk P f fn c) {args : List PV} {H : Heap} {Pr : PV → Heap → Prop}
  (h : Wp E P own fn.ntmps c (RetR E fn Pr) (tm0 args) H) : ∃ r H', CallOk E P f args H r H' ∧ Pr r H' := by
 obtain ⟨ex, tm', H1, h1, h2⟩ := h.out
 obtain ⟨ps, h3, h4⟩ := h2.res
 exact ⟨_, H1, callOk_full (own := own) hE hf h1 h2.nx h3, h4⟩
theorem RetR.ret {fn : Func} {Pr : PV → Heap → Prop} {H1 : Heap} {tm : TM} {ps : List PV} (h1 : resA E tm H1 fn.results.toList = some ps) (h3 : Pr (one ps) H1) : RetR E fn Pr .ret tm H1 := ⟨fun i h => (by cases h), ps, h1, h3⟩
theorem RetR.go {fn : Func} {Pr : PV → Heap → Prop} {H1 : Heap} {tm : TM} {ps : List PV} (h1 : resA E tm H1 fn.results.toList = some ps) (h3 : Pr (one ps) H1) : RetR E fn Pr .normal tm H1 := ⟨fun i h => (by cases h), ps, h1, h3⟩
theorem qClr {own : Tmp → Bool} {n : Nat} {K : TM → Heap → Prop} {tm : TM} {H : Heap} {all r : List Oper} {t : TypeId} {x : Operand} {X p : PV} {ty : TypeId} {pos : String} {aft : Array Edge} {grd : Option (Nat × Bool)} {H1 : Heap} (hw : wantedA all tm ⟨none, .call { callee := .builtin .clear, args := #[x], argTypes := #[t] }, ty, pos, aft, grd⟩ = some true)
  (hx : evalO E tm x = X) (h : aClear E t X H = some (p, H1)) (hr : RegQ E P own n all r K tm H1) : RegQ E P own n all (⟨none, .call { callee := .builtin .clear, args := #[x], argTypes := #[t] }, ty, pos, aft, grd⟩ :: r) K tm H :=
 .op (p := p) hw rfl (by simp [aOp, aBuiltin, hx, h]) hr
theorem clear_of {t e : TypeId} {ti ei : TI} {id es ix len : Nat} {el : List (List PV)} {H : Heap} (ht : E.T t = some ti) (hk : ti.tk = .slice e) (he : E.T e = some ei) (hz : ei.zero.cells.length = ei.size) (hes : ei.size = es) (hpos : 0 < es) (hzo : ei.zero.cells.all cellOk = true)
  (hb : nth H.bx id = some (.cells es el)) (hro : H.ro ≤ id) (hl : ix + len ≤ el.length) :
  aClear E t (.own id es ix len) H = some (.tup [], { H with bx := H.bx.set id (.cells es (el.take ix ++ (List.replicate len ei.zero.cells ++ el.drop (ix + len)))) }) := by
 simp only [aClear, ht, hk, he, hb]
 rw [if_pos ⟨trivial, hz, hes, hpos, hro, hl, hzo⟩]
theorem rd_of {H : Heap} {id es ix off n : Nat} {el : List (List PV)} {cs : List PV} (hb : nth H.bx id = some (.cells es el)) (he : nth el ix = some cs) (hl : off + n ≤ cs.length) : H.rd (.ptr id es ix off) n = some ((cs.drop off).take n) := by
 simp only [Heap.rd, hb, he, if_true, if_pos hl]
theorem wr_of {H : Heap} {id es ix off : Nat} {el : List (List PV)} {cs old : List PV} (hb : nth H.bx id = some (.cells es el)) (he : nth el ix = some old) (hl : off + cs.length ≤ old.length) (hro : H.ro ≤ id) :
  H.wr (.ptr id es ix off) cs = some { H with bx := H.bx.set id (.cells es (el.set ix (old.take off ++ (cs ++ old.drop (off + cs.length))))) } := by
 simp only [Heap.wr, hb, he, if_true, if_pos hl, Heap.put, if_neg (Nat.not_lt.2 hro)]
theorem ld_agg {t : TypeId} {ti : TI} {H : Heap} {id es ix : Nat} {el : List (List PV)} {cs : List PV} (ht : E.T t = some ti) (hk : isAggK ti.tk = true) (hb : nth H.bx id = some (.cells es el)) (he : nth el ix = some cs) (hl : cs.length = ti.size) :
  aLoad E t (.ptr id es ix 0) H = some (.agg cs) := by
 simp only [aLoad, ht, hk, if_true]
 rw [rd_of hb he (by omega)]
 simp only [toVal, hk, if_true]
 rw [List.drop_zero, ← hl, List.take_length]
theorem ld_one {t : TypeId} {ti : TI} {H : Heap} {id es ix off : Nat} {el : List (List PV)} {cs : List PV} {v : PV} (ht : E.T t = some ti) (hk : isAggK ti.tk = false) (hb : nth H.bx id = some (.cells es el)) (he : nth el ix = some cs) (hv : nth cs off = some v) :
  aLoad E t (.ptr id es ix off) H = some v := by
 simp only [aLoad, ht, hk]
 rw [nth_eq] at hv
 have hlt := get_lt hv
 have h1 : (cs.drop off).take 1 = [v] := by
  rw [List.drop_eq_getElem_cons hlt]
  simp [get_eq hv]
 simp only [Bool.false_eq_true, if_false]
 rw [rd_of hb he (by omega), h1]
 simp [toVal, hk]
theorem ia_own {t e : TypeId} {ti ei : TI} {id es ix len j : Nat} {k : IntKind} (ht : E.T t = some ti) (hk : ti.tk = .slice e) (he : E.T e = some ei) (hes : ei.size = es) (hj : j < len) : aIndexAddr E t (.own id es ix len) (.int k (j : Int)) = some (.ptr id es (ix + j) 0) := by
 have hn : nat? (.int k (j : Int)) = some j := by simp [nat?]
 simp only [aIndexAddr, ht, hn, hk, he, if_pos hes, if_pos hj]
end
end Go.Vm
namespace Go.Vm
def cmpI (a b : Int) : Int := if a < b then -1 else if b < a then 1 else 0
def cmpB (a b : List UInt8) : Int := if Op.bytesLess a b = true then -1 else if a = b then 0 else 1
def thn (a b : Int) : Int := if a ≠ 0 then a else b
mutual
def Tm.cmp : Tm → Tm → Int
 | .mk k nm s _ l, .mk k' nm' s' _ l' => thn (cmpI ((1 + sizeL l : Nat) : Int) ((1 + sizeL l' : Nat) : Int)) (thn (cmpI k k') (thn (cmpB nm nm') (thn (cmpI s s') (thn (cmpI (l.length : Int) (l'.length : Int)) (cmpL l l')))))
def cmpL : List Tm → List Tm → Int
 | [], _ => 0
 | a :: r, l' => match l' with
   | [] => 0
   | b :: r' => thn (a.cmp b) (cmpL r r')
end
structure CmpOn {α : Type} (S : α → Prop) (c : α → α → Int) : Prop where
 anti : ∀ a b, S a → S b → c b a = - c a b
 tr : ∀ a b d, S a → S b → S d → c a b ≤ 0 → c b d ≤ 0 → c a d ≤ 0
section
variable {α : Type} {S : α → Prop} {c : α → α → Int}
theorem CmpOn.strict1 (h : CmpOn S c) {a b d : α} (ha : S a) (hb : S b) (hd : S d) (h1 : c a b < 0) (h2 : c b d ≤ 0) : c a d < 0 := by
 have h3 := h.tr a b d ha hb hd (by omega) h2
 rcases Int.lt_or_eq_of_le h3 with h4 | h4
 · exact h4
 · exfalso
   have h5 := h.anti a d ha hd
   have h6 := h.tr b d a hb hd ha h2 (by omega)
   have h7 := h.anti a b ha hb
   omega
theorem CmpOn.strict2 (h : CmpOn S c) {a b d : α} (ha : S a) (hb : S b) (hd : S d) (h1 : c a b ≤ 0) (h2 : c b d < 0) : c a d < 0 := by
 have h3 := h.tr a b d ha hb hd h1 (by omega)
 rcases Int.lt_or_eq_of_le h3 with h4 | h4
 · exact h4
 · exfalso
   have h5 := h.anti a d ha hd
   have h6 := h.tr d a b hd ha hb (by omega) h1
   have h7 := h.anti b d hb hd
   omega
theorem CmpOn.then_le (h : CmpOn S c) {a b d : α} (ha : S a) (hb : S b) (hd : S d) {x y z : Int} (hz : x ≤ 0 → y ≤ 0 → z ≤ 0) (h1 : thn (c a b) x ≤ 0) (h2 : thn (c b d) y ≤ 0) : thn (c a d) z ≤ 0 := by
 unfold thn at *
 by_cases e1 : c a b = 0
 · rw [if_neg (by simpa using e1)] at h1
   by_cases e2 : c b d = 0
   · rw [if_neg (by simpa using e2)] at h2
     have h3 := h.tr a b d ha hb hd (by omega) (by omega)
     split
     · exact h3
     · exact hz h1 h2
   · rw [if_pos e2] at h2
     have := h.strict2 ha hb hd (by omega) (show c b d < 0 by omega)
     rw [if_pos (by omega)]; omega
 · rw [if_pos e1] at h1
   have h2' : c b d ≤ 0 := by
    by_cases e2 : c b d = 0
    · omega
    · rw [if_pos e2] at h2; exact h2
   have := h.strict1 ha hb hd (show c a b < 0 by omega) h2'
   rw [if_pos (by omega)]; omega
theorem thn_neg {a b a' b' : Int} (h : a' = - a) (h' : b' = - b) : thn a' b' = - thn a b := by
 subst h h'
 unfold thn
 by_cases e : a = 0
 · simp [e]
 · rw [if_pos e, if_pos (by omega)]
end
theorem cmpI_on : CmpOn (fun _ => True) cmpI := ⟨fun a b _ _ => by simp only [cmpI]; split <;> split <;> (try split) <;> omega, fun a b d _ _ _ => by simp only [cmpI]; split <;> split <;> (try split) <;> (try split) <;> (try split) <;> omega⟩
theorem bytesLess_asymm : ∀ a b : List UInt8, Op.bytesLess a b = true → Op.bytesLess b a = false
 | [], [] => by simp [Op.bytesLess]
 | [], _ :: _ => by simp [Op.bytesLess]
 | _ :: _, [] => by simp [Op.bytesLess]
 | x :: a, y :: b => by
   have ih := bytesLess_asymm a b
   simp only [Op.bytesLess]
   by_cases h1 : x < y
   · have h2 : ¬ y < x := by simp only [UInt8.lt_iff_toNat_lt] at *; omega
     have h3 : ¬ y = x := by intro e; subst e; simp only [UInt8.lt_iff_toNat_lt] at *; omega
     simp [h1, h2, h3]
   · by_cases h2 : x = y
     · subst h2; simpa using ih
     · simp [h1, h2]
theorem bytesLess_total : ∀ a b : List UInt8, Op.bytesLess a b = false → a ≠ b → Op.bytesLess b a = true
 | [], [] => by simp
 | [], _ :: _ => by simp [Op.bytesLess]
 | _ :: _, [] => by simp [Op.bytesLess]
 | x :: a, y :: b => by
   have ih := bytesLess_total a b
   simp only [Op.bytesLess]
   intro h hne
   by_cases h2 : x = y
   · subst h2
     simp at h hne ⊢
     exact ih h hne
   · have : ¬ x < y := by intro e; simp [e] at h
     have : y < x := by
      have h3 : x.toNat ≠ y.toNat := fun e => h2 (UInt8.toNat_inj.1 e)
      simp only [UInt8.lt_iff_toNat_lt] at *; omega
     simp [this]
theorem bytesLess_trans : ∀ a b c : List UInt8, Op.bytesLess a b = true → Op.bytesLess b c = true → Op.bytesLess a c = true
 | [], [], _ => by simp [Op.bytesLess]
 | [], _ :: _, [] => by simp [Op.bytesLess]
 | [], _ :: _, _ :: _ => by simp [Op.bytesLess]
 | _ :: _, [], _ => by simp [Op.bytesLess]
 | _ :: _, _ :: _, [] => by simp [Op.bytesLess]
 | x :: a, y :: b, z :: c => by
   have ih := bytesLess_trans a b c
   simp only [Op.bytesLess, Bool.or_eq_true, Bool.and_eq_true, decide_eq_true_eq, beq_iff_eq]
   rintro (h1 | ⟨rfl, h1⟩) (h2 | ⟨rfl, h2⟩)
   · left; simp only [UInt8.lt_iff_toNat_lt] at *; omega
   · exact .inl h1
   · exact .inl h2
   · exact .inr ⟨rfl, ih h1 h2⟩
theorem cmpB_on : CmpOn (fun _ => True) cmpB where
 anti a b _ _ := by
  simp only [cmpB]
  by_cases h1 : Op.bytesLess a b = true
  · have := bytesLess_asymm a b h1
    have hne : ¬ b = a := by intro e; subst e; rw [bytesLess_irrefl] at h1; cases h1
    simp [h1, this, hne]
  · simp only [Bool.not_eq_true] at h1
    by_cases e : a = b
    · subst e; simp [h1]
    · have := bytesLess_total a b h1 e
      simp [h1, e, this]
 tr a b d _ _ _ := by
  simp only [cmpB]
  intro h1 h2
  by_cases e1 : Op.bytesLess a b = true
  · by_cases e2 : Op.bytesLess b d = true
    · simp [bytesLess_trans a b d e1 e2]
    · by_cases e3 : b = d
      · subst e3; simp [e1]
      · simp [e2, e3] at h2
  · by_cases e3 : a = b
    · subst e3; exact h2
    · simp [e1, e3] at h1
theorem compareBytes_eq : ∀ a b : List UInt8, Lib.compareBytes a b = cmpB a b
 | [], [] => by simp [Lib.compareBytes, cmpB, Op.bytesLess]
 | [], _ :: _ => by simp [Lib.compareBytes, cmpB, Op.bytesLess]
 | _ :: _, [] => by simp [Lib.compareBytes, cmpB, Op.bytesLess]
 | x :: a, y :: b => by
   have ih := compareBytes_eq a b
   simp only [Lib.compareBytes, ih, cmpB, Op.bytesLess]
   by_cases h1 : x < y
   · simp [h1]
   · by_cases h2 : x = y
     · subst h2; simp [h1]
     · have : y < x := by
         have h3 : x.toNat ≠ y.toNat := fun e => h2 (UInt8.toNat_inj.1 e)
         simp only [UInt8.lt_iff_toNat_lt] at *; omega
       simp [h1, h2, this]
theorem cmpL_on {N : Nat} (h : CmpOn (fun t : Tm => t.size ≤ N) Tm.cmp) : ∀ m : Nat, CmpOn (fun l : List Tm => l.length = m ∧ ∀ t, t ∈ l → t.size ≤ N) cmpL
 | 0 => ⟨fun a b ha hb => by
     obtain rfl := List.length_eq_zero_iff.1 ha.1
     obtain rfl := List.length_eq_zero_iff.1 hb.1
     simp [cmpL], fun a b d ha _ _ _ _ => by
     obtain rfl := List.length_eq_zero_iff.1 ha.1
     simp [cmpL]⟩
 | m + 1 => by
   have ih := cmpL_on h m
   have split : ∀ l : List Tm, l.length = m + 1 ∧ (∀ t, t ∈ l → t.size ≤ N) → ∃ a r, l = a :: r ∧ a.size ≤ N ∧ r.length = m ∧ ∀ t, t ∈ r → t.size ≤ N := fun l hl => by
    cases l with
    | nil => simp at hl
    | cons a r => exact ⟨a, r, rfl, hl.2 a List.mem_cons_self, by simpa using hl.1, fun t ht => hl.2 t (List.mem_cons_of_mem _ ht)⟩
   refine ⟨fun x y hx hy => ?_, fun x y z hx hy hz h1 h2 => ?_⟩
   · obtain ⟨a, r, rfl, a1, a2⟩ := split x hx
     obtain ⟨b, s, rfl, b1, b2⟩ := split y hy
     simp only [cmpL]
     exact thn_neg (h.anti a b a1 b1) (ih.anti r s a2 b2)
   · obtain ⟨a, r, rfl, a1, a2⟩ := split x hx
     obtain ⟨b, s, rfl, b1, b2⟩ := split y hy
     obtain ⟨d, u, rfl, d1, d2⟩ := split z hz
     simp only [cmpL] at h1 h2 ⊢
     exact h.then_le a1 b1 d1 (ih.tr r s u a2 b2 d2) h1 h2
theorem cmpI_zero {a b : Int} (h : cmpI a b = 0) : a = b := by
 simp only [cmpI] at h
 split at h
 · omega
 · split at h <;> omega
theorem cmp_on : ∀ N : Nat, CmpOn (fun t : Tm => t.size ≤ N) Tm.cmp
 | 0 => ⟨fun a b ha _ => by have := size_pos a; omega, fun a b d ha _ _ _ _ => by have := size_pos a; omega⟩
 | N + 1 => by
   have hL := cmpL_on (cmp_on N)
   have kid : ∀ {k : Int} {nm : List UInt8} {s : Int} {b : Bool} {l : List Tm}, (Tm.mk k nm s b l).size ≤ N + 1 → ∀ t, t ∈ l → t.size ≤ N := fun h t ht => by
    simp only [Tm.size] at h
    have := size_le ht
    omega
   refine ⟨fun a b ha hb => ?_, fun a b d ha hb hd h1 h2 => ?_⟩
   · obtain ⟨k, nm, s, n, l⟩ := a
     obtain ⟨k', nm', s', n', l'⟩ := b
     simp only [Tm.cmp]
     refine thn_neg (cmpI_on.anti _ _ trivial trivial) (thn_neg (cmpI_on.anti _ _ trivial trivial) (thn_neg (cmpB_on.anti _ _ trivial trivial) (thn_neg (cmpI_on.anti _ _ trivial trivial) ?_)))
     by_cases e : l.length = l'.length
     · exact thn_neg (cmpI_on.anti _ _ trivial trivial) ((hL l.length).anti l l' ⟨rfl, kid ha⟩ ⟨e.symm, kid hb⟩)
     · have h1 := cmpI_on.anti (l.length : Int) (l'.length : Int) trivial trivial
       have h2 : cmpI (l.length : Int) (l'.length : Int) ≠ 0 := fun h => e (by have := cmpI_zero h; omega)
       unfold thn
       rw [if_pos h2, if_pos (by omega), h1]
   · obtain ⟨k, nm, s, n, l⟩ := a
     obtain ⟨k', nm', s', n', l'⟩ := b
     obtain ⟨k2, nm2, s2, n2, l2⟩ := d
     simp only [Tm.cmp] at h1 h2 ⊢
     refine cmpI_on.then_le trivial trivial trivial (fun h1 h2 => cmpI_on.then_le trivial trivial trivial (fun h1 h2 => cmpB_on.then_le trivial trivial trivial (fun h1 h2 => cmpI_on.then_le trivial trivial trivial (fun h1 h2 => ?_) h1 h2) h1 h2) h1 h2) h1 h2
     by_cases e1 : l.length = l'.length
     · by_cases e2 : l'.length = l2.length
       · exact cmpI_on.then_le trivial trivial trivial ((hL l.length).tr l l' l2 ⟨rfl, kid ha⟩ ⟨e1.symm, kid hb⟩ ⟨(e1.trans e2).symm, kid hd⟩) h1 h2
       · have h3 : cmpI (l'.length : Int) (l2.length : Int) ≠ 0 := fun h => e2 (by have := cmpI_zero h; omega)
         simp only [thn, if_pos h3] at h2
         rw [e1]
         simp only [thn, if_pos h3]
         exact h2
     · have h3 : cmpI (l.length : Int) (l'.length : Int) ≠ 0 := fun h => e1 (by have := cmpI_zero h; omega)
       simp only [thn, if_pos h3] at h1
       have h4 : cmpI (l'.length : Int) (l2.length : Int) ≤ 0 := by
        by_cases e : cmpI (l'.length : Int) (l2.length : Int) = 0
        · omega
        · simp only [thn, if_pos e] at h2; exact h2
       have := cmpI_on.strict1 (a := (l.length : Int)) trivial trivial trivial (by omega) h4
       simp only [thn]
       rw [if_pos (by omega)]; omega
end Go.Vm
namespace Go.Vm
mutual
def Tm.all : Tm → List Tm
 | .mk k nm s b kids => .mk k nm s b kids :: allL kids
def allL : List Tm → List Tm
 | [] => []
 | t :: r => t.all ++ allL r
end
def Tm.knd : Tm → Int
 | .mk k _ _ _ _ => k
theorem allL_snoc {l : List Tm} {i : Nat} {t : Tm} (h : l[i]? = some t) : allL (l.take (i + 1)) = allL (l.take i) ++ t.all := by
 induction l generalizing i with
 | nil => simp at h
 | cons a r ih =>
   cases i with
   | zero => simp at h; subst h; simp [allL]
   | succ i => simp at h; simp only [List.take_succ_cons, allL, ih h, List.append_assoc]
mutual
theorem Tm.all_len : ∀ t : Tm, t.all.length = t.size
 | .mk k nm s b kids => by have := allL_len kids; simp only [Tm.all, Tm.size, List.length_cons]; omega
theorem allL_len : ∀ l : List Tm, (allL l).length = sizeL l
 | [] => rfl
 | t :: r => by have := t.all_len; have := allL_len r; simp only [allL, sizeL, List.length_append]; omega
end
theorem all_ok {t : Tm} (ht : t.Ok) : ∀ x, x ∈ t.all → x.Ok ∧ x.size ≤ t.size := by
 induction ht with
 | @mk k nm s b kids hk hs hn hl hok ih =>
   have key : ∀ l : List Tm, (∀ t, t ∈ l → t ∈ kids) → ∀ x, x ∈ allL l → x.Ok ∧ x.size ≤ sizeL l := by
    intro l
    induction l with
    | nil => intro _ x hx; simp [allL] at hx
    | cons a r ih2 =>
      intro hl x hx
      simp only [allL, List.mem_append] at hx
      simp only [sizeL]
      rcases hx with hx | hx
      · have := ih a (hl a List.mem_cons_self) x hx
        exact ⟨this.1, by omega⟩
      · have := ih2 (fun t ht => hl t (List.mem_cons_of_mem _ ht)) x hx
        exact ⟨this.1, by omega⟩
   intro x hx
   simp only [Tm.all, List.mem_cons] at hx
   rcases hx with rfl | hx
   · exact ⟨.mk hk hs hn hl hok, Nat.le_refl _⟩
   · have := key kids (fun _ h => h) x hx
     simp only [Tm.size]
     exact ⟨this.1, by omega⟩
def kndL (k : Int) (l : List Tm) : List Tm := l.filter fun t => decide (t.knd = k)
theorem kndL_snoc {k : Int} {l : List Tm} {i : Nat} {t : Tm} (h : l[i]? = some t) : kndL k (l.take (i + 1)) = kndL k (l.take i) ++ if t.knd = k then [t] else [] := by
 simp only [kndL, List.take_add_one, h, Option.toList_some, List.filter_append]
 congr 1
 by_cases c : t.knd = k <;> simp [c]
theorem kndL_len (k : Int) (l : List Tm) : (kndL k l).length ≤ l.length := List.length_filter_le _ _
def addStep (t : Tm) (s : List Tm × Bool) (x : Tm) : List Tm × Bool :=
 if s.2 = false ∧ t.cmp x ≤ 0 then ((s.1 ++ if t.cmp x < 0 then [t] else []) ++ [x], true) else (s.1 ++ [x], s.2)
def addL (l : List Tm) (t : Tm) : List Tm := match l.foldl (addStep t) ([], false) with
 | (o, true) => o
 | (o, false) => o ++ [t]
def setL (l : List Tm) : List Tm := l.foldl addL []
theorem foldl_snoc {α β : Type} {f : β → α → β} {b : β} {l : List α} {i : Nat} {x : α} (h : l[i]? = some x) : (l.take (i + 1)).foldl f b = f ((l.take i).foldl f b) x := by
 simp [List.take_add_one, h, List.foldl_append]
def b01 : Bool → Nat
 | true => 0
 | false => 1
theorem addStep_len (t : Tm) (s : List Tm × Bool) (x : Tm) : (addStep t s x).1.length + b01 (addStep t s x).2 ≤ s.1.length + b01 s.2 + 1 := by
 unfold addStep
 split
 · rename_i h
   rw [h.1]
   split <;> simp [b01]
 · simp; omega
theorem addFold_len (t : Tm) : ∀ (l : List Tm) (s : List Tm × Bool), (l.foldl (addStep t) s).1.length + b01 (l.foldl (addStep t) s).2 ≤ s.1.length + b01 s.2 + l.length
 | [], s => by simp
 | x :: r, s => by
   have h1 := addFold_len t r (addStep t s x)
   have h2 := addStep_len t s x
   simp only [List.foldl_cons, List.length_cons]
   omega
theorem addL_len (l : List Tm) (t : Tm) : (addL l t).length ≤ l.length + 1 := by
 have := addFold_len t l ([], false)
 unfold addL
 generalize l.foldl (addStep t) ([], false) = s at this
 obtain ⟨o, d⟩ := s
 cases d <;> simp [b01] at * <;> omega
theorem addFold_mem (t : Tm) : ∀ (l : List Tm) (s : List Tm × Bool) (x : Tm), x ∈ (l.foldl (addStep t) s).1 → x ∈ s.1 ∨ x ∈ l ∨ x = t
 | [], s, x, h => .inl h
 | y :: r, s, x, h => by
   rcases addFold_mem t r (addStep t s y) x h with h1 | h1 | h1
   · unfold addStep at h1
     split at h1
     · split at h1
       · simp at h1; rcases h1 with h1 | h1 | h1
         · exact .inl h1
         · exact .inr (.inr h1)
         · exact .inr (.inl (by simp [h1]))
       · simp at h1; rcases h1 with h1 | h1
         · exact .inl h1
         · exact .inr (.inl (by simp [h1]))
     · simp at h1; rcases h1 with h1 | h1
       · exact .inl h1
       · exact .inr (.inl (by simp [h1]))
   · exact .inr (.inl (List.mem_cons_of_mem _ h1))
   · exact .inr (.inr h1)
theorem addL_mem {l : List Tm} {t x : Tm} (h : x ∈ addL l t) : x ∈ l ∨ x = t := by
 unfold addL at h
 have := addFold_mem t l ([], false) x
 generalize l.foldl (addStep t) ([], false) = s at this h
 obtain ⟨o, d⟩ := s
 cases d with
 | true => rcases this h with h | h | h <;> simp_all
 | false =>
   simp at h
   rcases h with h | h
   · rcases this h with h | h | h <;> simp_all
   · exact .inr h
theorem addFold_ne (t : Tm) : ∀ (l : List Tm) (s : List Tm × Bool), (s.1 ≠ [] ∨ s.2 = false) → ((l.foldl (addStep t) s).1 ≠ [] ∨ (l.foldl (addStep t) s).2 = false)
 | [], _, h => h
 | y :: r, s, _ => by
   refine addFold_ne t r (addStep t s y) (.inl ?_)
   unfold addStep
   split
   · split <;> simp
   · simp
theorem addL_ne (l : List Tm) (t : Tm) : addL l t ≠ [] := by
 unfold addL
 have := addFold_ne t l ([], false) (.inr rfl)
 generalize l.foldl (addStep t) ([], false) = s at this
 obtain ⟨o, d⟩ := s
 cases d with
 | true => simpa using this
 | false => simp
theorem setFold_len : ∀ (l o : List Tm), (l.foldl addL o).length ≤ o.length + l.length
 | [], o => by simp
 | x :: r, o => by
   have := setFold_len r (addL o x)
   have := addL_len o x
   simp only [List.foldl_cons, List.length_cons]
   omega
theorem setFold_mem : ∀ (l o : List Tm) (x : Tm), x ∈ l.foldl addL o → x ∈ o ∨ x ∈ l
 | [], o, x, h => .inl h
 | y :: r, o, x, h => by
   rcases setFold_mem r (addL o y) x h with h | h
   · rcases addL_mem h with h | h
     · exact .inl h
     · exact .inr (by simp [h])
   · exact .inr (List.mem_cons_of_mem _ h)
theorem setFold_ne : ∀ (l o : List Tm), o ≠ [] → l.foldl addL o ≠ []
 | [], _, h => h
 | x :: r, o, _ => setFold_ne r (addL o x) (addL_ne o x)
theorem setL_nil {l : List Tm} : setL l = [] ↔ l = [] := by
 cases l with
 | nil => simp [setL]
 | cons a r => simp only [setL, List.foldl_cons, reduceCtorEq, iff_false]; exact setFold_ne r _ (addL_ne [] a)
def Tm.ground (t : Tm) : Bool := (kndL 1 t.all).isEmpty
def Tm.fre1 : Tm → Bool
 | .mk k nm _ _ _ => if k = 3 then fNmB nm else true
mutual
theorem Tm.fre_all : ∀ t : Tm, t.fre = t.all.all Tm.fre1
 | .mk k nm s b kids => by have := freL_all kids; simp only [Tm.fre, Tm.all, List.all_cons, Tm.fre1, this]
theorem freL_all : ∀ l : List Tm, freL l = (allL l).all Tm.fre1
 | [] => rfl
 | t :: r => by have := t.fre_all; have := freL_all r; simp only [freL, allL, List.all_append, *]
end
def Tm.key (t : Tm) : Int := if t.valid ≠ 0 then t.valid else if t.th ≠ 0 then t.th else if t.ground = false then 13 else if t.fre = false then 10 else 0
mutual
def Tm.cl : Tm → Tm
 | .mk k nm s _ kids => .mk k nm s true (clL kids)
def clL : List Tm → List Tm
 | [] => []
 | t :: r => t.cl :: clL r
end
theorem clL_map (l : List Tm) : clL l = l.map Tm.cl := by
 induction l with
 | nil => rfl
 | cons a r ih => simp [clL, ih]
theorem cl_len (l : List Tm) : (clL l).length = l.length := by rw [clL_map, List.length_map]
theorem clL_snoc {l : List Tm} {i : Nat} {t : Tm} (h : l[i]? = some t) : clL (l.take (i + 1)) = clL (l.take i) ++ [t.cl] := by
 simp [clL_map, List.take_add_one, h]
end Go.Vm
