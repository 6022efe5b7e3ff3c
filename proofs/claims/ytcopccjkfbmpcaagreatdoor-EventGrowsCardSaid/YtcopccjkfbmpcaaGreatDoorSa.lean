/-
  What the environment has been given: the cast of agents a and b (closed facts fo
-/
import Derived.Test.YtcopccjkfbmpcaaGreatDoorQr
namespace Go.Vm
def bdL (x y:Bool):List Bs:=(if x=true then [[97]] else [])++(if y=true then [[98]] else [])
def csC (x y:Bool):List PV:=[slV true 1 (Zp [[97],[98]]),slV true 1 (Zp (bdL x y))]
def skA:Tm:= .mk 3 [115,107] 0 true [.mk 2 [97] 1 true []]
def skB:Tm:= .mk 3 [115,107] 0 true [.mk 2 [98] 1 true []]
def sAB:Tm:= .mk 3 [115,104,107] 0 true [.mk 2 [97] 1 true [],.mk 2 [98] 1 true []]
def sBA:Tm:= .mk 3 [115,104,107] 0 true [.mk 2 [98] 1 true [],.mk 2 [97] 1 true []]
def inT (x y:Bool):List Tm:=(if x=true then [skA] else [])++((if y=true then [skB] else [])++([.mk 3 [112,107] 0 true [skA],.mk 3 [112,107] 0 true [skB]]++(if (x||y)=true then [sAB,sBA] else [])))
def HdA (m:Mo):Prop:=m.kind=6→m.agents= [[97]]∨m.agents= [[98]]
theorem ZwN {l:List Mo} (h:(Zex [] l).2=0) {i:Nat} {m:Mo} (hx:l[i]? = some m):Vs (l.take i) m false false=0:=by
 have key:∀ (a p b:List Mo),(Zex p (a++b)).2=0→(Zex (p++a) b).2=0:=by
  intro a
  induction a with
  | nil=>intro p b h;rw [List.append_nil];exact h
  | cons q r ih =>
    intro p b h
    rw [List.cons_append,Zex] at h
    split at h
    · rename_i h1;exact absurd h h1
    split at h
    · rename_i h2;exact absurd h h2
    have:=ih (p++ [q]) b h
    rw [List.append_assoc] at this
    exact this
 rw [← List.take_append_drop i l] at h
 have h2:=key _ _ _ h
 rw [Zy hx,Zex] at h2
 split at h2
 · rename_i h1;exact absurd h2 h1
 split at h2
 · rename_i h3;exact absurd h2 h3
 · rename_i h3
   simpa using h3
def knZ (l:List Mo):List Tm:=XW (inT (Zez l [97]) (Zez l [98])++Yk l)
theorem ZwL (x y:Bool):inT x y≠ []:=by cases x<;>cases y<;>simp [inT]
theorem ZwI (x y:Bool):∀ t,t∈inT x y→t.Ok∧t.size≤3:=by
 have h1:∀ t,t∈ [skA,skB,sAB,sBA,.mk 3 [112,107] 0 true [skA],.mk 3 [112,107] 0 true [skB]]→t.Ok∧t.size≤3:=by
  intro t ht
  have hg:t.gr=true∧t.size≤3:=by
   simp only [List.mem_cons,List.not_mem_nil,or_false] at ht
   rcases ht with rfl|rfl|rfl|rfl|rfl|rfl<;>decide +kernel
  exact ⟨Zj3 t hg.1,hg.2⟩
 intro t ht
 refine h1 t ?_
 cases x<;>cases y<;>simp [inT] at ht ⊢ <;> (rcases ht with rfl|rfl|rfl|rfl|rfl|rfl)<;>simp
theorem ZwG (x y:Bool):(inT x y).length≤6:=by cases x<;>cases y<;>decide
end Go.Vm
namespace Go.Vm.Seat
open Go.Proofs
set_option maxRecDepth 100000
theorem ZwU:([true,false].all fun x=>[true,false].all fun y=>XY E0 300 100 ⟨22,[.agg (csC x y)],.int .i64 0⟩)=true:=by kernel_rfl
theorem ZwS:([true,false].all fun y=>XY E0 300 100 ⟨23,[.agg (csC false y),.str [97]],.tup [.agg (csC true y),.int .i64 0]⟩)=true:=by kernel_rfl
theorem ZwO:([true,false].all fun x=>XY E0 300 100 ⟨23,[.agg (csC x false),.str [98]],.tup [.agg (csC x true),.int .i64 0]⟩)=true:=by kernel_rfl
theorem ZwT:XY E0 300 100 ⟨24,[.agg (csC false false)],.tup [slV true 4 (Za (inT false false)),.int .i64 0]⟩=true:=by kernel_rfl
theorem ZwQ:XY E0 300 100 ⟨24,[.agg (csC true false)],.tup [slV true 4 (Za (inT true false)),.int .i64 0]⟩=true:=by kernel_rfl
theorem ZwP:XY E0 300 100 ⟨24,[.agg (csC false true)],.tup [slV true 4 (Za (inT false true)),.int .i64 0]⟩=true:=by kernel_rfl
theorem ZwR:XY E0 300 100 ⟨24,[.agg (csC true true)],.tup [slV true 4 (Za (inT true true)),.int .i64 0]⟩=true:=by kernel_rfl
