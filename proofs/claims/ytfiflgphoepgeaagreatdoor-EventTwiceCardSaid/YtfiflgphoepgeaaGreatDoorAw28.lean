/-
  The examples of the events come to true in every world.
-/
import Derived.Test.YtfiflgphoepgeaaGreatDoorAwOr
namespace Go.Vm.Seat
variable {l:List Fact}
open Go.Proofs
set_option maxRecDepth 100000
theorem Zrm:∀ (a b:List PV),Zgd a b=true→a=b
 | [],[],_=>rfl
 | a :: r, b :: s, h => by
   simp only [Zgd,Bool.and_eq_true] at h
   rw [ZlD a b h.1,Zrm r s h.2]
 | [],_::_,h=>by simp [Zgd] at h
 |_::_,[],h=>by simp [Zgd] at h
def ZgG:List Fact→FuncId→List PV→Option PV
 | [],_,_=>none
 | x :: l, f, args => match Nat.beq x.f f with
   | true => match Zgd x.args args with
     | true=>some x.r
     | false=>ZgG l f args
   | false=>ZgG l f args
theorem Zbr {f:FuncId} {args:List PV} {r:PV}:∀ {l:List Fact},ZgG l f args=some r→∃ x∈l,x.f=f∧x.args=args∧x.r=r
 | x :: l, h => by
   simp only [ZgG] at h
   split at h
   · rename_i h1
     split at h
     · rename_i h2
       cases h
       exact ⟨x,List.mem_cons_self,Nat.eq_of_beq_eq_true h1,Zrm _ _ h2,rfl⟩
     · obtain ⟨y,hy,e⟩:=Zbr h;exact ⟨y,List.mem_cons_of_mem _ hy,e⟩
   · obtain ⟨y,hy,e⟩:=Zbr h;exact ⟨y,List.mem_cons_of_mem _ hy,e⟩
noncomputable def UJ (l:List Fact):Env:=
 { E0 with
   F:=fun f=>match l.any (fun x=>Nat.beq x.f f) with|true=>none|false=>E0.F f
   Z:=fun f args H=>match l.any (fun x=>Nat.beq x.f f) with
    | true => (match ZM args with
      | some a=>(match ZgG l f a with|some r=>some (r,H)|none=>none)
      | none=>none)
    | false=>E0.Z f args H}
theorem Ztz {f:FuncId} {args args':List PV} {r:PV} {H H':Heap} (h:CallOk E0 Tryz.prog f args' H r H') (ha:ZM args=some args'):CallOk E0 Tryz.prog f args H r H':=by
 intro g w vals hi hg hv
 obtain ⟨l1,l2⟩:=XM ha
 exact h g w vals hi hg ⟨by rw [l1];exact hv.1,fun i h1 h2=>V.pure (g:=g) _ _ (show V0 g.S _ _ from Qf (hv.2 i (by omega) h2) (l2 i (by omega) h1))⟩
theorem Zdj (hl:∀ x∈l,FactOk E0 Tryz.prog x) (hZ:YF E0 Tryz.prog E0.Z):YF (UJ l) Tryz.prog (UJ l).Z:=by
 intro f args H p H' h
 simp only [UJ] at h
 split at h
 · split at h
   · rename_i a ha
     split at h
     · rename_i r hr
       cases h
       obtain ⟨x,hx,rfl,rfl,rfl⟩:=Zbr hr
       exact ⟨(Ztz (hl x hx H) ha).env rfl,fun _=>rfl⟩
     · cases h
   · cases h
 · obtain ⟨a, b⟩ := hZ _ _ _ _ _ h
   exact ⟨a.env rfl,b⟩
theorem Zji (hF:FOk E0 Tryz.prog):FOk (UJ l) Tryz.prog:=fun f fn c h=>by
 simp only [UJ] at h
 split at h
 · cases h
 · exact hF f fn c h
def Zc0:Fact:=⟨14,[.sl .none 6 [[.int .i64 1,.int .i64 0,.int .i64 1,.sl .none 1 [[.str [97]],[.str [98]]],.int .i64 0,.nils],[.int .i64 3,.int .i64 0,.int .i64 0,.nils,.int .i64 0,.sl .none 4 [[.int .i64 2,.str [110,35,48],.int .i64 2,.nils]]]]],.tup [.str [115,116,97,114,116,32,48,32,49,32,97,32,98,10,115,101,110,100,32,48,32,124,32,110,35,48,58,110,111,110,99,101,10],.int .i64 0]⟩
theorem Zsn:Vk E0 100 60 Zc0=true:=by kernel_rfl
def ZcV:Fact:=⟨24,[.sl .none 6 [[.int .i64 1,.int .i64 0,.int .i64 1,.sl .none 1 [[.str [97]],[.str [98]]],.int .i64 0,.nils],[.int .i64 3,.int .i64 0,.int .i64 0,.nils,.int .i64 0,.sl .none 4 [[.int .i64 2,.str [110,35,48],.int .i64 2,.nils]]],[.int .i64 6,.int .i64 0,.int .i64 0,.sl .none 1 [[.str [97]]],.int .i64 0,.nils]]],.int .i64 0⟩
theorem ZtH:Vk E0 100 60 ZcV=true:=by kernel_rfl
def Zcx:Fact:=⟨30,[.agg [.sl .none 1 [[.str [97]],[.str [98]]],.sl .none 1 [[.str [97]]]]],.tup [.sl .none 4 [[.int .i64 3,.str [115,107],.int .i64 0,.sl .none 4 [[.int .i64 2,.str [97],.int .i64 1,.nils]]],[.int .i64 3,.str [112,107],.int .i64 0,.sl .none 4 [[.int .i64 3,.str [115,107],.int .i64 0,.sl .none 4 [[.int .i64 2,.str [97],.int .i64 1,.nils]]]]],[.int .i64 3,.str [112,107],.int .i64 0,.sl .none 4 [[.int .i64 3,.str [115,107],.int .i64 0,.sl .none 4 [[.int .i64 2,.str [98],.int .i64 1,.nils]]]]],[.int .i64 3,.str [115,104,107],.int .i64 0,.sl .none 4 [[.int .i64 2,.str [97],.int .i64 1,.nils],[.int .i64 2,.str [98],.int .i64 1,.nils]]],[.int .i64 3,.str [115,104,107],.int .i64 0,.sl .none 4 [[.int .i64 2,.str [98],.int .i64 1,.nils],[.int .i64 2,.str [97],.int .i64 1,.nils]]]],.int .i64 0]⟩
theorem Ztm:Vk E0 100 60 Zcx=true:=by kernel_rfl
theorem Zmx {x:Fact} (h:Vk E0 100 60 x=true):FactOk E0 Tryz.prog x:=XK tOk follows fOk zOk h
theorem ZrV:∀ x∈ [Zc0,ZcV,Zcx],FactOk E0 Tryz.prog x:=fun x hx=>by
 simp only [List.mem_cons,List.not_mem_nil,or_false] at hx
 rcases hx with rfl|rfl|rfl
 · exact Zmx Zsn
 · exact Zmx ZtH
 · exact Zmx Ztm
theorem Zek:Vk (UJ [Zc0,ZcV,Zcx]) 100 60 ⟨4,[],.bool true⟩=true:=by kernel_rfl
theorem Zix:FactOk E0 Tryz.prog ⟨4,[],.bool true⟩:=by
 have h:FactOk (UJ [Zc0,ZcV,Zcx]) Tryz.prog ⟨4,[],.bool true⟩:=XK (E:=UJ [Zc0,ZcV,Zcx]) ⟨tOk.1⟩ follows (Zji fOk) (Zdj ZrV zOk) Zek
 exact h.env rfl
