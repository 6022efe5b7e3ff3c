/-
  The examples of the events come to true in every world.
-/
import Derived.Test.YtcopccjkfbmpcaaGreatDoorAwOr
namespace Go.Vm.Seat
variable {l:List Fact}
open Go.Proofs
set_option maxRecDepth 100000
theorem Zs3:∀ (a b:List PV),Zlh a b=true→a=b
 | [],[],_=>rfl
 | a :: r, b :: s, h => by
   simp only [Zlh,Bool.and_eq_true] at h
   rw [Zn6 a b h.1,Zs3 r s h.2]
 | [],_::_,h=>by simp [Zlh] at h
 |_::_,[],h=>by simp [Zlh] at h
def Zs0:List Fact→FuncId→List PV→Option PV
 | [],_,_=>none
 | x :: l, f, args => match Nat.beq x.f f with
   | true => match Zlh x.args args with
     | true=>some x.r
     | false=>Zs0 l f args
   | false=>Zs0 l f args
theorem ZsV {f:FuncId} {args:List PV} {r:PV}:∀ {l:List Fact},Zs0 l f args=some r→∃ x∈l,x.f=f∧x.args=args∧x.r=r
 | x :: l, h => by
   simp only [Zs0] at h
   split at h
   · rename_i h1
     split at h
     · rename_i h2
       cases h
       exact ⟨x,List.mem_cons_self,Nat.eq_of_beq_eq_true h1,Zs3 _ _ h2,rfl⟩
     · obtain ⟨y,hy,e⟩:=ZsV h;exact ⟨y,List.mem_cons_of_mem _ hy,e⟩
   · obtain ⟨y,hy,e⟩:=ZsV h;exact ⟨y,List.mem_cons_of_mem _ hy,e⟩
noncomputable def ZsU (l:List Fact):Env:=
 { E0 with
   F:=fun f=>match l.any (fun x=>Nat.beq x.f f) with|true=>none|false=>E0.F f
   Z:=fun f args H=>match l.any (fun x=>Nat.beq x.f f) with
    | true => (match Zz args with
      | some a=>(match Zs0 l f a with|some r=>some (r,H)|none=>none)
      | none=>none)
    | false=>E0.Z f args H}
theorem Zs5 {f:FuncId} {args args':List PV} {r:PV} {H H':Heap} (h:CallOk E0 Tryz.prog f args' H r H') (ha:Zz args=some args'):CallOk E0 Tryz.prog f args H r H':=by
 intro g w vals hi hg hv
 obtain ⟨l1,l2⟩:=Vk ha
 exact h g w vals hi hg ⟨by rw [l1];exact hv.1,fun i h1 h2=>V.pure (g:=g) _ _ (show V0 g.S _ _ from ZdH (hv.2 i (by omega) h2) (l2 i (by omega) h1))⟩
theorem ZsX (hl:∀ x∈l,FactOk E0 Tryz.prog x) (hZ:YU E0 Tryz.prog E0.Z):YU (ZsU l) Tryz.prog (ZsU l).Z:=by
 intro f args H p H' h
 simp only [ZsU] at h
 split at h
 · split at h
   · rename_i a ha
     split at h
     · rename_i r hr
       cases h
       obtain ⟨x,hx,rfl,rfl,rfl⟩:=ZsV hr
       exact ⟨(Zs5 (hl x hx H) ha).env rfl,fun _=>rfl⟩
     · cases h
   · cases h
 · obtain ⟨a, b⟩ := hZ _ _ _ _ _ h
   exact ⟨a.env rfl,b⟩
theorem Zs1 (hF:FOk E0 Tryz.prog):FOk (ZsU l) Tryz.prog:=fun f fn c h=>by
 simp only [ZsU] at h
 split at h
 · cases h
 · exact hF f fn c h
def ZsZ:Fact:=⟨15,[.sl .none 6 [[.int .i64 1,.int .i64 0,.int .i64 1,.sl .none 1 [[.str [97]],[.str [98]]],.int .i64 0,.nils],[.int .i64 3,.int .i64 0,.int .i64 0,.nils,.int .i64 0,.sl .none 4 [[.int .i64 2,.str [110,35,48],.int .i64 2,.nils]]]]],.tup [.str [115,116,97,114,116,32,48,32,49,32,97,32,98,10,115,101,110,100,32,48,32,124,32,110,35,48,58,110,111,110,99,101,10],.int .i64 0]⟩
theorem Zs6:ZeJ E0 100 60 ZsZ=true:=by kernel_rfl
def ZsY:Fact:=⟨16,[.sl .none 6 [[.int .i64 1,.int .i64 0,.int .i64 1,.sl .none 1 [[.str [97]],[.str [98]]],.int .i64 0,.nils],[.int .i64 3,.int .i64 0,.int .i64 0,.nils,.int .i64 0,.sl .none 4 [[.int .i64 2,.str [110,35,48],.int .i64 2,.nils]]],[.int .i64 6,.int .i64 0,.int .i64 0,.sl .none 1 [[.str [97]]],.int .i64 0,.nils]]],.int .i64 0⟩
theorem Zs8:ZeJ E0 100 60 ZsY=true:=by kernel_rfl
def ZsW:Fact:=⟨24,[.agg [.sl .none 1 [[.str [97]],[.str [98]]],.sl .none 1 [[.str [97]]]]],.tup [.sl .none 4 [[.int .i64 3,.str [115,107],.int .i64 0,.sl .none 4 [[.int .i64 2,.str [97],.int .i64 1,.nils]]],[.int .i64 3,.str [112,107],.int .i64 0,.sl .none 4 [[.int .i64 3,.str [115,107],.int .i64 0,.sl .none 4 [[.int .i64 2,.str [97],.int .i64 1,.nils]]]]],[.int .i64 3,.str [112,107],.int .i64 0,.sl .none 4 [[.int .i64 3,.str [115,107],.int .i64 0,.sl .none 4 [[.int .i64 2,.str [98],.int .i64 1,.nils]]]]],[.int .i64 3,.str [115,104,107],.int .i64 0,.sl .none 4 [[.int .i64 2,.str [97],.int .i64 1,.nils],[.int .i64 2,.str [98],.int .i64 1,.nils]]],[.int .i64 3,.str [115,104,107],.int .i64 0,.sl .none 4 [[.int .i64 2,.str [98],.int .i64 1,.nils],[.int .i64 2,.str [97],.int .i64 1,.nils]]]],.int .i64 0]⟩
theorem Zs7:ZeJ E0 100 60 ZsW=true:=by kernel_rfl
theorem Zs2 {x:Fact} (h:ZeJ E0 100 60 x=true):FactOk E0 Tryz.prog x:=Vh tOk follows fOk zOk h
theorem Zs4:∀ x∈ [ZsZ,ZsY,ZsW],FactOk E0 Tryz.prog x:=fun x hx=>by
 simp only [List.mem_cons,List.not_mem_nil,or_false] at hx
 rcases hx with rfl|rfl|rfl
 · exact Zs2 Zs6
 · exact Zs2 Zs8
 · exact Zs2 Zs7
theorem Zd5:ZeJ (ZsU [ZsZ,ZsY,ZsW]) 100 60 ⟨5,[],.bool true⟩=true:=by kernel_rfl
theorem Zgr:FactOk E0 Tryz.prog ⟨5,[],.bool true⟩:=by
 have h:FactOk (ZsU [ZsZ,ZsY,ZsW]) Tryz.prog ⟨5,[],.bool true⟩:=Vh (E:=ZsU [ZsZ,ZsY,ZsW]) ⟨tOk.1⟩ follows (Zs1 fOk) (ZsX Zs4 zOk) Zd5
 exact h.env rfl
