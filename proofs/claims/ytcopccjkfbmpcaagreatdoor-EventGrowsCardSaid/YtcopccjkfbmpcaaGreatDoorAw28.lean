/-
  The examples of the events come to true in every world.
-/
import Derived.Test.YtcopccjkfbmpcaaGreatDoorAwOr
namespace Go.Vm.Seat
variable {l:List Fact}
open Go.Proofs
set_option maxRecDepth 100000
theorem ZtC:∀ (a b:List PV),Zhd a b=true→a=b
 | [],[],_=>rfl
 | a :: r, b :: s, h => by
   simp only [Zhd,Bool.and_eq_true] at h
   rw [Zm9 a b h.1,ZtC r s h.2]
 | [],_::_,h=>by simp [Zhd] at h
 |_::_,[],h=>by simp [Zhd] at h
def Zix:List Fact→FuncId→List PV→Option PV
 | [],_,_=>none
 | x :: l, f, args => match Nat.beq x.f f with
   | true => match Zhd x.args args with
     | true=>some x.r
     | false=>Zix l f args
   | false=>Zix l f args
theorem Zc6 {f:FuncId} {args:List PV} {r:PV}:∀ {l:List Fact},Zix l f args=some r→∃ x∈l,x.f=f∧x.args=args∧x.r=r
 | x :: l, h => by
   simp only [Zix] at h
   split at h
   · rename_i h1
     split at h
     · rename_i h2
       cases h
       exact ⟨x,List.mem_cons_self,Nat.eq_of_beq_eq_true h1,ZtC _ _ h2,rfl⟩
     · obtain ⟨y,hy,e⟩:=Zc6 h;exact ⟨y,List.mem_cons_of_mem _ hy,e⟩
   · obtain ⟨y,hy,e⟩:=Zc6 h;exact ⟨y,List.mem_cons_of_mem _ hy,e⟩
noncomputable def Qs (l:List Fact):Env:=
 { E0 with
   F:=fun f=>match l.any (fun x=>Nat.beq x.f f) with|true=>none|false=>E0.F f
   Z:=fun f args H=>match l.any (fun x=>Nat.beq x.f f) with
    | true => (match Zx args with
      | some a=>(match Zix l f a with|some r=>some (r,H)|none=>none)
      | none=>none)
    | false=>E0.Z f args H}
theorem Zvr {f:FuncId} {args args':List PV} {r:PV} {H H':Heap} (h:CallOk E0 Tryz.prog f args' H r H') (ha:Zx args=some args'):CallOk E0 Tryz.prog f args H r H':=by
 intro g w vals hi hg hv
 obtain ⟨l1,l2⟩:=W8 ha
 exact h g w vals hi hg ⟨by rw [l1];exact hv.1,fun i h1 h2=>V.pure (g:=g) _ _ (show V0 g.S _ _ from Zb9 (hv.2 i (by omega) h2) (l2 i (by omega) h1))⟩
theorem Zed (hl:∀ x∈l,FactOk E0 Tryz.prog x) (hZ:YU E0 Tryz.prog E0.Z):YU (Qs l) Tryz.prog (Qs l).Z:=by
 intro f args H p H' h
 simp only [Qs] at h
 split at h
 · split at h
   · rename_i a ha
     split at h
     · rename_i r hr
       cases h
       obtain ⟨x,hx,rfl,rfl,rfl⟩:=Zc6 hr
       exact ⟨(Zvr (hl x hx H) ha).env rfl,fun _=>rfl⟩
     · cases h
   · cases h
 · obtain ⟨a, b⟩ := hZ _ _ _ _ _ h
   exact ⟨a.env rfl,b⟩
theorem Zmq (hF:FOk E0 Tryz.prog):FOk (Qs l) Tryz.prog:=fun f fn c h=>by
 simp only [Qs] at h
 split at h
 · cases h
 · exact hF f fn c h
def ZdU:Fact:=⟨15,[.sl .none 6 [[.int .i64 1,.int .i64 0,.int .i64 1,.sl .none 1 [[.str [97]],[.str [98]]],.int .i64 0,.nils],[.int .i64 3,.int .i64 0,.int .i64 0,.nils,.int .i64 0,.sl .none 4 [[.int .i64 2,.str [110,35,48],.int .i64 2,.nils]]]]],.tup [.str [115,116,97,114,116,32,48,32,49,32,97,32,98,10,115,101,110,100,32,48,32,124,32,110,35,48,58,110,111,110,99,101,10],.int .i64 0]⟩
theorem ZvN:XY E0 100 60 ZdU=true:=by kernel_rfl
def Zd3:Fact:=⟨16,[.sl .none 6 [[.int .i64 1,.int .i64 0,.int .i64 1,.sl .none 1 [[.str [97]],[.str [98]]],.int .i64 0,.nils],[.int .i64 3,.int .i64 0,.int .i64 0,.nils,.int .i64 0,.sl .none 4 [[.int .i64 2,.str [110,35,48],.int .i64 2,.nils]]],[.int .i64 6,.int .i64 0,.int .i64 0,.sl .none 1 [[.str [97]]],.int .i64 0,.nils]]],.int .i64 0⟩
theorem ZvW:XY E0 100 60 Zd3=true:=by kernel_rfl
def Zek:Fact:=⟨24,[.agg [.sl .none 1 [[.str [97]],[.str [98]]],.sl .none 1 [[.str [97]]]]],.tup [.sl .none 4 [[.int .i64 3,.str [115,107],.int .i64 0,.sl .none 4 [[.int .i64 2,.str [97],.int .i64 1,.nils]]],[.int .i64 3,.str [112,107],.int .i64 0,.sl .none 4 [[.int .i64 3,.str [115,107],.int .i64 0,.sl .none 4 [[.int .i64 2,.str [97],.int .i64 1,.nils]]]]],[.int .i64 3,.str [112,107],.int .i64 0,.sl .none 4 [[.int .i64 3,.str [115,107],.int .i64 0,.sl .none 4 [[.int .i64 2,.str [98],.int .i64 1,.nils]]]]],[.int .i64 3,.str [115,104,107],.int .i64 0,.sl .none 4 [[.int .i64 2,.str [97],.int .i64 1,.nils],[.int .i64 2,.str [98],.int .i64 1,.nils]]],[.int .i64 3,.str [115,104,107],.int .i64 0,.sl .none 4 [[.int .i64 2,.str [98],.int .i64 1,.nils],[.int .i64 2,.str [97],.int .i64 1,.nils]]]],.int .i64 0]⟩
theorem ZuM:XY E0 100 60 Zek=true:=by kernel_rfl
theorem Zpe {x:Fact} (h:XY E0 100 60 x=true):FactOk E0 Tryz.prog x:=Ys tOk follows fOk zOk h
theorem Zvc:∀ x∈ [ZdU,Zd3,Zek],FactOk E0 Tryz.prog x:=fun x hx=>by
 simp only [List.mem_cons,List.not_mem_nil,or_false] at hx
 rcases hx with rfl|rfl|rfl
 · exact Zpe ZvN
 · exact Zpe ZvW
 · exact Zpe ZuM
theorem ZeV:XY (Qs [ZdU,Zd3,Zek]) 100 60 ⟨5,[],.bool true⟩=true:=by kernel_rfl
theorem Zh4:FactOk E0 Tryz.prog ⟨5,[],.bool true⟩:=by
 have h:FactOk (Qs [ZdU,Zd3,Zek]) Tryz.prog ⟨5,[],.bool true⟩:=Ys (E:=Qs [ZdU,Zd3,Zek]) ⟨tOk.1⟩ follows (Zmq fOk) (Zed Zvc zOk) ZeV
 exact h.env rfl
