/-
  The examples of the events come to true in every world.
-/
import Derived.Test.YtnghnjdabbjcnaaGreatDoorTv
namespace Go.Vm.Seat
variable {l:List Fact}
open Go.Proofs
set_option maxRecDepth 100000
theorem ZuH:∀(a b:List PV),Zhh a b=true→a=b
 | [],[],_=>rfl
 |a::r,b::s,h=>by simp only[Zhh,Bool.and_eq_true]at h;rw[Znj a b h.1,ZuH r s h.2]
 | [],_::_,h=>by simp[Zhh]at h
 |_::_,[],h=>by simp[Zhh]at h
def Zj0:List Fact→FuncId→List PV→Option PV
 | [],_,_=>none
 | x :: l, f, args => match Nat.beq x.f f with
   | true => match Zhh x.args args with
     | true=>some x.r
     | false=>Zj0 l f args
   | false=>Zj0 l f args
theorem Zcz {f:FuncId} {args:List PV} {r:PV}:∀{l:List Fact},Zj0 l f args=some r→∃x∈l,x.f=f∧x.args=args∧x.r=r
 |x::l,h=>by simp only[Zj0]at h;split at h;{rename_i h1;split at h;{rename_i h2;cases h;exact⟨x,List.mem_cons_self,Nat.eq_of_beq_eq_true h1,ZuH _ _ h2,rfl⟩};{obtain⟨y,hy,e⟩:=Zcz h;exact⟨y,List.mem_cons_of_mem _ hy,e⟩}};{obtain⟨y,hy,e⟩:=Zcz h;exact⟨y,List.mem_cons_of_mem _ hy,e⟩}
noncomputable def QJ (l:List Fact):Env:=
 { E0 with
   F:=fun f=>match l.any (fun x=>Nat.beq x.f f) with|true=>none|false=>E0.F f
   Z:=fun f args H=>match l.any (fun x=>Nat.beq x.f f) with
    | true => (match ZG args with
      | some a=>(match Zj0 l f a with|some r=>some (r,H)|none=>none)
      | none=>none)
    | false=>E0.Z f args H}
theorem Zwd {f:FuncId} {args args':List PV} {r:PV} {H H':Heap} (h:CO f args' H r H') (ha:ZG args=some args'):CO f args H r H':=by intro g w vals hi hg hv;obtain⟨l1,l2⟩:=Wi ha;exact h g w vals hi hg ⟨by rw[l1];exact hv.1,fun i h1 h2=>V.pure (g:=g) _ _ (show V0 g.S _ _ from ZaB (hv.2 i (by omega) h2) (l2 i (by omega) h1))⟩
theorem Zdn (hl:∀x∈l,FactOk E0 Tryz.prog x) (hZ:YQ E0 Tryz.prog E0.Z):YQ (QJ l) Tryz.prog (QJ l).Z:=by intro f args H p H' h;simp only[QJ]at h;split at h;{split at h;{rename_i a ha;split at h;{rename_i r hr;cases h;obtain⟨x,hx,rfl,rfl,rfl⟩:=Zcz hr;exact⟨(Zwd (hl x hx H) ha).env rfl,fun _=>rfl⟩};{cases h}};{cases h}};{obtain⟨a,b⟩:=hZ _ _ _ _ _ h;exact⟨a.env rfl,b⟩}
theorem Zmv (hF:FOk E0 Tryz.prog):FOk (QJ l) Tryz.prog:=fun f fn c h=>by
 simp only[QJ]at h
 split at h
 · cases h
 · exact hF f fn c h
def ZdR:Fact:=⟨7,[.sl .none 6 [[.int .i64 1,.int .i64 0,.int .i64 1,.sl .none 1 [[.str [97]],[.str [98]]],.int .i64 0,.nils],[.int .i64 3,.int .i64 0,.int .i64 0,.nils,.int .i64 0,.sl .none 4 [[.int .i64 2,.str [110,35,48],.int .i64 2,.nils]]]]],.tup [.str [115,116,97,114,116,32,48,32,49,32,97,32,98,10,115,101,110,100,32,48,32,124,32,110,35,48,58,110,111,110,99,101,10],.int .i64 0]⟩
theorem ZvM:Ui E0 100 60 ZdR=true:=by kernel_rfl
def Zeg:Fact:=⟨10,[.sl .none 6 [[.int .i64 1,.int .i64 0,.int .i64 1,.sl .none 1 [[.str [97]],[.str [98]]],.int .i64 0,.nils],[.int .i64 3,.int .i64 0,.int .i64 0,.nils,.int .i64 0,.sl .none 4 [[.int .i64 2,.str [110,35,48],.int .i64 2,.nils]]],[.int .i64 6,.int .i64 0,.int .i64 0,.sl .none 1 [[.str [97]]],.int .i64 0,.nils]]],.int .i64 0⟩
theorem Zwq:Ui E0 100 60 Zeg=true:=by kernel_rfl
def ZdU:Fact:=⟨31,[.agg [.sl .none 1 [[.str [97]],[.str [98]]],.sl .none 1 [[.str [97]]]]],.tup [.sl .none 4 [[.int .i64 3,.str [115,107],.int .i64 0,.sl .none 4 [[.int .i64 2,.str [97],.int .i64 1,.nils]]],[.int .i64 3,.str [112,107],.int .i64 0,.sl .none 4 [[.int .i64 3,.str [115,107],.int .i64 0,.sl .none 4 [[.int .i64 2,.str [97],.int .i64 1,.nils]]]]],[.int .i64 3,.str [112,107],.int .i64 0,.sl .none 4 [[.int .i64 3,.str [115,107],.int .i64 0,.sl .none 4 [[.int .i64 2,.str [98],.int .i64 1,.nils]]]]],[.int .i64 3,.str [115,104,107],.int .i64 0,.sl .none 4 [[.int .i64 2,.str [97],.int .i64 1,.nils],[.int .i64 2,.str [98],.int .i64 1,.nils]]],[.int .i64 3,.str [115,104,107],.int .i64 0,.sl .none 4 [[.int .i64 2,.str [98],.int .i64 1,.nils],[.int .i64 2,.str [97],.int .i64 1,.nils]]]],.int .i64 0]⟩
theorem Zv1:Ui E0 100 60 ZdU=true:=by kernel_rfl
theorem Zot {x:Fact} (h:Ui E0 100 60 x=true):FactOk E0 Tryz.prog x:=XD tOk follows fOk zOk h
theorem Zv3:∀x∈ [ZdR,Zeg,ZdU],FactOk E0 Tryz.prog x:=fun x hx=>by
 simp only[List.mem_cons,List.not_mem_nil,or_false]at hx
 rcases hx with rfl|rfl|rfl
 · exact Zot ZvM
 · exact Zot Zwq
 · exact Zot Zv1
theorem ZeV:Ui (QJ [ZdR,Zeg,ZdU]) 100 60 ⟨5,[],.bool true⟩=true:=by kernel_rfl
theorem Zjt:FactOk E0 Tryz.prog ⟨5,[],.bool true⟩:=by have h:FactOk (QJ [ZdR,Zeg,ZdU]) Tryz.prog ⟨5,[],.bool true⟩:=XD (E:=QJ [ZdR,Zeg,ZdU]) ⟨tOk.1,tOk.2⟩ follows (Zmv fOk) (Zdn Zv3 zOk) ZeV;exact h.env rfl
