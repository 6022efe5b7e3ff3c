/-
  The examples of the events come to true in every world.
-/
import Derived.Test.YtnghnjdabbjcnaaGreatDoorVTv3
namespace Go.Vm.Seat
variable {l:List Fact}
open Go.Proofs
set_option maxRecDepth 100000
theorem Ztp:∀(a b:List PV),Zg7 a b=true→a=b
 | [],[],_=>rfl
 |a::r,b::s,h=>by simp only[Zg7,Bool.and_eq_true]at h;rw[Zmf a b h.1,Ztp r s h.2]
 | [],_::_,h=>by simp[Zg7]at h
 |_::_,[],h=>by simp[Zg7]at h
def Zjb:List Fact→FuncId→List PV→Option PV
 | [],_,_=>none
 | x :: l, f, args => match Nat.beq x.f f with
   | true => match Zg7 x.args args with
     | true=>some x.r
     | false=>Zjb l f args
   | false=>Zjb l f args
theorem ZbB {f:FuncId} {args:List PV} {r:PV}:∀{l:List Fact},Zjb l f args=some r→∃x∈l,x.f=f∧x.args=args∧x.r=r
 |x::l,h=>by simp only[Zjb]at h;split at h;{rename_i h1;split at h;{rename_i h2;cases h;exact⟨x,List.mem_cons_self,Nat.eq_of_beq_eq_true h1,Ztp _ _ h2,rfl⟩};{obtain⟨y,hy,e⟩:=ZbB h;exact⟨y,List.mem_cons_of_mem _ hy,e⟩}};{obtain⟨y,hy,e⟩:=ZbB h;exact⟨y,List.mem_cons_of_mem _ hy,e⟩}
noncomputable def Qp (l:List Fact):Env:=
 { E0 with
   F:=fun f=>match l.any (fun x=>Nat.beq x.f f) with|true=>none|false=>E0.F f
   Z:=fun f args H=>match l.any (fun x=>Nat.beq x.f f) with
    | true => (match ZH args with
      | some a=>(match Zjb l f a with|some r=>some (r,H)|none=>none)
      | none=>none)
    | false=>E0.Z f args H}
theorem Zt2 {f:FuncId} {args args':List PV} {r:PV} {H H':Heap} (h:CO f args' H r H') (ha:ZH args=some args'):CO f args H r H':=by intro g w vals hi hg hv;obtain⟨l1,l2⟩:=X8 ha;exact h g w vals hi hg ⟨by rw[l1];exact hv.1,fun i h1 h2=>V.pure (g:=g) _ _ (show V0 g.S _ _ from Zao (hv.2 i (by omega) h2) (l2 i (by omega) h1))⟩
theorem ZcG (hl:∀x∈l,FactOk E0 Tryz.prog x) (hZ:YF E0 Tryz.prog E0.Z):YF (Qp l) Tryz.prog (Qp l).Z:=by intro f args H p H' h;simp only[Qp]at h;split at h;{split at h;{rename_i a ha;split at h;{rename_i r hr;cases h;obtain⟨x,hx,rfl,rfl,rfl⟩:=ZbB hr;exact⟨(Zt2 (hl x hx H) ha).env rfl,fun _=>rfl⟩};{cases h}};{cases h}};{obtain⟨a,b⟩:=hZ _ _ _ _ _ h;exact⟨a.env rfl,b⟩}
theorem Zkl (hF:FOk E0 Tryz.prog):FOk (Qp l) Tryz.prog:=fun f fn c h=>by
 simp only[Qp]at h
 split at h
 · cases h
 · exact hF f fn c h
def Zc4:Fact:=⟨7,[.sl .none 6 [[.int .i64 1,.int .i64 0,.int .i64 1,.sl .none 1 [[.str [97]],[.str [98]]],.int .i64 0,.nils],[.int .i64 3,.int .i64 0,.int .i64 0,.nils,.int .i64 0,.sl .none 4 [[.int .i64 2,.str [110,35,48],.int .i64 2,.nils]]]]],.tup [.str [115,116,97,114,116,32,48,32,49,32,97,32,98,10,115,101,110,100,32,48,32,124,32,110,35,48,58,110,111,110,99,101,10],.int .i64 0]⟩
theorem ZvK:VY E0 100 60 Zc4=true:=by kernel_rfl
def ZcU:Fact:=⟨10,[.sl .none 6 [[.int .i64 1,.int .i64 0,.int .i64 1,.sl .none 1 [[.str [97]],[.str [98]]],.int .i64 0,.nils],[.int .i64 3,.int .i64 0,.int .i64 0,.nils,.int .i64 0,.sl .none 4 [[.int .i64 2,.str [110,35,48],.int .i64 2,.nils]]],[.int .i64 6,.int .i64 0,.int .i64 0,.sl .none 1 [[.str [97]]],.int .i64 0,.nils]]],.int .i64 0⟩
theorem ZvC:VY E0 100 60 ZcU=true:=by kernel_rfl
def ZcJ:Fact:=⟨31,[.agg [.sl .none 1 [[.str [97]],[.str [98]]],.sl .none 1 [[.str [97]]]]],.tup [.sl .none 4 [[.int .i64 3,.str [115,107],.int .i64 0,.sl .none 4 [[.int .i64 2,.str [97],.int .i64 1,.nils]]],[.int .i64 3,.str [112,107],.int .i64 0,.sl .none 4 [[.int .i64 3,.str [115,107],.int .i64 0,.sl .none 4 [[.int .i64 2,.str [97],.int .i64 1,.nils]]]]],[.int .i64 3,.str [112,107],.int .i64 0,.sl .none 4 [[.int .i64 3,.str [115,107],.int .i64 0,.sl .none 4 [[.int .i64 2,.str [98],.int .i64 1,.nils]]]]],[.int .i64 3,.str [115,104,107],.int .i64 0,.sl .none 4 [[.int .i64 2,.str [97],.int .i64 1,.nils],[.int .i64 2,.str [98],.int .i64 1,.nils]]],[.int .i64 3,.str [115,104,107],.int .i64 0,.sl .none 4 [[.int .i64 2,.str [98],.int .i64 1,.nils],[.int .i64 2,.str [97],.int .i64 1,.nils]]]],.int .i64 0]⟩
theorem Zvm:VY E0 100 60 ZcJ=true:=by kernel_rfl
theorem Znf {x:Fact} (h:VY E0 100 60 x=true):FactOk E0 Tryz.prog x:=XB tOk follows fOk zOk h
theorem Zu8:∀x∈ [Zc4,ZcU,ZcJ],FactOk E0 Tryz.prog x:=fun x hx=>by
 simp only[List.mem_cons,List.not_mem_nil,or_false]at hx
 rcases hx with rfl|rfl|rfl
 · exact Znf ZvK
 · exact Znf ZvC
 · exact Znf Zvm
theorem Zez:VY (Qp [Zc4,ZcU,ZcJ]) 100 60 ⟨5,[],.bool true⟩=true:=by kernel_rfl
theorem ZjI:FactOk E0 Tryz.prog ⟨5,[],.bool true⟩:=by have h:FactOk (Qp [Zc4,ZcU,ZcJ]) Tryz.prog ⟨5,[],.bool true⟩:=XB (E:=Qp [Zc4,ZcU,ZcJ]) ⟨tOk.1,tOk.2⟩ follows (Zkl fOk) (ZcG Zu8 zOk) Zez;exact h.env rfl
