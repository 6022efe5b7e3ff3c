/-
  The examples of the transformations come to true in every world.
-/
import Derived.Test.YtgnklbkmfeafaaaGreatDoorWn
noncomputable section
namespace Go.Vm.Seat
variable {args:List PV} {H H':Heap} {l:List Fact}
open Go.Proofs
set_option maxRecDepth 100000
def Zhr (ro id id2 len:Nat) (el:List (List PV)) (y z:List PV) (i:Int):Bool:=decide (i=0)&&(Nat.ble ro id&&(!Nat.beq id id2&&(Nat.beq el.length len&&(Nat.ble 1 len&&(Nat.ble len 1000&&(el.all (fun x=>x.all Zp)&&(y.all Zp&&z.all Zp)))))))
def ZiJ (args:List PV) (H:Heap):Option (PV×Heap):=match args with
 | [.own id 7 0 len, .int .i64 i, .own id2 7 0 2] => match H.bx[id]?, H.bx[id2]? with
   | some (.cells 7 el), some (.cells 7 [y, z]) => match Zhr H.ro id id2 len el y z i with
     | true=>some (.own H.bx.length 7 0 (len+2),{H with bx:=H.bx.set id .dead++ [.cells 7 (YZ el 0 y z)]})
     | false=>none
   | _,_=>none
 |_=>none
theorem ZgC {p:PV} (h:ZiJ args H=some (p,H')):CallOk E0 Tryz.prog 40 args H p H':=by
 unfold ZiJ at h
 split at h
 · split at h
   · rename_i id len i id2 _ _ el y z h1 h2
     split at h
     · rename_i hok
       cases h
       simp only [Zhr,Bool.and_eq_true,decide_eq_true_eq,Bool.not_eq_true'] at hok
       obtain ⟨rfl,q2,q3,q4,q5,q6,q7,q8,q9⟩:=hok
       have q4:=Nat.eq_of_beq_eq_true q4
       have k:=Zde (i:=0) h1 h2 (Nat.le_of_ble_eq_true q2) (fun e=>by rw [e,Nat.beq_refl] at q3;cases q3) q4 (Nat.le_of_ble_eq_true q5) (Nat.le_of_ble_eq_true q6) q7 q8 q9
       exact k
     · cases h
   · cases h
 · cases h
def EI:Env:=
 { E0 with
   F:=fun f=>match Nat.beq f 40 with|true=>none|false=>E0.F f
   Z:=fun f args H=>match Nat.beq f 40 with
    | true=>ZiJ args H
    | false=>E0.Z f args H}
theorem Ziy:TOk EI Tryz.prog:=⟨tOk.1,tOk.2⟩
theorem Zjm:FOk EI Tryz.prog:=fun f fn c h=>by
 simp only [EI] at h
 split at h
 · cases h
 · exact fOk f fn c h
theorem Zi8:Yd EI Tryz.prog EI.Z:=by
 intro f args H p H' h
 simp only [EI] at h
 split at h
 · rename_i hf
   obtain rfl:=Nat.eq_of_beq_eq_true hf
   exact ⟨(ZgC h).env rfl,fun e=>by cases e⟩
 · obtain ⟨a, b⟩ := zOk _ _ _ _ _ h
   exact ⟨a.env rfl,b⟩
theorem Zjp:∀ (a b:List PV),ZcS a b=true→a=b
 | [],[],_=>rfl
 | a :: r, b :: s, h => by
   simp only [ZcS,Bool.and_eq_true] at h
   rw [ZfK a b h.1,Zjp r s h.2]
 | [],_::_,h=>by simp [ZcS] at h
 |_::_,[],h=>by simp [ZcS] at h
def Zdk:List Fact→FuncId→List PV→Option PV
 | [],_,_=>none
 | x :: l, f, args => match Nat.beq x.f f with
   | true => match ZcS x.args args with
     | true=>some x.r
     | false=>Zdk l f args
   | false=>Zdk l f args
theorem QL {f:FuncId} {args:List PV} {r:PV}:∀ {l:List Fact},Zdk l f args=some r→∃ x∈l,x.f=f∧x.args=args∧x.r=r
 | x :: l, h => by
   simp only [Zdk] at h
   split at h
   · rename_i h1
     split at h
     · rename_i h2
       cases h
       exact ⟨x,List.mem_cons_self,Nat.eq_of_beq_eq_true h1,Zjp _ _ h2,rfl⟩
     · obtain ⟨y,hy,e⟩:=QL h;exact ⟨y,List.mem_cons_of_mem _ hy,e⟩
   · obtain ⟨y,hy,e⟩:=QL h;exact ⟨y,List.mem_cons_of_mem _ hy,e⟩
def VB (l:List Fact):Env:=
 { EI with
   F:=fun f=>match l.any (fun x=>Nat.beq x.f f) with|true=>none|false=>EI.F f
   Z:=fun f args H=>match l.any (fun x=>Nat.beq x.f f) with
    | true => (match Zt args with
      | some a=>(match Zdk l f a with|some r=>some (r,H)|none=>none)
      | none=>none)
    | false=>EI.Z f args H}
theorem Zkm {f:FuncId} {args':List PV} {r:PV} (h:CallOk EI Tryz.prog f args' H r H') (ha:Zt args=some args'):CallOk EI Tryz.prog f args H r H':=by
 intro g w vals hi hg hv
 obtain ⟨l1,l2⟩:=Wg ha
 exact h g w vals hi hg ⟨by rw [l1];exact hv.1,fun i h1 h2=>V.pure (g:=g) _ _ (show V0 g.S _ _ from V7 (hv.2 i (by omega) h2) (l2 i (by omega) h1))⟩
theorem ZaJ (hl:∀ x∈l,FactOk EI Tryz.prog x) (hZ:Yd EI Tryz.prog EI.Z):Yd (VB l) Tryz.prog (VB l).Z:=by
 intro f args H p H' h
 simp only [VB] at h
 split at h
 · split at h
   · rename_i a ha
     split at h
     · rename_i r hr
       cases h
       obtain ⟨x,hx,rfl,rfl,rfl⟩:=QL hr
       exact ⟨(Zkm (hl x hx H) ha).env rfl,fun _=>rfl⟩
     · cases h
   · cases h
 · obtain ⟨a, b⟩ := hZ _ _ _ _ _ h
   exact ⟨a.env rfl,b⟩
theorem ZeO (hF:FOk EI Tryz.prog):FOk (VB l) Tryz.prog:=fun f fn c h=>by
 simp only [VB] at h
 split at h
 · cases h
 · exact hF f fn c h
def ZaF:Fact:=⟨20,[.str [112,114,111,116,111,99,111,108,32,80,32,123,32,114,111,108,101,32,65,44,32,66,59,32,102,114,101,115,104,32,65,58,32,110,32,110,111,110,99,101,59,32,109,101,115,115,97,103,101,32,65,32,45,62,32,66,58,32,110,59,32,125]],.tup [.agg [.str [80],.sl .none 1 [[.str [65]],[.str [66]]],.sl .none 3 [[.str [65],.str [110],.int .i64 2]],.nils,.sl .none 7 [[.str [65],.str [66],.int .i64 2,.str [110],.int .i64 0,.nils,.int .i64 1]],.nils],.int .i64 0,.int .i64 0]⟩
theorem ZjQ:Y3 EI 100 60 ZaF=true:=by kernel_rfl
def Q1:Fact:=⟨7,[.agg [.str [80],.sl .none 1 [[.str [65]],[.str [66]]],.sl .none 3 [[.str [65],.str [110],.int .i64 2]],.nils,.sl .none 7 [[.str [65],.str [66],.int .i64 2,.str [110],.int .i64 0,.nils,.int .i64 1]],.nils]],.tup [.agg [.str [80],.sl .none 1 [[.str [65]],[.str [66]]],.sl .none 3 [[.str [65],.str [110],.int .i64 2]],.sl .none 1 [[.str [115,48]]],.sl .none 7 [[.str [65],.str [66],.int .i64 3,.str [112,97,105,114],.int .i64 0,.sl .none 4 [[.int .i64 2,.str [115,48],.int .i64 0,.nils],[.int .i64 2,.str [110],.int .i64 0,.nils]],.int .i64 1]],.nils],.int .i64 0]⟩
theorem Zkh:Y3 EI 100 60 Q1=true:=by kernel_rfl
def Zar:Fact:=⟨16,[.agg [.str [80],.sl .none 1 [[.str [65]],[.str [66]]],.sl .none 3 [[.str [65],.str [110],.int .i64 2]],.nils,.sl .none 7 [[.str [65],.str [66],.int .i64 2,.str [110],.int .i64 0,.nils,.int .i64 1]],.nils],.int .i64 0,.int .i64 2],.tup [.agg [.str [80],.sl .none 1 [[.str [65]],[.str [66]]],.sl .none 3 [[.str [65],.str [110],.int .i64 2]],.sl .none 1 [[.str [112,97,100]]],.sl .none 7 [[.str [65],.str [66],.int .i64 3,.str [112,97,105,114],.int .i64 0,.sl .none 4 [[.int .i64 2,.str [110],.int .i64 0,.nils],[.int .i64 3,.str [112,97,105,114],.int .i64 0,.sl .none 4 [[.int .i64 2,.str [112,97,100],.int .i64 0,.nils],[.int .i64 2,.str [112,97,100],.int .i64 0,.nils]]]],.int .i64 1]],.nils],.int .i64 0]⟩
theorem ZjW:Y3 EI 100 60 Zar=true:=by kernel_rfl
def ZaA:Fact:=⟨9,[.agg [.str [80],.sl .none 1 [[.str [65]],[.str [66]]],.sl .none 3 [[.str [65],.str [110],.int .i64 2]],.nils,.sl .none 7 [[.str [65],.str [66],.int .i64 2,.str [110],.int .i64 0,.nils,.int .i64 1]],.nils]],.tup [.agg [.str [80],.sl .none 1 [[.str [65]],[.str [66]]],.sl .none 3 [[.str [65],.str [110],.int .i64 2],[.str [66],.str [99,107],.int .i64 3]],.sl .none 1 [[.str [114,101,113,117,101,115,116]]],.sl .none 7 [[.str [65],.str [66],.int .i64 2,.str [114,101,113,117,101,115,116],.int .i64 0,.nils,.int .i64 0],[.str [66],.str [65],.int .i64 3,.str [104,97,115,104],.int .i64 0,.sl .none 4 [[.int .i64 3,.str [112,97,105,114],.int .i64 0,.sl .none 4 [[.int .i64 2,.str [99,107],.int .i64 0,.nils],[.int .i64 2,.str [65],.int .i64 0,.nils]]]],.int .i64 0],[.str [65],.str [66],.int .i64 3,.str [112,97,105,114],.int .i64 0,.sl .none 4 [[.int .i64 3,.str [104,97,115,104],.int .i64 0,.sl .none 4 [[.int .i64 3,.str [112,97,105,114],.int .i64 0,.sl .none 4 [[.int .i64 2,.str [99,107],.int .i64 0,.nils],[.int .i64 2,.str [65],.int .i64 0,.nils]]]]],[.int .i64 2,.str [110],.int .i64 0,.nils]],.int .i64 1]],.nils],.int .i64 0]⟩
theorem ZjI:Y3 EI 100 60 ZaA=true:=by kernel_rfl
def Zav:Fact:=⟨11,[.agg [.str [80],.sl .none 1 [[.str [65]],[.str [66]]],.sl .none 3 [[.str [65],.str [110],.int .i64 2]],.nils,.sl .none 7 [[.str [65],.str [66],.int .i64 2,.str [110],.int .i64 0,.nils,.int .i64 1]],.nils],.int .i64 0],.tup [.agg [.str [80],.sl .none 1 [[.str [65]],[.str [66]]],.sl .none 3 [[.str [65],.str [110],.int .i64 2]],.nils,.sl .none 7 [[.str [65],.str [66],.int .i64 3,.str [97,101,110,99],.int .i64 0,.sl .none 4 [[.int .i64 2,.str [110],.int .i64 0,.nils],[.int .i64 3,.str [112,107],.int .i64 0,.sl .none 4 [[.int .i64 3,.str [115,107],.int .i64 0,.sl .none 4 [[.int .i64 2,.str [66],.int .i64 0,.nils]]]]]],.int .i64 1]],.nils],.int .i64 0]⟩
theorem ZkG:Y3 EI 100 60 Zav=true:=by kernel_rfl
def Q7:Fact:=⟨22,[.agg [.int .i64 3,.str [112,97,105,114],.int .i64 0,.sl .none 4 [[.int .i64 2,.str [115,48],.int .i64 0,.nils],[.int .i64 2,.str [110],.int .i64 0,.nils]]]],.tup [.str [60,115,48,44,32,110,62],.int .i64 0]⟩
theorem ZkO:Y3 EI 100 60 Q7=true:=by kernel_rfl
def Zax:Fact:=⟨22,[.agg [.int .i64 3,.str [112,97,105,114],.int .i64 0,.sl .none 4 [[.int .i64 2,.str [110],.int .i64 0,.nils],[.int .i64 3,.str [112,97,105,114],.int .i64 0,.sl .none 4 [[.int .i64 2,.str [112,97,100],.int .i64 0,.nils],[.int .i64 2,.str [112,97,100],.int .i64 0,.nils]]]]]],.tup [.str [60,110,44,32,112,97,100,44,32,112,97,100,62],.int .i64 0]⟩
theorem ZkT:Y3 EI 100 60 Zax=true:=by kernel_rfl
def ZaG:Fact:=⟨22,[.agg [.int .i64 3,.str [104,97,115,104],.int .i64 0,.sl .none 4 [[.int .i64 3,.str [112,97,105,114],.int .i64 0,.sl .none 4 [[.int .i64 2,.str [99,107],.int .i64 0,.nils],[.int .i64 2,.str [65],.int .i64 0,.nils]]]]]],.tup [.str [104,97,115,104,40,60,99,107,44,32,65,62,41],.int .i64 0]⟩
theorem Zj7:Y3 EI 100 60 ZaG=true:=by kernel_rfl
def Q6:Fact:=⟨22,[.agg [.int .i64 3,.str [112,97,105,114],.int .i64 0,.sl .none 4 [[.int .i64 3,.str [104,97,115,104],.int .i64 0,.sl .none 4 [[.int .i64 3,.str [112,97,105,114],.int .i64 0,.sl .none 4 [[.int .i64 2,.str [99,107],.int .i64 0,.nils],[.int .i64 2,.str [65],.int .i64 0,.nils]]]]],[.int .i64 2,.str [110],.int .i64 0,.nils]]]],.tup [.str [60,104,97,115,104,40,60,99,107,44,32,65,62,41,44,32,110,62],.int .i64 0]⟩
theorem ZkE:Y3 EI 100 60 Q6=true:=by kernel_rfl
def Zas:Fact:=⟨22,[.agg [.int .i64 3,.str [97,101,110,99],.int .i64 0,.sl .none 4 [[.int .i64 2,.str [110],.int .i64 0,.nils],[.int .i64 3,.str [112,107],.int .i64 0,.sl .none 4 [[.int .i64 3,.str [115,107],.int .i64 0,.sl .none 4 [[.int .i64 2,.str [66],.int .i64 0,.nils]]]]]]]],.tup [.str [97,101,110,99,40,110,44,32,112,107,40,115,107,40,66,41,41,41],.int .i64 0]⟩
theorem ZjU:Y3 EI 100 60 Zas=true:=by kernel_rfl
theorem UK {x:Fact} (h:Y3 EI 100 60 x=true):FactOk EI Tryz.prog x:=Va Ziy follows Zjm Zi8 h
theorem ZkC:∀ x∈ [ZaF,Q1,Zar,ZaA,Zav,Q7,Zax,ZaG,Q6,Zas],FactOk EI Tryz.prog x:=fun x hx=>by
 simp only [List.mem_cons,List.not_mem_nil,or_false] at hx
 rcases hx with rfl|rfl|rfl|rfl|rfl|rfl|rfl|rfl|rfl|rfl
 · exact UK ZjQ
 · exact UK Zkh
 · exact UK ZjW
 · exact UK ZjI
 · exact UK ZkG
 · exact UK ZkO
 · exact UK ZkT
 · exact UK Zj7
 · exact UK ZkE
 · exact UK ZjU
theorem Zbe:Y3 (VB [ZaF,Q1,Zar,ZaA,Zav,Q7,Zax,ZaG,Q6,Zas]) 100 60 ⟨5,[],.bool true⟩=true:=by kernel_rfl
theorem QT:FactOk E0 Tryz.prog ⟨5,[],.bool true⟩:=by
 have h:FactOk (VB [ZaF,Q1,Zar,ZaA,Zav,Q7,Zax,ZaG,Q6,Zas]) Tryz.prog ⟨5,[],.bool true⟩:=Va (E:=VB [ZaF,Q1,Zar,ZaA,Zav,Q7,Zax,ZaG,Q6,Zas]) ⟨Ziy.1,Ziy.2⟩ follows (ZeO Zjm) (ZaJ ZkC Zi8) Zbe
 exact h.env rfl
