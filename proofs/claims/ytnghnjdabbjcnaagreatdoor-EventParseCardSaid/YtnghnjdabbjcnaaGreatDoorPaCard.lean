/-
  The card of EventParse: for any text the law returns true.
-/
import Derived.Test.YtnghnjdabbjcnaaGreatDoorYw
import Derived.Test.YtnghnjdabbjcnaaGreatDoorAw28
import Derived.Test.YtnghnjdabbjcnaaGreatDoorCards
import Derived.Test.YtnghnjdabbjcnaaGreatDoorTie
import Derived.ProofKit
import Derived.Stop.LaidErr
import Derived.Lib.LaidTab
import Derived.Shelf.Vars
import Derived.OpenShut
import Derived.Deep.DeepHandedRow
import Derived.Deep.DeepWitnessRowRef
import Derived.WideKeyArgs
import Derived.ChangeMaps5
namespace Go.Proofs.YtnghnjdabbjcnaaGreatDoor.eventParse
open Go.ChangeMaps Go.ChangeShapes Go.WideShapes Go.ChangeAt Go.RowKit Go.Vm Go.Vm.Seat
variable {k:Nat}
theorem own:ownKnob Tryz.prog.godebug=none:=by kernel_rfl
theorem ZnB:laidOutB Tryz.prog=true:=by kernel_rfl
theorem Zqn: "*" ++ "errors.errorString" = "*errors.errorString" :=by decide
theorem ZmF (u:TypeId) (h:Tryz.prog.typeName? 3 u=some "*errors.errorString"):u=202:=
 typeName_ptr_named (nm:= "errors.errorString") (by rw[Zqn];kernel_rfl) (by kernel_rfl) (by decide) u (by rw[Zqn];exact h)
theorem Zsd {q:Value→Bool} (h:E0.I k=some q):(k=2∧q=Zfa)∨(k=3∧q=Zfa)∨(k=1∧q=Zjr):=by simp only[E0]at h;split at h;{rename_i hb;cases h;exact .inl ⟨Nat.eq_of_beq_eq_true hb,rfl⟩};{split at h;{rename_i hb;cases h;exact .inr (.inl ⟨Nat.eq_of_beq_eq_true hb,rfl⟩)};{split at h;{rename_i hb;cases h;exact .inr (.inr ⟨Nat.eq_of_beq_eq_true hb,rfl⟩)};{cases h}}}
theorem Zs1 {cs:List PV} (h:E0.G k=some cs):(k=0∧cs=wordsC)∨(k=4∧cs=ZbK):=by simp only[E0]at h;split at h;{rename_i hb;cases h;exact .inl ⟨Nat.eq_of_beq_eq_true hb,rfl⟩};{split at h;{rename_i hb;cases h;exact .inr ⟨Nat.eq_of_beq_eq_true hb,rfl⟩};{cases h}}
theorem Zom {W:World} (h:laidMetH Tryz.prog Rows.eventParseRow.laid W) (hs:W.ShapedOpen Tryz.prog):GOk E0 (wG W):=by
 have h:laidMet Tryz.prog Rows.eventParseRow.laid W:=h;have h2:=h.tail.tail;have hT:Lib.TabIs Tryz.prog W "internal/strconv.uint64pow10" .u64 [1,10,100,1000,10000,100000,1000000,10000000,100000000,1000000000,10000000000,100000000000,1000000000000,10000000000000,100000000000000,1000000000000000,10000000000000000,100000000000000000,1000000000000000000,10000000000000000000]:=Lib.tabIs_of_head (g:=4) (t:=194) (e:=144) (n:=20) (by kernel_rfl) (by kernel_rfl) (by kernel_rfl) (by kernel_rfl) (by kernel_rfl) (by kernel_rfl) h2;have h4:=h2.tail.tail;obtain⟨a1,s1,v1, -⟩:=laid_sentinel (g:=3) (ti:=51) h4 (by kernel_rfl) (by kernel_rfl) Tryz.underlying51 ZmF Tryz.underlying202 Tryz.underlying204 rfl rfl Tryz.underlying9 (by kernel_rfl) (by kernel_rfl);obtain⟨a2,s2,v2, -⟩:=laid_sentinel (g:=2) (ti:=51) h4.tail (by kernel_rfl) (by kernel_rfl) Tryz.underlying51 ZmF Tryz.underlying202 Tryz.underlying204 rfl rfl Tryz.underlying9 (by kernel_rfl) (by kernel_rfl);obtain⟨mx,hmx⟩:=cell_of_shapedOpen_int (g:=1) (t:=3) (k:= .i64) (zero:= #[.int .i64 0]) hs (by decide) (by kernel_rfl) rfl (by kernel_rfl) (by kernel_rfl) Tryz.underlying3;have h6:=h4.tail.tail;obtain⟨ps,⟨g,t,cs,fuel,p,q,hg,ht,hv,hd, -, -⟩, -, -⟩:=h6;obtain rfl:g=0:=Option.some.inj (hg.symm.trans (show Tryz.prog.globalNamed "sealring/term.words" = some 0 by kernel_rfl));obtain rfl:t=29:=Option.some.inj (ht.symm.trans (show(Tryz.prog.globals[0]?).map (·.type)=some 29 by kernel_rfl));have hcs:∀j,j<cs.size→W.cell? ⟨0,j,none⟩=cs[j]? :=fun j hj=>by
  unfold World.var? at hv
  rw[hg]at hv
  simp only[Option.bind_some]at hv
  unfold World.cell?
  revert hv
  cases W.heap[0]? with
  | none=>intro hv;simp at hv
  | some o=>cases o<;>intro hv<;>simp at hv ⊢ <;> (try subst hv)<;>rfl
 cases fuel with
 |zero=>simp[DataW.trod]at hd
 |succ n=>
  have hw:=Zl0 Tryz.underlying29 Tryz.underlying9 (by kernel_rfl) [[97,110,121],[97,103,101,110,116],[110,111,110,99,101],[107,101,121],[100,97,116,97],[116,97,103]] (by decide) hd;have hsz:cs.size=1:=by have:=hw.1;simpa using this
  refine⟨fun k cs' hk=>?_,fun h=>by simp[wG]at h,fun k q hk=>?_⟩
  ·rcases Zs1 hk with⟨rfl,rfl⟩|⟨rfl,rfl⟩;{refine .fptr wordsC 0 0 0 (fun j=>cs.getD j undef) (fun j hj=>?_) (fun j hj=>?_);{(obtain rfl:j=0:=by simp[wordsC]at hj;omega);have:=hcs 0 (by omega);show wS W _ _=_;simp only[wS];rw[this];simp[Array.getD,hsz]};{(obtain rfl:j=0:=by simp[wordsC]at hj;omega);have:=hw.2 0 (by simp) (by simp;omega);show V0 (wS W) _ _;simp only[wordsC];simpa[Array.getD,hsz] using this}}
   ·refine .fptr ZbK 0 4 0 (fun j=>(W.cell? ⟨4,j,none⟩).getD undef) (fun j hj=>?_) (fun j hj=>?_);{(have hl:j<20:=by simpa[ZbK] using hj);show wS W 4 (0+j)=_;simp only[wS,Nat.zero_add];rw[hT.cell (by kernel_rfl) j (by simpa using hl)];rfl}
    ·(have hl:j<20:=by simpa[ZbK] using hj);rw[hT.cell (by kernel_rfl) j (by simpa using hl)];match j,hl with
     | 0,_|1,_|2,_|3,_|4,_|5,_|6,_|7,_|8,_|9,_|10,_|11,_|12,_|13,_|14,_|15,_|16,_|17,_|18,_|19,_=>exact .int _ _
     | n+20,h=>exact absurd h (by omega)
  {rcases Zsd hk with⟨rfl,rfl⟩|⟨rfl,rfl⟩|⟨rfl,rfl⟩;{exact⟨_,World.var?_cell (show Tryz.prog.globalNamed "strconv.ErrSyntax" = some 2 by kernel_rfl) v2 0,rfl⟩};{exact⟨_,World.var?_cell (show Tryz.prog.globalNamed "strconv.ErrRange" = some 3 by kernel_rfl) v1 0,rfl⟩};{exact⟨_,hmx,rfl⟩}}
set_option maxRecDepth 100000 in
theorem contract (H:Type) (enc:TypeId×Value→H) (W:World) (base:Nat) (args:Array Value) (ds gs:List (DataW H)) (before:List MemPlace) (hval:∀(j:Nat) t v,Tryz.f4.params[j]? = some t→args[j]? = some v→Value.okWide Tryz.prog W .any base t v) (hW:DataW.Whole enc Tryz.prog Tryz.f4.params.toList Rows.eventParseSpec.vars false W args.toList ds gs before) (hL:laidMetH Tryz.prog Rows.eventParseRow.laid W) (hS:W.ShapedOpen Tryz.prog):Calls Tryz.prog 4 args W fun e W'=>∃v,e= .returned v∧Rows.eventParseSpec.post enc Tryz.prog Tryz.f4 false true false false W args v W':=by
 have hG:=Zom hL hS;have hW':=hW;obtain⟨p,q,hA0,hV,rfl,hfz,hnd⟩:=hW;have hA:DataW.TrodAll enc Tryz.prog W 0 (fun _=>true) true Tryz.f4.params.toList args.toList ds p:=hA0;rw[Tryz.params4]at hA hval;obtain⟨v0,vs0,d0,ds0,p0,q0,hargs,rfl,rfl,h0,r0⟩:=trodAll_cons hA;obtain⟨rfl,rfl,rfl⟩:=trodAll_nil r0;obtain rfl:args= #[v0]:=by cases args;simp_all
 obtain⟨rfl,rfl⟩:=trodVars_none hV;have h0k:=h0;obtain⟨s0,rfl,rfl,rfl, -⟩:=open_string Tryz.underlying9 (hval 0 9 v0 rfl rfl) h0;clear hA0;simp only[List.append_nil]at hW';have call:=ZiD fe4.ok hG (c4 Zjt s0.data.toList hNil) (w:=W) (vals:= #[.string s0]) ⟨rfl,fun i hi hj=>by
  match i,hi with
  | 0,_=>exact .str _ s0 rfl⟩
 refine Calls.mono call fun e W' ⟨v,he,⟨g',hv⟩,hg,hsame⟩=>?_;obtain rfl:=hv.bool_inv;subst he;refine⟨_,rfl,Zks (pa:=[]) (pv:=[]) hW' (fun _ _ _=>trodAll_cons_mk (shut_bool Tryz.underlying4 _) trodAll_mk0) (fun sp hsp=>?_) (fun _ _=>rfl) (by simp)
  (hg.frame _) hg.fz (ok_one (by kernel_rfl) rfl (okWide_bool_mk Tryz.underlying4 _))⟩
 have t0:=WideElems.Trod_stays (sp':=sp) (W':=W') ZnB (by kernel_rfl) (of_decide_eq_true (by kernel_rfl)) h0k (fun x hx=>absurd hx (by simp)) (fun x hx=>absurd hx (by simp));exact trodAll_mk1 t0
noncomputable def lay (c:Array Value):Obj→Obj
 | .cells _ t frozen=> .cells c t frozen
 |o=>o
noncomputable def Zas (os:Os):World:=
 { World.holding Tryz.prog os ⟨#[], #[], []⟩ with
   heap:=((((((((((((World.holding Tryz.prog os ⟨#[], #[],[]⟩).heap.modify 7 (lay #[.int .u8 0,.int .u8 1,.int .u8 28,.int .u8 2,.int .u8 29,.int .u8 14,.int .u8 24,.int .u8 3,.int .u8 30,.int .u8 22,.int .u8 20,.int .u8 15,.int .u8 25,.int .u8 17,.int .u8 4,.int .u8 8,.int .u8 31,.int .u8 27,.int .u8 13,.int .u8 23,.int .u8 21,.int .u8 19,.int .u8 16,.int .u8 7,.int .u8 26,.int .u8 12,.int .u8 18,.int .u8 6,.int .u8 11,.int .u8 5,.int .u8 10,.int .u8 9])).modify 8 (lay #[.int .u8 0,.int .u8 1,.int .u8 56,.int .u8 2,.int .u8 57,.int .u8 49,.int .u8 28,.int .u8 3,.int .u8 61,.int .u8 58,.int .u8 42,.int .u8 50,.int .u8 38,.int .u8 29,.int .u8 17,.int .u8 4,.int .u8 62,.int .u8 47,.int .u8 59,.int .u8 36,.int .u8 45,.int .u8 43,.int .u8 51,.int .u8 22,.int .u8 53,.int .u8 39,.int .u8 33,.int .u8 30,.int .u8 24,.int .u8 18,.int .u8 12,.int .u8 5,.int .u8 63,.int .u8 55,.int .u8 48,.int .u8 27,.int .u8 60,.int .u8 41,.int .u8 37,.int .u8 16,.int .u8 46,.int .u8 35,.int .u8 44,.int .u8 21,.int .u8 52,.int .u8 32,.int .u8 23,.int .u8 11,.int .u8 54,.int .u8 26,.int .u8 40,.int .u8 15,.int .u8 34,.int .u8 20,.int .u8 31,.int .u8 10,.int .u8 25,.int .u8 14,.int .u8 19,.int .u8 9,.int .u8 13,.int .u8 8,.int .u8 7,.int .u8 6])).modify 4 (lay #[.int .u64 1,.int .u64 10,.int .u64 100,.int .u64 1000,.int .u64 10000,.int .u64 100000,.int .u64 1000000,.int .u64 10000000,.int .u64 100000000,.int .u64 1000000000,.int .u64 10000000000,.int .u64 100000000000,.int .u64 1000000000000,.int .u64 10000000000000,.int .u64 100000000000000,.int .u64 1000000000000000,.int .u64 10000000000000000,.int .u64 100000000000000000,.int .u64 1000000000000000000,.int .u64 10000000000000000000])).modify 6 (lay #[.int .u8 128,.int .u8 191,.int .u8 160,.int .u8 191,.int .u8 128,.int .u8 159,.int .u8 144,.int .u8 191,.int .u8 128,.int .u8 143,.int .u8 0,.int .u8 0,.int .u8 0,.int .u8 0,.int .u8 0,.int .u8 0,.int .u8 0,.int .u8 0,.int .u8 0,.int .u8 0,.int .u8 0,.int .u8 0,.int .u8 0,.int .u8 0,.int .u8 0,.int .u8 0,.int .u8 0,.int .u8 0,.int .u8 0,.int .u8 0,.int .u8 0,.int .u8 0])).modify 3 (lay #[.iface 202 (.pointer (some ⟨(World.holding Tryz.prog os ⟨#[], #[],[]⟩).heap.size+0,0,none⟩))])).modify 2 (lay #[.iface 202 (.pointer (some ⟨(World.holding Tryz.prog os ⟨#[], #[],[]⟩).heap.size+1,0,none⟩))])).modify 0 (lay #[.slice (some ⟨(World.holding Tryz.prog os ⟨#[], #[],[]⟩).heap.size+2,0,none⟩) 6 6])).modify 5 (lay ((Pinned.utf8FirstZ.map fun n=>Value.int .u8 (Int.ofNat n)).toArray))).push (.cells #[.string ⟨#[118,97,108,117,101,32,111,117,116,32,111,102,32,114,97,110,103,101]⟩] 204 (0,0))).push (.cells #[.string ⟨#[105,110,118,97,108,105,100,32,115,121,110,116,97,120]⟩] 204 (0,0))).push (.cells #[.string ⟨#[97,110,121]⟩,.string ⟨#[97,103,101,110,116]⟩,.string ⟨#[110,111,110,99,101]⟩,.string ⟨#[107,101,121]⟩,.string ⟨#[100,97,116,97]⟩,.string ⟨#[116,97,103]⟩] 9 (0,0)))}
def wit:Array Value:= #[.string ⟨#[]⟩]
theorem Zle (os:Os):laidMet Tryz.prog Rows.eventParseRow.laid ((Zas os).forCall (fun _ _=>0) ⟨#[],wit,[]⟩).memory:=
 laidMet_of_run' 8 (by kernel_rfl) (by kernel_rfl)
theorem Zsl (os:Os) {H:Type} (enc:TypeId×Value→H):∃places,DataW.whole enc Tryz.prog ((Zas os).forCall (fun _ _=>0) ⟨#[],wit,[]⟩).memory Tryz.f4.params.toList Rows.eventParseSpec.vars false wit.toList 8=some ([.lit (.string [])],[],places):=
 ⟨[],by kernel_rfl⟩
set_option maxRecDepth 100000 in
theorem lifted (os:Os) (started:os.Started) (H:Type) (enc:TypeId×Value→H) (F:Stop.Interp):ReturnsInHanded {} Tryz.checked os 4 .any ((OpenSpec.ofChange Rows.eventParseSpec).preRow enc Tryz.prog Tryz.f4 Rows.eventParseRow.domain false Rows.eventParseRow.laid) (((OpenSpec.ofChange Rows.eventParseSpec).at F).post enc Tryz.prog Tryz.f4 false true false false):=by
 obtain⟨places,hx⟩:=Zsl os enc;refine returnsInHanded_of_row (C:=Tryz.checked) (s:=OpenSpec.ofChange Rows.eventParseSpec) own started (by kernel_rfl) Tryz.func4
  (witness_row_atRef (enc := enc) (C := Tryz.checked) false (Zas os) wit rfl (by kernel_rfl) (by kernel_rfl) (by kernel_rfl)
    (OpenSpec.preRow_of_cond 8 hx (by kernel_rfl) (fun k hk=>by cases hk) (by kernel_rfl) (Zle os))) ?_
 intro W base args ds gs before hval hW x1 x2 x3 x4 x5 x6;exact contract H enc W base args ds gs before hval hW x4 x5
theorem said:Rows.EventParseSaid:=
 OpenClaim.holds_of_cond 4 Tryz.f4 rfl rfl rfl rfl rfl rfl rfl ⟨rfl,rfl,rfl,rfl,rfl⟩ rfl rfl rfl rfl rfl (by kernel_rfl) Tryz.func4 (by kernel_rfl)
  (of_decide_eq_true (by kernel_rfl)) (by unfold Func.isWrapper;first|(rw[if_pos (by decide +kernel)];kernel_rfl)|(rw[if_neg (by decide +kernel)];exact⟨rfl,rfl⟩))
  (fun os started H enc _ F=>by rw[OpenClaim.pre_eq_preRow];exact lifted os started H enc F)
theorem plain (f:FuncId) (fn:Func) (hf:Tryz.pinned.checked.prog.funcNamed "sealring/sealringlaw28.EventParse" = some f) (hfn:Tryz.pinned.checked.prog.funcs[f]? = some fn) :
  true=Tryz.pinned.checked.prog.looks []∧∀(j:Nat) t,fn.params[j]? = some t→Tryz.pinned.checked.prog.wantsStandIn t=false:=by
 obtain rfl:f=4:=Option.some.inj ((show Tryz.prog.funcNamed "sealring/sealringlaw28.EventParse" = some 4 by kernel_rfl).symm.trans hf) |>.symm
 obtain rfl:fn=Tryz.f4:=(Option.some.inj (Tryz.func4.symm.trans hfn)).symm
 refine⟨by kernel_rfl,fun j t ht=>?_⟩
 rw[Tryz.params4]at ht
 match j,ht with
 | 0, ht => obtain rfl : 9 = t := by simpa using ht
            exact(show Tryz.prog.wantsStandIn 9=false by kernel_rfl)
theorem card:Rows.EventParseCardSaid:=
 Claim7.holds_tied_plain_at .later [] _ _ _ _ said (fun _ h=>by cases h) (by kernel_rfl) (fun _ h=>by cases h) eventParse_row_tie rfl ⟨rfl,rfl⟩ (by kernel_rfl) rfl plain (by kernel_rfl)
