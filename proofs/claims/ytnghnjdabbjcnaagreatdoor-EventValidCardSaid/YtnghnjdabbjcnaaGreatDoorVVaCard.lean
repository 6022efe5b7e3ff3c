/-
  The card of EventValid: for any list of moments the law returns true.
-/
import Derived.Test.YtnghnjdabbjcnaaGreatDoorVZi
import Derived.Test.YtnghnjdabbjcnaaGreatDoorVAw28
import Derived.Test.YtnghnjdabbjcnaaGreatDoorCards
import Derived.Test.YtnghnjdabbjcnaaGreatDoorTie
import Derived.ProofKit
import Derived.Stop.LaidErr
import Derived.Lib.LaidTab
import Derived.Shelf.Vars
import Derived.OpenShut
import Derived.Deep.DeepHandedRow
import Derived.Deep.DeepWitnessRowRef
import Derived.WideKeyArgs
import Derived.ChangeMaps5
namespace Go.Proofs.YtnghnjdabbjcnaaGreatDoor.eventValid
open Go.ChangeMaps Go.ChangeShapes Go.WideShapes Go.ChangeAt Go.RowKit Go.Vm Go.Vm.Seat
variable {k:Nat}
theorem own:ownKnob Tryz.prog.godebug=none:=by kernel_rfl
def cl:List TypeId:=[3,9,29,39,30,32,22]
theorem ZuO:∀t,t∈cl→ZqJ E0.T cl t=true:=by
 intro t ht;have h:cl.all (fun t=>ZqJ E0.T cl t)=true:=by kernel_rfl
 exact List.all_eq_true.1 h t ht
theorem e3:E0.T 3=some ⟨.int .i64,1,8,.int .i64 0⟩:=by kernel_rfl
theorem e9:E0.T 9=some ⟨.string,1,16,.str []⟩:=by kernel_rfl
theorem eSs:E0.T 29=some ⟨.slice 9,1,24,.nils⟩:=by kernel_rfl
theorem eT:E0.T 39=some ⟨.struct [(0,3),(1,9),(2,3),(3,30)],4,56,.agg [.int .i64 0,.str [],.int .i64 0,.nils]⟩:=by kernel_rfl
theorem eTs:E0.T 30=some ⟨.slice 39,1,24,.nils⟩:=by kernel_rfl
theorem eM:E0.T 32=some ⟨.struct [(0,3),(1,3),(2,3),(3,29),(4,3),(5,30)],6,80,.agg [.int .i64 0,.int .i64 0,.int .i64 0,.nils,.int .i64 0,.nils]⟩:=by kernel_rfl
theorem eMs:E0.T 22=some ⟨.slice 32,1,24,.nils⟩:=by kernel_rfl
theorem Zm5:laidOutB Tryz.prog=true:=by kernel_rfl
theorem ZoN: "*" ++ "errors.errorString" = "*errors.errorString" :=by decide
theorem ZlM (u:TypeId) (h:Tryz.prog.typeName? 3 u=some "*errors.errorString"):u=202:=
 typeName_ptr_named (nm:= "errors.errorString") (by rw[ZoN];kernel_rfl) (by kernel_rfl) (by decide) u (by rw[ZoN];exact h)
theorem Zrh {q:Value→Bool} (h:E0.I k=some q):(k=2∧q=Zeh)∨(k=3∧q=Zeh)∨(k=1∧q=ZhX):=by simp only[E0]at h;split at h;{rename_i hb;cases h;exact .inl ⟨Nat.eq_of_beq_eq_true hb,rfl⟩};{split at h;{rename_i hb;cases h;exact .inr (.inl ⟨Nat.eq_of_beq_eq_true hb,rfl⟩)};{split at h;{rename_i hb;cases h;exact .inr (.inr ⟨Nat.eq_of_beq_eq_true hb,rfl⟩)};{cases h}}}
theorem ZqY {cs:List PV} (h:E0.G k=some cs):(k=0∧cs=wordsC)∨(k=4∧cs=Zbj):=by simp only[E0]at h;split at h;{rename_i hb;cases h;exact .inl ⟨Nat.eq_of_beq_eq_true hb,rfl⟩};{split at h;{rename_i hb;cases h;exact .inr ⟨Nat.eq_of_beq_eq_true hb,rfl⟩};{cases h}}
theorem ZmZ {W:World} (h:laidMetH Tryz.prog Rows.eventValidRow.laid W) (hs:W.ShapedOpen Tryz.prog):GOk E0 (wG W):=by
 have h:laidMet Tryz.prog Rows.eventValidRow.laid W:=h;have h2:=h.tail.tail;have hT:Lib.TabIs Tryz.prog W "internal/strconv.uint64pow10" .u64 [1,10,100,1000,10000,100000,1000000,10000000,100000000,1000000000,10000000000,100000000000,1000000000000,10000000000000,100000000000000,1000000000000000,10000000000000000,100000000000000000,1000000000000000000,10000000000000000000]:=Lib.tabIs_of_head (g:=4) (t:=194) (e:=144) (n:=20) (by kernel_rfl) (by kernel_rfl) (by kernel_rfl) (by kernel_rfl) (by kernel_rfl) (by kernel_rfl) h2;have h4:=h2.tail.tail;obtain⟨a1,s1,v1, -⟩:=laid_sentinel (g:=3) (ti:=51) h4 (by kernel_rfl) (by kernel_rfl) Tryz.underlying51 ZlM Tryz.underlying202 Tryz.underlying204 rfl rfl Tryz.underlying9 (by kernel_rfl) (by kernel_rfl);obtain⟨a2,s2,v2, -⟩:=laid_sentinel (g:=2) (ti:=51) h4.tail (by kernel_rfl) (by kernel_rfl) Tryz.underlying51 ZlM Tryz.underlying202 Tryz.underlying204 rfl rfl Tryz.underlying9 (by kernel_rfl) (by kernel_rfl);obtain⟨mx,hmx⟩:=cell_of_shapedOpen_int (g:=1) (t:=3) (k:= .i64) (zero:= #[.int .i64 0]) hs (by decide) (by kernel_rfl) rfl (by kernel_rfl) (by kernel_rfl) Tryz.underlying3;have h6:=h4.tail.tail;obtain⟨ps,⟨g,t,cs,fuel,p,q,hg,ht,hv,hd, -, -⟩, -, -⟩:=h6;obtain rfl:g=0:=Option.some.inj (hg.symm.trans (show Tryz.prog.globalNamed "sealring/term.words" = some 0 by kernel_rfl));obtain rfl:t=29:=Option.some.inj (ht.symm.trans (show(Tryz.prog.globals[0]?).map (·.type)=some 29 by kernel_rfl));have hcs:∀j,j<cs.size→W.cell? ⟨0,j,none⟩=cs[j]? :=fun j hj=>by
  unfold World.var? at hv
  rw[hg]at hv
  simp only[Option.bind_some]at hv
  unfold World.cell?
  revert hv
  cases W.heap[0]? with
  | none=>intro hv;simp at hv
  | some o=>cases o<;>intro hv<;>simp at hv ⊢ <;> (try subst hv)<;>rfl
 cases fuel with
 |zero=>simp[DataW.trod]at hd
 |succ n=>
  have hw:=ZkH Tryz.underlying29 Tryz.underlying9 (by kernel_rfl) [[97,110,121],[97,103,101,110,116],[110,111,110,99,101],[107,101,121],[100,97,116,97],[116,97,103]] (by decide) hd;have hsz:cs.size=1:=by have:=hw.1;simpa using this
  refine⟨fun k cs' hk=>?_,fun h=>by simp[wG]at h,fun k q hk=>?_⟩
  ·rcases ZqY hk with⟨rfl,rfl⟩|⟨rfl,rfl⟩;{refine .fptr wordsC 0 0 0 (fun j=>cs.getD j undef) (fun j hj=>?_) (fun j hj=>?_);{(obtain rfl:j=0:=by simp[wordsC]at hj;omega);have:=hcs 0 (by omega);show wS W _ _=_;simp only[wS];rw[this];simp[Array.getD,hsz]};{(obtain rfl:j=0:=by simp[wordsC]at hj;omega);have:=hw.2 0 (by simp) (by simp;omega);show V0 (wS W) _ _;simp only[wordsC];simpa[Array.getD,hsz] using this}}
   ·refine .fptr Zbj 0 4 0 (fun j=>(W.cell? ⟨4,j,none⟩).getD undef) (fun j hj=>?_) (fun j hj=>?_);{(have hl:j<20:=by simpa[Zbj] using hj);show wS W 4 (0+j)=_;simp only[wS,Nat.zero_add];rw[hT.cell (by kernel_rfl) j (by simpa using hl)];rfl}
    ·(have hl:j<20:=by simpa[Zbj] using hj);rw[hT.cell (by kernel_rfl) j (by simpa using hl)];match j,hl with
     | 0,_|1,_|2,_|3,_|4,_|5,_|6,_|7,_|8,_|9,_|10,_|11,_|12,_|13,_|14,_|15,_|16,_|17,_|18,_|19,_=>exact .int _ _
     | n+20,h=>exact absurd h (by omega)
  {rcases Zrh hk with⟨rfl,rfl⟩|⟨rfl,rfl⟩|⟨rfl,rfl⟩;{exact⟨_,World.var?_cell (show Tryz.prog.globalNamed "strconv.ErrSyntax" = some 2 by kernel_rfl) v2 0,rfl⟩};{exact⟨_,World.var?_cell (show Tryz.prog.globalNamed "strconv.ErrRange" = some 3 by kernel_rfl) v1 0,rfl⟩};{exact⟨_,hmx,rfl⟩}}
set_option maxRecDepth 100000 in
theorem contract (H:Type) (enc:TypeId×Value→H) (W:World) (base:Nat) (args:Array Value) (ds gs:List (DataW H)) (before:List MemPlace) (hval:∀(j:Nat) t v,Tryz.f3.params[j]? = some t→args[j]? = some v→Value.okWide Tryz.prog W .any base t v) (hW:DataW.Whole enc Tryz.prog Tryz.f3.params.toList Rows.eventValidSpec.vars false W args.toList ds gs before) (hL:laidMetH Tryz.prog Rows.eventValidRow.laid W) (hS:W.ShapedOpen Tryz.prog):Calls Tryz.prog 3 args W fun e W'=>∃v,e= .returned v∧Rows.eventValidSpec.post enc Tryz.prog Tryz.f3 false true false false W args v W':=by
 have hG:=ZmZ hL hS;have hW':=hW;obtain⟨p,q,hA0,hV,rfl,hfz,hnd⟩:=hW;have hA:DataW.TrodAll enc Tryz.prog W 0 (fun _=>true) true Tryz.f3.params.toList args.toList ds p:=hA0;rw[Tryz.params3]at hA hval;obtain⟨v0,vs0,d0,ds0,p0,q0,hargs,rfl,rfl,h0,r0⟩:=trodAll_cons hA;obtain⟨rfl,rfl,rfl⟩:=trodAll_nil r0;obtain rfl:args= #[v0]:=by cases args;simp_all
 obtain⟨rfl,rfl⟩:=trodVars_none hV;have h0k:=h0;obtain⟨a0,n0,c0,rfl⟩:=okWide_slice Tryz.underlying22 (hval 0 22 v0 rfl rfl);obtain⟨fuel0,hf0⟩:=h0;obtain⟨pcs0,hsh0,hcells0⟩:=Zet tOk ZuO fuel0 22 _ _ (by simp[cl]) hf0;obtain⟨b0,l,rfl,hok⟩:=ZoJ e3 rfl rfl e9 rfl rfl eSs rfl rfl eT rfl rfl eTs rfl rfl eM rfl rfl eMs rfl hsh0;clear hA0;simp only[List.append_nil]at hW';have hlt0:∀x∈p0,x.block<W.heap.size:=fun x hx=>by simpa using hW'.lt x (by simp[hx])
 have call:=Zhj fe3.ok hG (c3 ZjI hok b0 hNil) (w:=W) (vals:= #[.slice a0 n0 c0]) ⟨rfl,fun i hi hj=>by
  match i,hi with
  | 0,_=>exact hcells0.2 0 (by simp) (by simp[Value.cells])⟩
 refine Calls.mono call fun e W' ⟨v,he,⟨g',hv⟩,hg,hsame⟩=>?_;obtain rfl:=hv.bool_inv;subst he;refine⟨_,rfl,Ziy (pa:=p0) (pv:=[]) hW' (fun _ _ _=>trodAll_cons_mk (shut_bool Tryz.underlying4 _) trodAll_mk0) (fun sp hsp=>?_) (fun _ _=>rfl) (by simp)
  (hg.frame _) hg.fz (ok_one (by kernel_rfl) rfl (okWide_bool_mk Tryz.underlying4 _))⟩
 have t0:=WideElems.Trod_stays (sp':=sp) (W':=W') Zm5 (by kernel_rfl) (of_decide_eq_true (by kernel_rfl)) h0k (fun x hx=>Zn0 hsame (hlt0 x hx)) (fun x hx=>hsp x (by simp[hx]));exact trodAll_mk1 t0
noncomputable def lay (c:Array Value):Obj→Obj
 | .cells _ t frozen=> .cells c t frozen
 |o=>o
noncomputable def Zay (os:Os):World:=
 { World.holding Tryz.prog os ⟨#[], #[], []⟩ with
   heap:=((((((((((((World.holding Tryz.prog os ⟨#[], #[],[]⟩).heap.modify 7 (lay #[.int .u8 0,.int .u8 1,.int .u8 28,.int .u8 2,.int .u8 29,.int .u8 14,.int .u8 24,.int .u8 3,.int .u8 30,.int .u8 22,.int .u8 20,.int .u8 15,.int .u8 25,.int .u8 17,.int .u8 4,.int .u8 8,.int .u8 31,.int .u8 27,.int .u8 13,.int .u8 23,.int .u8 21,.int .u8 19,.int .u8 16,.int .u8 7,.int .u8 26,.int .u8 12,.int .u8 18,.int .u8 6,.int .u8 11,.int .u8 5,.int .u8 10,.int .u8 9])).modify 8 (lay #[.int .u8 0,.int .u8 1,.int .u8 56,.int .u8 2,.int .u8 57,.int .u8 49,.int .u8 28,.int .u8 3,.int .u8 61,.int .u8 58,.int .u8 42,.int .u8 50,.int .u8 38,.int .u8 29,.int .u8 17,.int .u8 4,.int .u8 62,.int .u8 47,.int .u8 59,.int .u8 36,.int .u8 45,.int .u8 43,.int .u8 51,.int .u8 22,.int .u8 53,.int .u8 39,.int .u8 33,.int .u8 30,.int .u8 24,.int .u8 18,.int .u8 12,.int .u8 5,.int .u8 63,.int .u8 55,.int .u8 48,.int .u8 27,.int .u8 60,.int .u8 41,.int .u8 37,.int .u8 16,.int .u8 46,.int .u8 35,.int .u8 44,.int .u8 21,.int .u8 52,.int .u8 32,.int .u8 23,.int .u8 11,.int .u8 54,.int .u8 26,.int .u8 40,.int .u8 15,.int .u8 34,.int .u8 20,.int .u8 31,.int .u8 10,.int .u8 25,.int .u8 14,.int .u8 19,.int .u8 9,.int .u8 13,.int .u8 8,.int .u8 7,.int .u8 6])).modify 4 (lay #[.int .u64 1,.int .u64 10,.int .u64 100,.int .u64 1000,.int .u64 10000,.int .u64 100000,.int .u64 1000000,.int .u64 10000000,.int .u64 100000000,.int .u64 1000000000,.int .u64 10000000000,.int .u64 100000000000,.int .u64 1000000000000,.int .u64 10000000000000,.int .u64 100000000000000,.int .u64 1000000000000000,.int .u64 10000000000000000,.int .u64 100000000000000000,.int .u64 1000000000000000000,.int .u64 10000000000000000000])).modify 6 (lay #[.int .u8 128,.int .u8 191,.int .u8 160,.int .u8 191,.int .u8 128,.int .u8 159,.int .u8 144,.int .u8 191,.int .u8 128,.int .u8 143,.int .u8 0,.int .u8 0,.int .u8 0,.int .u8 0,.int .u8 0,.int .u8 0,.int .u8 0,.int .u8 0,.int .u8 0,.int .u8 0,.int .u8 0,.int .u8 0,.int .u8 0,.int .u8 0,.int .u8 0,.int .u8 0,.int .u8 0,.int .u8 0,.int .u8 0,.int .u8 0,.int .u8 0,.int .u8 0])).modify 3 (lay #[.iface 202 (.pointer (some ⟨(World.holding Tryz.prog os ⟨#[], #[],[]⟩).heap.size+0,0,none⟩))])).modify 2 (lay #[.iface 202 (.pointer (some ⟨(World.holding Tryz.prog os ⟨#[], #[],[]⟩).heap.size+1,0,none⟩))])).modify 0 (lay #[.slice (some ⟨(World.holding Tryz.prog os ⟨#[], #[],[]⟩).heap.size+2,0,none⟩) 6 6])).modify 5 (lay ((Pinned.utf8FirstZ.map fun n=>Value.int .u8 (Int.ofNat n)).toArray))).push (.cells #[.string ⟨#[118,97,108,117,101,32,111,117,116,32,111,102,32,114,97,110,103,101]⟩] 204 (0,0))).push (.cells #[.string ⟨#[105,110,118,97,108,105,100,32,115,121,110,116,97,120]⟩] 204 (0,0))).push (.cells #[.string ⟨#[97,110,121]⟩,.string ⟨#[97,103,101,110,116]⟩,.string ⟨#[110,111,110,99,101]⟩,.string ⟨#[107,101,121]⟩,.string ⟨#[100,97,116,97]⟩,.string ⟨#[116,97,103]⟩] 9 (0,0)))}
def wit:Array Value:= #[.slice none 0 0]
theorem ZkA (os:Os):laidMet Tryz.prog Rows.eventValidRow.laid ((Zay os).forCall (fun _ _=>0) ⟨#[],wit,[]⟩).memory:=
 laidMet_of_run' 8 (by kernel_rfl) (by kernel_rfl)
theorem Zsj (os:Os) {H:Type} (enc:TypeId×Value→H):∃places,DataW.whole enc Tryz.prog ((Zay os).forCall (fun _ _=>0) ⟨#[],wit,[]⟩).memory Tryz.f3.params.toList Rows.eventValidSpec.vars false wit.toList 8=some ([.nil],[],places):=
 ⟨[],by kernel_rfl⟩
set_option maxRecDepth 100000 in
theorem lifted (os:Os) (started:os.Started) (H:Type) (enc:TypeId×Value→H) (F:Stop.Interp):ReturnsInHanded {} Tryz.checked os 3 .any ((OpenSpec.ofChange Rows.eventValidSpec).preRow enc Tryz.prog Tryz.f3 Rows.eventValidRow.domain false Rows.eventValidRow.laid) (((OpenSpec.ofChange Rows.eventValidSpec).at F).post enc Tryz.prog Tryz.f3 false true false false):=by
 obtain⟨places,hx⟩:=Zsj os enc;refine returnsInHanded_of_row (C:=Tryz.checked) (s:=OpenSpec.ofChange Rows.eventValidSpec) own started (by kernel_rfl) Tryz.func3
  (witness_row_atRef (enc := enc) (C := Tryz.checked) false (Zay os) wit rfl (by kernel_rfl) (by kernel_rfl) (by kernel_rfl)
    (OpenSpec.preRow_of_cond 8 hx (by kernel_rfl) (fun k hk=>by cases hk) (by kernel_rfl) (ZkA os))) ?_
 intro W base args ds gs before hval hW x1 x2 x3 x4 x5 x6;exact contract H enc W base args ds gs before hval hW x4 x5
theorem said:Rows.EventValidSaid:=
 OpenClaim.holds_of_cond 3 Tryz.f3 rfl rfl rfl rfl rfl rfl rfl ⟨rfl,rfl,rfl,rfl,rfl⟩ rfl rfl rfl rfl rfl (by kernel_rfl) Tryz.func3 (by kernel_rfl)
  (of_decide_eq_true (by kernel_rfl)) (by unfold Func.isWrapper;first|(rw[if_pos (by decide +kernel)];kernel_rfl)|(rw[if_neg (by decide +kernel)];exact⟨rfl,rfl⟩))
  (fun os started H enc _ F=>by rw[OpenClaim.pre_eq_preRow];exact lifted os started H enc F)
theorem plain (f:FuncId) (fn:Func) (hf:Tryz.pinned.checked.prog.funcNamed "sealring/sealringlaw28.EventValid" = some f) (hfn:Tryz.pinned.checked.prog.funcs[f]? = some fn) :
  true=Tryz.pinned.checked.prog.looks []∧∀(j:Nat) t,fn.params[j]? = some t→Tryz.pinned.checked.prog.wantsStandIn t=false:=by
 obtain rfl:f=3:=Option.some.inj ((show Tryz.prog.funcNamed "sealring/sealringlaw28.EventValid" = some 3 by kernel_rfl).symm.trans hf) |>.symm
 obtain rfl:fn=Tryz.f3:=(Option.some.inj (Tryz.func3.symm.trans hfn)).symm
 refine⟨by kernel_rfl,fun j t ht=>?_⟩
 rw[Tryz.params3]at ht
 match j,ht with
 | 0, ht => obtain rfl : 22 = t := by simpa using ht
            exact(show Tryz.prog.wantsStandIn 22=false by kernel_rfl)
theorem card:Rows.EventValidCardSaid:=
 Claim7.holds_tied_plain_at .later [] _ _ _ _ said (fun _ h=>by cases h) (by kernel_rfl) (fun _ h=>by cases h) eventValid_row_tie rfl ⟨rfl,rfl⟩ (by kernel_rfl) rfl plain (by kernel_rfl)
