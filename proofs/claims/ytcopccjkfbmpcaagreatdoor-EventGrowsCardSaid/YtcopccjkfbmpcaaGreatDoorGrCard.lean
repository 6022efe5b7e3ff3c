/-
  The card of EventGrows: for any lists of bytes and any byte the law returns true
-/
import Derived.Test.YtcopccjkfbmpcaaGreatDoorRo
import Derived.Test.YtcopccjkfbmpcaaGreatDoorAw28
import Derived.Test.YtcopccjkfbmpcaaGreatDoorCards
import Derived.Test.YtcopccjkfbmpcaaGreatDoorTie
import Derived.ProofKit
import Derived.OpenShut
import Derived.Deep.DeepHandedRow
import Derived.Deep.DeepWitnessRowRef
import Derived.WideKeyArgs
namespace Go.Proofs.YtcopccjkfbmpcaaGreatDoor.eventGrows
open Go.ChangeShapes Go.WideShapes Go.ChangeAt Go.RowKit Go.Vm Go.Vm.Seat
variable {cs:List PV}
theorem own:ownKnob Tryz.prog.godebug=none:=by kernel_rfl
def cl:List TypeId:=[5,40,38]
theorem ZvT:∀ t,t∈cl→ZrB E0.T cl t=true:=by
 intro t ht
 have h:cl.all (fun t=>ZrB E0.T cl t)=true:=by kernel_rfl
 exact List.all_eq_true.1 h t ht
theorem e5:E0.T 5=some ⟨.int .u8,1,1,.int .u8 0⟩:=by kernel_rfl
theorem eB:E0.T 40=some ⟨.slice 5,1,24,.nils⟩:=by kernel_rfl
theorem eBs:E0.T 38=some ⟨.slice 40,1,24,.nils⟩:=by kernel_rfl
theorem ZnQ {n:Int} (h:(Lit.int .u8 n).wf=true):∃ k:Nat,n=(k:Int)∧k<256:=by
 have h:(decide ((0:Int)≤n)&&decide (n≤(255:Int)))=true:=h
 simp only [Bool.and_eq_true,decide_eq_true_eq] at h
 exact ⟨n.toNat,by omega,by omega⟩
theorem ZqN:∀ (el:List (List PV)),(∀ c,c∈el→∃ k:Nat,c= [.int .u8 (k:Int)]∧k<256)→∃ l:List Nat,el=byC l∧∀ y,y∈l→y<256
 | [],_=>⟨[],rfl,fun _ h=>absurd h (by simp)⟩
 | c :: r, h => by
   obtain ⟨x,hx,ho⟩:=h c List.mem_cons_self
   obtain ⟨l,hl,hlo⟩:=ZqN r fun c hc=>h c (List.mem_cons_of_mem _ hc)
   refine ⟨x::l,by simp only [byC,List.map_cons] at hl ⊢;rw [hx,hl],fun u hu=>?_⟩
   rcases List.mem_cons.1 hu with rfl|hu
   · exact ho
   · exact hlo u hu
theorem Zqj:∀ (el:List (List PV)),(∀ c,c∈el→∃ b,∃ l:List Nat,c= [slV b 1 (byC l)]∧∀ y,y∈l→y<256)→∃ d:List (Bool×List Nat),el=dlC d∧∀ x,x∈d→∀ y,y∈x.2→y<256
 | [],_=>⟨[],rfl,fun _ h=>absurd h (by simp)⟩
 | c :: r, h => by
   obtain ⟨b,x,hx,ho⟩:=h c List.mem_cons_self
   obtain ⟨d,hl,hlo⟩:=Zqj r fun c hc=>h c (List.mem_cons_of_mem _ hc)
   refine ⟨(b,x)::d,by simp only [dlC,List.map_cons] at hl ⊢;rw [hx,hl],fun u hu=>?_⟩
   rcases List.mem_cons.1 hu with rfl|hu
   · exact ho
   · exact hlo u hu
theorem ZsD (h:Sh E0.T 40 cs):∃ b,∃ l:List Nat,cs= [slV b 1 (byC l)]∧∀ y,y∈l→y<256:=by
 cases h with
 |bool h' hk'=>rw [eB] at h';cases h';cases hk'
 |int h' hk'=>rw [eB] at h';cases h';cases hk'
 |str h' hk'=>rw [eB] at h';cases h';cases hk'
 |nils h' hk'=>exact ⟨true,[],by rw [show byC []= [] from rfl,Zg],fun _ h=>absurd h (by simp)⟩
 | sl h' hk' he hl hel =>
   rw [eB] at h';cases h';cases hk'
   rw [e5] at he;cases he
   obtain ⟨l,rfl,ho⟩:=ZqN _ fun c hc=>by
    obtain ⟨n,rfl,w⟩:=ZqF (hel c hc) e5 rfl
    obtain ⟨k,rfl,hk⟩:=ZnQ w
    exact ⟨k,rfl,hk⟩
   exact ⟨false,l,by rw [Yb],ho⟩
 |struct h' hk'=>rw [eB] at h';cases h';cases hk'
theorem ZsG (h:Sh E0.T 38 cs):∃ b,∃ d:List (Bool×List Nat),cs= [slV b 1 (dlC d)]∧∀ x,x∈d→∀ y,y∈x.2→y<256:=by
 cases h with
 |bool h' hk'=>rw [eBs] at h';cases h';cases hk'
 |int h' hk'=>rw [eBs] at h';cases h';cases hk'
 |str h' hk'=>rw [eBs] at h';cases h';cases hk'
 |nils h' hk'=>exact ⟨true,[],by rw [show dlC []= [] from rfl,Zg],fun _ h=>absurd h (by simp)⟩
 | sl h' hk' he hl hel =>
   rw [eBs] at h';cases h';cases hk'
   rw [eB] at he;cases he
   obtain ⟨d,rfl,ho⟩:=Zqj _ fun c hc=>ZsD (hel c hc)
   exact ⟨false,d,by rw [Yb],ho⟩
 |struct h' hk'=>rw [eBs] at h';cases h';cases hk'
theorem ZhP:laidOutB Tryz.prog=true:=by kernel_rfl
theorem Zn8 {W:World} (h:laidMetH Tryz.prog Rows.eventGrowsRow.laid W):GOk E0 (wG W):=by
 have h:laidMet Tryz.prog Rows.eventGrowsRow.laid W:=h
 obtain ⟨ps,⟨_,_,_,_,_,_, -, -, -, -,⟨_,_,_,_,_,_, -, -, -, -,⟨_,_,_,_,_,_, -, -, -, -,⟨g,t,cs,fuel,p,q,hg,ht,hv,hd, -, -⟩, -⟩, -⟩, -⟩, -, -⟩:=h
 obtain rfl:g=1:=Option.some.inj (hg.symm.trans (show Tryz.prog.globalNamed "sealring/term.words" = some 1 by kernel_rfl))
 obtain rfl:t=22:=Option.some.inj (ht.symm.trans (show (Tryz.prog.globals[1]?).map (·.type)=some 22 by kernel_rfl))
 have hcs:∀ j,j<cs.size→W.cell? ⟨1,j,none⟩=cs[j]? :=fun j hj=>by
  unfold World.var? at hv
  rw [hg] at hv
  simp only [Option.bind_some] at hv
  unfold World.cell?
  revert hv
  cases W.heap[1]? with
  | none=>intro hv;simp at hv
  | some o=>cases o<;>intro hv<;>simp at hv ⊢ <;> (try subst hv)<;>rfl
 cases fuel with
 |zero=>simp [DataW.trod] at hd
 | succ n =>
   have hw:=Zmb Tryz.underlying22 Tryz.underlying9 (by kernel_rfl) [[97,110,121],[97,103,101,110,116],[110,111,110,99,101],[107,101,121],[100,97,116,97],[116,97,103]] (by decide) hd
   have hsz:cs.size=1:=by have:=hw.1;simpa using this
   refine ⟨fun k cs' hk=>?_,fun h=>by simp [wG] at h,fun k hk=>by simp [E0] at hk⟩
   simp only [E0] at hk
   split at hk
   · rename_i hb
     obtain rfl:=Nat.eq_of_beq_eq_true hb
     cases hk
     refine .fptr wordsC 0 1 0 (fun j=>cs.getD j undef) (fun j hj=>?_) (fun j hj=>?_)
     · obtain rfl : j = 0 := by simp [wordsC] at hj; omega
       have:=hcs 0 (by omega)
       show wS W _ _=_
       simp only [wS]
       rw [this]
       simp [Array.getD,hsz]
     · obtain rfl : j = 0 := by simp [wordsC] at hj; omega
       have:=hw.2 0 (by simp) (by simp;omega)
       show V0 (wS W) _ _
       simp only [wordsC]
       simpa [Array.getD,hsz] using this
   · cases hk
set_option maxRecDepth 100000 in
theorem contract (H : Type) (enc : TypeId × Value → H) (W : World) (base : Nat) (args : Array Value) (ds gs : List (DataW H)) (before : List MemPlace)
  (hval:∀ (j:Nat) t v,Tryz.f4.params[j]? = some t→args[j]? = some v→Value.okWide Tryz.prog W .any base t v)
  (hW:DataW.Whole enc Tryz.prog Tryz.f4.params.toList Rows.eventGrowsSpec.vars false W args.toList ds gs before) (hL:laidMetH Tryz.prog Rows.eventGrowsRow.laid W) :
  Calls Tryz.prog 4 args W fun e W'=>∃ v,e= .returned v∧Rows.eventGrowsSpec.post enc Tryz.prog Tryz.f4 false true false false W args v W':=by
 have hG:=Zn8 hL
 have hW':=hW
 obtain ⟨p,q,hA0,hV,rfl,hfz,hnd⟩:=hW
 have hA:DataW.TrodAll enc Tryz.prog W 0 (fun _=>true) true Tryz.f4.params.toList args.toList ds p:=hA0
 rw [Tryz.params4] at hA hval
 obtain ⟨v0,vs0,d0,ds0,p0,q0,hargs,rfl,rfl,h0,r0⟩:=trodAll_cons hA
 obtain ⟨v1,vs1,d1,ds1,p1,q1,hargs1,rfl,rfl,h1,r1⟩:=trodAll_cons r0
 obtain ⟨rfl,rfl,rfl⟩:=trodAll_nil r1
 subst hargs1
 obtain rfl:args= #[v0,v1]:=by cases args;simp_all
 obtain ⟨rfl,rfl⟩:=trodVars_none hV
 have h0k:=h0
 have h1k:=h1
 obtain ⟨n,rfl,rfl,rfl,hn⟩:=open_int Tryz.underlying5 (hval 1 5 v1 rfl rfl) h1
 obtain ⟨a0,n0,c0,rfl⟩:=okWide_slice Tryz.underlying38 (hval 0 38 v0 rfl rfl)
 obtain ⟨fuel0,hf0⟩:=h0
 obtain ⟨pcs0,hsh0,hcells0⟩:=ZeF tOk ZvT fuel0 38 _ _ (by simp [cl]) hf0
 obtain ⟨b0,d,rfl,hok⟩:=ZsG hsh0
 obtain ⟨k,rfl,hk⟩:=ZnQ hn
 clear hA0
 simp only [List.append_nil] at hW'
 have hlt0:∀ x∈p0,x.block<W.heap.size:=fun x hx=>by simpa using hW'.lt x (by simp [hx])
 have call:=ZjG fe4.ok hG (c4 Zh4 hok b0 hk hNil) (w:=W) (vals:= #[.slice a0 n0 c0,.int .u8 (k:Int)]) ⟨rfl,fun i hi hj=>by
  match i,hi with
  | 0,_=>exact hcells0.2 0 (by simp) (by simp [Value.cells])
  | 1,_=>exact .int _ _⟩
 refine Calls.mono call fun e W' ⟨v,he,⟨g',hv⟩,hg,hsame⟩=>?_
 obtain rfl:=hv.bool_inv
 subst he
 refine ⟨_,rfl,ZiF (pa:=p0) (pv:=[]) hW' (fun _ _ _=>trodAll_cons_mk (shut_bool Tryz.underlying4 _) trodAll_mk0) (fun sp hsp=>?_) (fun _ _=>rfl) (by simp)
  (hg.frame _) hg.fz (ok_one (by kernel_rfl) rfl (okWide_bool_mk Tryz.underlying4 _))⟩
 have t0:=WideElems.Trod_stays (sp':=sp) (W':=W') ZhP (by kernel_rfl) (of_decide_eq_true (by kernel_rfl)) h0k (fun x hx=>Zpn hsame (hlt0 x hx)) (fun x hx=>hsp x (by simp [hx]))
 have t1:=WideElems.Trod_stays (sp':=sp) (W':=W') ZhP (by kernel_rfl) (of_decide_eq_true (by kernel_rfl)) h1k (fun x hx=>absurd hx (by simp)) (fun x hx=>absurd hx (by simp))
 have t3:=trodAll_mk2 t0 t1
 simp only [List.append_nil] at t3
 exact t3
noncomputable def lay (c:Array Value):Obj→Obj
 | .cells _ t frozen=> .cells c t frozen
 |o=>o
noncomputable def ZaH (os:Os):World:=
 { World.holding Tryz.prog os ⟨#[], #[], []⟩ with
   heap:=((((((World.holding Tryz.prog os ⟨#[], #[],[]⟩).heap.modify 3 (lay #[.int .u8 0,.int .u8 1,.int .u8 28,.int .u8 2,.int .u8 29,.int .u8 14,.int .u8 24,.int .u8 3,.int .u8 30,.int .u8 22,.int .u8 20,.int .u8 15,.int .u8 25,.int .u8 17,.int .u8 4,.int .u8 8,.int .u8 31,.int .u8 27,.int .u8 13,.int .u8 23,.int .u8 21,.int .u8 19,.int .u8 16,.int .u8 7,.int .u8 26,.int .u8 12,.int .u8 18,.int .u8 6,.int .u8 11,.int .u8 5,.int .u8 10,.int .u8 9])).modify 4 (lay #[.int .u8 0,.int .u8 1,.int .u8 56,.int .u8 2,.int .u8 57,.int .u8 49,.int .u8 28,.int .u8 3,.int .u8 61,.int .u8 58,.int .u8 42,.int .u8 50,.int .u8 38,.int .u8 29,.int .u8 17,.int .u8 4,.int .u8 62,.int .u8 47,.int .u8 59,.int .u8 36,.int .u8 45,.int .u8 43,.int .u8 51,.int .u8 22,.int .u8 53,.int .u8 39,.int .u8 33,.int .u8 30,.int .u8 24,.int .u8 18,.int .u8 12,.int .u8 5,.int .u8 63,.int .u8 55,.int .u8 48,.int .u8 27,.int .u8 60,.int .u8 41,.int .u8 37,.int .u8 16,.int .u8 46,.int .u8 35,.int .u8 44,.int .u8 21,.int .u8 52,.int .u8 32,.int .u8 23,.int .u8 11,.int .u8 54,.int .u8 26,.int .u8 40,.int .u8 15,.int .u8 34,.int .u8 20,.int .u8 31,.int .u8 10,.int .u8 25,.int .u8 14,.int .u8 19,.int .u8 9,.int .u8 13,.int .u8 8,.int .u8 7,.int .u8 6])).modify 2 (lay #[.int .u64 1,.int .u64 10,.int .u64 100,.int .u64 1000,.int .u64 10000,.int .u64 100000,.int .u64 1000000,.int .u64 10000000,.int .u64 100000000,.int .u64 1000000000,.int .u64 10000000000,.int .u64 100000000000,.int .u64 1000000000000,.int .u64 10000000000000,.int .u64 100000000000000,.int .u64 1000000000000000,.int .u64 10000000000000000,.int .u64 100000000000000000,.int .u64 1000000000000000000,.int .u64 10000000000000000000])).modify 1 (lay #[.slice (some ⟨(World.holding Tryz.prog os ⟨#[], #[],[]⟩).heap.size+0,0,none⟩) 6 6])).push (.cells #[.string ⟨#[97,110,121]⟩,.string ⟨#[97,103,101,110,116]⟩,.string ⟨#[110,111,110,99,101]⟩,.string ⟨#[107,101,121]⟩,.string ⟨#[100,97,116,97]⟩,.string ⟨#[116,97,103]⟩] 9 (0,0)))}
def wit:Array Value:= #[.slice none 0 0,.int .u8 0]
theorem Zlf (os:Os):laidMet Tryz.prog Rows.eventGrowsRow.laid ((ZaH os).forCall (fun _ _=>0) ⟨#[],wit,[]⟩).memory:=
 laidMet_of_run' 8 (by kernel_rfl) (by kernel_rfl)
theorem ZsP (os:Os) {H:Type} (enc:TypeId×Value→H):∃ places,DataW.whole enc Tryz.prog ((ZaH os).forCall (fun _ _=>0) ⟨#[],wit,[]⟩).memory Tryz.f4.params.toList Rows.eventGrowsSpec.vars false wit.toList 8=some ([.nil,.lit (.int .u8 0)],[],places):=
 ⟨[],by kernel_rfl⟩
set_option maxRecDepth 100000 in
theorem lifted (os : Os) (started : os.Started) (H : Type) (enc : TypeId × Value → H) (F : Stop.Interp) :
  ReturnsInHanded {} Tryz.checked os 4 .any ((OpenSpec.ofChange Rows.eventGrowsSpec).preRow enc Tryz.prog Tryz.f4 Rows.eventGrowsRow.domain false Rows.eventGrowsRow.laid) (((OpenSpec.ofChange Rows.eventGrowsSpec).at F).post enc Tryz.prog Tryz.f4 false true false false):=by
 obtain ⟨places,hx⟩:=ZsP os enc
 refine returnsInHanded_of_row (C:=Tryz.checked) (s:=OpenSpec.ofChange Rows.eventGrowsSpec) own started (by kernel_rfl) Tryz.func4
  (witness_row_atRef (enc := enc) (C := Tryz.checked) false (ZaH os) wit rfl (by kernel_rfl) (by kernel_rfl) (by kernel_rfl)
    (OpenSpec.preRow_of_cond 8 hx (by kernel_rfl) (fun k hk=>by cases hk) (by kernel_rfl) (Zlf os))) ?_
 intro W base args ds gs before hval hW x1 x2 x3 x4 x5 x6
 exact contract H enc W base args ds gs before hval hW (by first|exact x1|exact x2|exact x3|exact x4|exact x5|exact x6)
theorem said:Rows.EventGrowsSaid:=
 OpenClaim.holds_of_cond 4 Tryz.f4 rfl rfl rfl rfl rfl rfl rfl ⟨rfl,rfl,rfl,rfl,rfl⟩ rfl rfl rfl rfl rfl (by kernel_rfl) Tryz.func4 (by kernel_rfl)
  (of_decide_eq_true (by kernel_rfl)) (by unfold Func.isWrapper;first|(rw [if_pos (by decide +kernel)];kernel_rfl)|(rw [if_neg (by decide +kernel)];exact ⟨rfl,rfl⟩))
  (fun os started H enc _ F=>by rw [OpenClaim.pre_eq_preRow];exact lifted os started H enc F)
theorem plain (f:FuncId) (fn:Func) (hf:Tryz.pinned.checked.prog.funcNamed "sealring/sealringlaw28.EventGrows" = some f) (hfn:Tryz.pinned.checked.prog.funcs[f]? = some fn) :
  false=Tryz.pinned.checked.prog.looks []∧∀ (j:Nat) t,fn.params[j]? = some t→Tryz.pinned.checked.prog.wantsStandIn t=false:=by
 obtain rfl:f=4:=Option.some.inj ((show Tryz.prog.funcNamed "sealring/sealringlaw28.EventGrows" = some 4 by kernel_rfl).symm.trans hf) |>.symm
 obtain rfl:fn=Tryz.f4:=(Option.some.inj (Tryz.func4.symm.trans hfn)).symm
 refine ⟨by kernel_rfl,fun j t ht=>?_⟩
 rw [Tryz.params4] at ht
 match j,ht with
 | 0, ht => obtain rfl : 38 = t := by simpa using ht
            exact (show Tryz.prog.wantsStandIn 38=false by kernel_rfl)
 | 1, ht => obtain rfl : 5 = t := by simpa using ht
            exact (show Tryz.prog.wantsStandIn 5=false by kernel_rfl)
theorem card:Rows.EventGrowsCardSaid:=
 Claim7.holds_tied_plain_at .later [] _ _ _ _ said (fun _ h=>by cases h) (by kernel_rfl) (fun _ h=>by cases h) eventGrows_row_tie rfl ⟨rfl,rfl⟩ (by kernel_rfl) rfl plain (by kernel_rfl)
