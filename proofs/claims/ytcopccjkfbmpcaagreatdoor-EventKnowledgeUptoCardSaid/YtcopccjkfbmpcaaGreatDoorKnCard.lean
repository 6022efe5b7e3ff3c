/-
  The card of EventKnowledge, of its second form: for any cast and any trace the l
-/
import Derived.Test.YtcopccjkfbmpcaaGreatDoorQt
import Derived.Test.YtcopccjkfbmpcaaGreatDoorAw28
import Derived.Test.YtcopccjkfbmpcaaGreatDoorCards
import Derived.Test.YtcopccjkfbmpcaaGreatDoorTie
import Derived.ProofKit
import Derived.OpenShut
import Derived.Deep.DeepHandedRow
import Derived.Deep.DeepWitnessRowRef
import Derived.WideKeyArgs
namespace Go.Proofs.YtcopccjkfbmpcaaGreatDoor.eventKnowledge
open Go.ChangeShapes Go.WideShapes Go.ChangeAt Go.RowKit Go.Vm Go.Vm.Seat
variable {H:Type} {cs:List PV}
theorem own:ownKnob Tryz.prog.godebug=none:=by kernel_rfl
def cl:List TypeId:=[3,9,22,48,29,35,25,24]
theorem Zqx:∀ t,t∈cl→ZmF E0.T cl t=true:=by
 intro t ht
 have h:cl.all (fun t=>ZmF E0.T cl t)=true:=by kernel_rfl
 exact List.all_eq_true.1 h t ht
theorem e3:E0.T 3=some ⟨.int .i64,1,8,.int .i64 0⟩:=by kernel_rfl
theorem e9:E0.T 9=some ⟨.string,1,16,.str []⟩:=by kernel_rfl
theorem eSs:E0.T 22=some ⟨.slice 9,1,24,.nils⟩:=by kernel_rfl
theorem eT:E0.T 48=some ⟨.struct [(0,3),(1,9),(2,3),(3,29)],4,56,.agg [.int .i64 0,.str [],.int .i64 0,.nils]⟩:=by kernel_rfl
theorem eTs:E0.T 29=some ⟨.slice 48,1,24,.nils⟩:=by kernel_rfl
theorem eM:E0.T 35=some ⟨.struct [(0,3),(1,3),(2,3),(3,22),(4,3),(5,29)],6,80,.agg [.int .i64 0,.int .i64 0,.int .i64 0,.nils,.int .i64 0,.nils]⟩:=by kernel_rfl
theorem eMs:E0.T 25=some ⟨.slice 35,1,24,.nils⟩:=by kernel_rfl
theorem eCa:E0.T 24=some ⟨.struct [(0,22),(1,22)],2,48,.agg [.nils,.nils]⟩:=by kernel_rfl
theorem VW {H:Type}:∀ l:List (DataW H),(l.map Rows.uptoBulk).sum=Rows.uptoBulkAll l
 | []=>by simp [Rows.uptoBulkAll]
 |d::r=>by simp only [List.map_cons,List.sum_cons,Rows.uptoBulkAll,VW r]
theorem ZnA:BulkOk (H:=H) Rows.uptoBulk where
 lit l:=by cases l<;>simp [Rows.uptoBulk]
 str s:=by simp [Rows.uptoBulk]
 nil:=by simp [Rows.uptoBulk]
 slice e s:=by simp only [Rows.uptoBulk,VW];omega
 agg ps:=by simp only [Rows.uptoBulk,VW];omega
theorem Zhn:∀ (el:List (List PV)),(∀ c,c∈el→∃ s:Bs,c= [.str s])→∃ l:List Bs,el=Zp l
 | [],_=>⟨[],rfl⟩
 | c :: r, h => by
   obtain ⟨s,hs⟩:=h c List.mem_cons_self
   obtain ⟨l,hl⟩:=Zhn r fun c hc=>h c (List.mem_cons_of_mem _ hc)
   exact ⟨s::l,by rw [hs,hl];rfl⟩
theorem Zby (h:Sh E0.T 22 cs):∃ b l,cs= [slV b 1 (Zp l)]∧l.length≤wtL cs:=by
 cases h with
 |bool h' hk'=>rw [eSs] at h';cases h';cases hk'
 |int h' hk'=>rw [eSs] at h';cases h';cases hk'
 |str h' hk'=>rw [eSs] at h';cases h';cases hk'
 |struct h' hk'=>rw [eSs] at h';cases h';cases hk'
 |nils h' hk'=>exact ⟨true,[],by rw [show Zp []= [] from rfl,Zh],Nat.zero_le _⟩
 | sl h' hk' he hl hel =>
   rw [eSs] at h';cases h';cases hk'
   rw [e9] at he;cases he
   obtain ⟨l,rfl⟩:=Zhn _ fun c hc=>(by
    obtain ⟨s,hs,_⟩:=ZhI (hel c hc) e9 rfl
    exact ⟨s,hs⟩)
   refine ⟨false,l,by rw [Z0],?_⟩
   have:=ZeB (Zp l) fun c hc=>by
    obtain ⟨s,_,rfl⟩:=List.mem_map.1 hc
    simp
   rw [Zw] at this
   simp only [wtL,wt]
   omega
theorem ZmH {α:Type} {l:List α} (h:l.length=2):∃ a b,l= [a,b]:=by
 match l,h with
 | [a,b],_=>exact ⟨a,b,rfl⟩
theorem ZoN (h:Sh E0.T 24 cs):∃ c:Ca,cs=c.cells∧c.ag.length+c.bad.length≤wtL cs:=by
 cases h with
 |bool h' hk'=>rw [eCa] at h';cases h';cases hk'
 |int h' hk'=>rw [eCa] at h';cases h';cases hk'
 |str h' hk'=>rw [eCa] at h';cases h';cases hk'
 |nils h' hk'=>rw [eCa] at h';cases h';cases hk'
 |sl h' hk'=>rw [eCa] at h';cases h';cases hk'
 | struct h' hk' hlen hf =>
   rw [eCa] at h';cases h';cases hk'
   obtain ⟨a,b,rfl⟩:=ZmH hlen
   have q0:=hf 0 22 _ (by simp) eSs
   have q1:=hf 1 22 _ (by simp) eSs
   simp only [List.drop_zero,List.drop_succ_cons,List.take_succ_cons,List.take_zero] at q0 q1
   obtain ⟨b0,P,e0,w0⟩:=Zby q0
   obtain ⟨b1,X,e1,w1⟩:=Zby q1
   simp only [List.cons.injEq,and_true] at e0 e1
   subst e0 e1
   refine ⟨⟨b0,P,b1,X⟩,rfl,?_⟩
   simp only [wtL] at w0 w1 ⊢
   omega
theorem Zh0:laidOutB Tryz.prog=true:=by kernel_rfl
theorem Zmt {W:World} (h:laidMetH Tryz.prog Rows.eventKnowledgeUptoRow.laid W):GOk E0 (wG W):=by
 have h:laidMet Tryz.prog Rows.eventKnowledgeUptoRow.laid W:=h
 obtain ⟨ps,⟨_,_,_,_,_,_, -, -, -, -,⟨_,_,_,_,_,_, -, -, -, -,⟨_,_,_,_,_,_, -, -, -, -,⟨g,t,cs,fuel,p,q,hg,ht,hv,hd, -, -⟩, -⟩, -⟩, -⟩, -, -⟩:=h
 obtain rfl:g=1:=Option.some.inj (hg.symm.trans (show Tryz.prog.globalNamed "sealring/term.words" = some 1 by kernel_rfl))
 obtain rfl:t=22:=Option.some.inj (ht.symm.trans (show (Tryz.prog.globals[1]?).map (·.type)=some 22 by kernel_rfl))
 have hcs:∀ j,j<cs.size→W.cell? ⟨1,j,none⟩=cs[j]? :=fun j hj=>by
  unfold World.var? at hv
  rw [hg] at hv
  simp only [Option.bind_some] at hv
  unfold World.cell?
  revert hv
  cases W.heap[1]? with
  | none=>intro hv;simp at hv
  | some o=>cases o<;>intro hv<;>simp at hv ⊢ <;> (try subst hv)<;>rfl
 cases fuel with
 |zero=>simp [DataW.trod] at hd
 | succ n =>
   have hw:=Zj0 Tryz.underlying22 Tryz.underlying9 (by kernel_rfl) [[97,110,121],[97,103,101,110,116],[110,111,110,99,101],[107,101,121],[100,97,116,97],[116,97,103]] (by decide) hd
   have hsz:cs.size=1:=by have:=hw.1;simpa using this
   refine ⟨fun k cs' hk=>?_,fun h=>by simp [wG] at h,fun k hk=>by simp [E0] at hk⟩
   simp only [E0] at hk
   split at hk
   · rename_i hb
     obtain rfl:=Nat.eq_of_beq_eq_true hb
     cases hk
     refine .fptr Zdo 0 1 0 (fun j=>cs.getD j undef) (fun j hj=>?_) (fun j hj=>?_)
     · obtain rfl : j = 0 := by simp [Zdo] at hj; omega
       have:=hcs 0 (by omega)
       show wS W _ _=_
       simp only [wS]
       rw [this]
       simp [Array.getD,hsz]
     · obtain rfl : j = 0 := by simp [Zdo] at hj; omega
       have:=hw.2 0 (by simp) (by simp;omega)
       show V0 (wS W) _ _
       simp only [Zdo]
       simpa [Array.getD,hsz] using this
   · cases hk
set_option maxRecDepth 100000 in
theorem contract (H : Type) (enc : TypeId × Value → H) (W : World) (base : Nat) (args : Array Value) (ds gs : List (DataW H)) (before : List MemPlace)
  (hval:∀ (j:Nat) t v,Tryz.f3.params[j]? = some t→args[j]? = some v→Value.okWide Tryz.prog W .any base t v)
  (hW:DataW.Whole enc Tryz.prog Tryz.f3.params.toList Rows.eventKnowledgeSpec.vars false W args.toList ds gs before) (hL:laidMetH Tryz.prog Rows.eventKnowledgeUptoRow.laid W) (hsm:Rows.uptoSmall H (ds++gs)=true) :
  Calls Tryz.prog 3 args W fun e W'=>∃ v,e= .returned v∧Rows.eventKnowledgeSpec.post enc Tryz.prog Tryz.f3 false true false false W args v W':=by
 have hG:=Zmt hL
 have hW':=hW
 obtain ⟨p,q,hA0,hV,rfl,hfz,hnd⟩:=hW
 have hA:DataW.TrodAll enc Tryz.prog W 0 (fun _=>true) true Tryz.f3.params.toList args.toList ds p:=hA0
 rw [Tryz.params3] at hA hval
 obtain ⟨v0,vs0,d0,ds0,p0,q0,hargs,rfl,rfl,h0,r0⟩:=trodAll_cons hA
 obtain ⟨v1,vs1,d1,ds1,p1,q1,hargs1,rfl,rfl,h1,r1⟩:=trodAll_cons r0
 obtain ⟨rfl,rfl,rfl⟩:=trodAll_nil r1
 subst hargs1
 obtain rfl:args= #[v0,v1]:=by cases args;simp_all
 obtain ⟨rfl,rfl⟩:=trodVars_none hV
 have h0k:=h0
 have h1k:=h1
 obtain ⟨cs0,rfl, -⟩:=okWide_struct Tryz.underlying24 (hval 0 24 v0 rfl rfl)
 obtain ⟨a1,n1,c1,rfl⟩:=okWide_slice Tryz.underlying25 (hval 1 25 v1 rfl rfl)
 obtain ⟨fuel0,hf0⟩:=h0
 obtain ⟨fuel1,hf1⟩:=h1
 obtain ⟨pcs0,hsh0,hcells0,hwt⟩:=Zcq tOk ZnA Zqx fuel0 24 _ _ (by simp [cl]) hf0
 obtain ⟨pcs1,hsh1,hcells1⟩:=ZdS tOk Zqx fuel1 25 _ _ (by simp [cl]) hf1
 obtain ⟨x,rfl,hlen⟩:=ZoN hsh0
 obtain ⟨b1,l,rfl,hok⟩:=ZmK e3 rfl rfl e9 rfl rfl eSs rfl rfl eT rfl rfl eTs rfl rfl eM rfl rfl eMs rfl hsh1
 have hbound:x.ag.length+x.bad.length≤3000000:=by
  have h:=of_decide_eq_true hsm
  simp only [List.append_nil,Rows.uptoBulkAll] at h
  simp only at hwt
  omega
 clear hA0
 simp only [List.append_nil] at hW'
 have hlt0:∀ x∈p0,x.block<W.heap.size:=fun x hx=>by simpa using hW'.lt x (by simp [hx])
 have hlt1:∀ x∈p1,x.block<W.heap.size:=fun x hx=>by simpa using hW'.lt x (by simp [hx])
 have call:=ZgR fe3.ok hG (c3 Zgr hbound hok b1 hNil) (w:=W) (vals:= #[.agg cs0,.slice a1 n1 c1]) ⟨rfl,fun i hi hj=>by
  match i,hi with
  | 0,_=>exact ZnM hcells0
  | 1,_=>exact hcells1.2 0 (by simp) (by simp [Value.cells])⟩
 refine Calls.mono call fun e W' ⟨v,he,⟨g',hv⟩,hg,hsame⟩=>?_
 obtain rfl:=hv.bool_inv
 subst he
 refine ⟨_,rfl,ZhT (pa:=p0++p1) (pv:=[]) hW' (fun _ _ _=>trodAll_cons_mk (shut_bool Tryz.underlying4 _) trodAll_mk0) (fun sp hsp=>?_) (fun _ _=>rfl) (by simp)
  (hg.frame _) hg.fz (ok_one (by kernel_rfl) rfl (okWide_bool_mk Tryz.underlying4 _))⟩
 have t0:=WideElems.Trod_stays (sp':=sp) (W':=W') Zh0 (by kernel_rfl) (of_decide_eq_true (by kernel_rfl)) h0k (fun x hx=>Zg2 hsame (hlt0 x hx)) (fun x hx=>hsp x (by simp [hx]))
 have t1:=WideElems.Trod_stays (sp':=sp) (W':=W') Zh0 (by kernel_rfl) (of_decide_eq_true (by kernel_rfl)) h1k (fun x hx=>Zg2 hsame (hlt1 x hx)) (fun x hx=>hsp x (by simp [hx]))
 exact trodAll_mk2 t0 t1
noncomputable def lay (c:Array Value):Obj→Obj
 | .cells _ t frozen=> .cells c t frozen
 |o=>o
noncomputable def Q5 (os:Os):World:=
 { World.holding Tryz.prog os ⟨#[], #[], []⟩ with
   heap:=((((((World.holding Tryz.prog os ⟨#[], #[],[]⟩).heap.modify 3 (lay #[.int .u8 0,.int .u8 1,.int .u8 28,.int .u8 2,.int .u8 29,.int .u8 14,.int .u8 24,.int .u8 3,.int .u8 30,.int .u8 22,.int .u8 20,.int .u8 15,.int .u8 25,.int .u8 17,.int .u8 4,.int .u8 8,.int .u8 31,.int .u8 27,.int .u8 13,.int .u8 23,.int .u8 21,.int .u8 19,.int .u8 16,.int .u8 7,.int .u8 26,.int .u8 12,.int .u8 18,.int .u8 6,.int .u8 11,.int .u8 5,.int .u8 10,.int .u8 9])).modify 4 (lay #[.int .u8 0,.int .u8 1,.int .u8 56,.int .u8 2,.int .u8 57,.int .u8 49,.int .u8 28,.int .u8 3,.int .u8 61,.int .u8 58,.int .u8 42,.int .u8 50,.int .u8 38,.int .u8 29,.int .u8 17,.int .u8 4,.int .u8 62,.int .u8 47,.int .u8 59,.int .u8 36,.int .u8 45,.int .u8 43,.int .u8 51,.int .u8 22,.int .u8 53,.int .u8 39,.int .u8 33,.int .u8 30,.int .u8 24,.int .u8 18,.int .u8 12,.int .u8 5,.int .u8 63,.int .u8 55,.int .u8 48,.int .u8 27,.int .u8 60,.int .u8 41,.int .u8 37,.int .u8 16,.int .u8 46,.int .u8 35,.int .u8 44,.int .u8 21,.int .u8 52,.int .u8 32,.int .u8 23,.int .u8 11,.int .u8 54,.int .u8 26,.int .u8 40,.int .u8 15,.int .u8 34,.int .u8 20,.int .u8 31,.int .u8 10,.int .u8 25,.int .u8 14,.int .u8 19,.int .u8 9,.int .u8 13,.int .u8 8,.int .u8 7,.int .u8 6])).modify 2 (lay #[.int .u64 1,.int .u64 10,.int .u64 100,.int .u64 1000,.int .u64 10000,.int .u64 100000,.int .u64 1000000,.int .u64 10000000,.int .u64 100000000,.int .u64 1000000000,.int .u64 10000000000,.int .u64 100000000000,.int .u64 1000000000000,.int .u64 10000000000000,.int .u64 100000000000000,.int .u64 1000000000000000,.int .u64 10000000000000000,.int .u64 100000000000000000,.int .u64 1000000000000000000,.int .u64 10000000000000000000])).modify 1 (lay #[.slice (some ⟨(World.holding Tryz.prog os ⟨#[], #[],[]⟩).heap.size+0,0,none⟩) 6 6])).push (.cells #[.string ⟨#[97,110,121]⟩,.string ⟨#[97,103,101,110,116]⟩,.string ⟨#[110,111,110,99,101]⟩,.string ⟨#[107,101,121]⟩,.string ⟨#[100,97,116,97]⟩,.string ⟨#[116,97,103]⟩] 9 (0,0)))}
def wit:Array Value:= #[.agg #[.slice none 0 0,.slice none 0 0],.slice none 0 0]
theorem ZjS (os:Os):laidMet Tryz.prog Rows.eventKnowledgeUptoRow.laid ((Q5 os).forCall (fun _ _=>0) ⟨#[],wit,[]⟩).memory:=
 laidMet_of_run' 8 (by kernel_rfl) (by kernel_rfl)
theorem ZpL (os:Os) (enc:TypeId×Value→H):∃ places,DataW.whole enc Tryz.prog ((Q5 os).forCall (fun _ _=>0) ⟨#[],wit,[]⟩).memory Tryz.f3.params.toList Rows.eventKnowledgeSpec.vars false wit.toList 8=some ([.agg [.nil,.nil],.nil],[],places):=
 ⟨[],by kernel_rfl⟩
set_option maxRecDepth 100000 in
theorem lifted (os : Os) (started : os.Started) (H : Type) (enc : TypeId × Value → H) (F : Stop.Interp) :
  ReturnsInHanded {} Tryz.checked os 3 .any ((Rows.OpenSpec.upto Rows.eventKnowledgeSpec).preRow enc Tryz.prog Tryz.f3 Rows.eventKnowledgeUptoRow.domain false Rows.eventKnowledgeUptoRow.laid) (((Rows.OpenSpec.upto Rows.eventKnowledgeSpec).at F).post enc Tryz.prog Tryz.f3 false true false false):=by
 obtain ⟨places,hx⟩:=ZpL os enc
 refine returnsInHanded_of_row (C:=Tryz.checked) (s:=Rows.OpenSpec.upto Rows.eventKnowledgeSpec) own started (by kernel_rfl) Tryz.func3
  (witness_row_atRef (enc := enc) (C := Tryz.checked) false (Q5 os) wit rfl (by kernel_rfl) (by kernel_rfl) (by kernel_rfl)
    (OpenSpec.preRow_of_cond 8 hx (by kernel_rfl) (fun k hk=>by cases hk;kernel_rfl) (by kernel_rfl) (ZjS os))) ?_
 intro W base args ds gs before hval hW x1 x2 x3 x4 x5 x6
 exact contract H enc W base args ds gs before hval hW (by first|exact x1|exact x3|exact x4|exact x5|exact x6) (x2 _ rfl)
theorem said:Rows.EventKnowledgeUptoSaid:=
 OpenClaim.holds_of_cond 3 Tryz.f3 rfl rfl rfl rfl rfl rfl rfl ⟨rfl,rfl,rfl,rfl,rfl⟩ rfl rfl rfl rfl rfl (by kernel_rfl) Tryz.func3 (by kernel_rfl)
  (of_decide_eq_true (by kernel_rfl)) (by unfold Func.isWrapper;first|(rw [if_pos (by decide +kernel)];kernel_rfl)|(rw [if_neg (by decide +kernel)];exact ⟨rfl,rfl⟩))
  (fun os started H enc _ F=>by rw [OpenClaim.pre_eq_preRow];exact lifted os started H enc F)
theorem plain (f:FuncId) (fn:Func) (hf:Tryz.pinned.checked.prog.funcNamed "sealring/sealringlaw28.EventKnowledge" = some f) (hfn:Tryz.pinned.checked.prog.funcs[f]? = some fn) :
  false=Tryz.pinned.checked.prog.looks []∧∀ (j:Nat) t,fn.params[j]? = some t→Tryz.pinned.checked.prog.wantsStandIn t=false:=by
 obtain rfl:f=3:=Option.some.inj ((show Tryz.prog.funcNamed "sealring/sealringlaw28.EventKnowledge" = some 3 by kernel_rfl).symm.trans hf) |>.symm
 obtain rfl:fn=Tryz.f3:=(Option.some.inj (Tryz.func3.symm.trans hfn)).symm
 refine ⟨by kernel_rfl,fun j t ht=>?_⟩
 rw [Tryz.params3] at ht
 match j,ht with
 | 0, ht => obtain rfl : 24 = t := by simpa using ht
            exact (show Tryz.prog.wantsStandIn 24=false by kernel_rfl)
 | 1, ht => obtain rfl : 25 = t := by simpa using ht
            exact (show Tryz.prog.wantsStandIn 25=false by kernel_rfl)
theorem card:Rows.EventKnowledgeUptoCardSaid:=
 Claim7.holds_tied_plain_at .later [] _ _ _ _ said (fun _ h=>by cases h) (by kernel_rfl) (fun _ h=>by cases h) eventKnowledgeUpto_row_tie rfl ⟨rfl,rfl⟩ (by kernel_rfl) rfl plain (by kernel_rfl)
