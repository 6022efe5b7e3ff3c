/-
  KeyserviceAnswer: what the row asks of a call, from what the function gives at any argument. KeyserviceAnswer: a world for the witness; the row is lif
-/
import Derived.Test.YtkaocdljkonfaaaGreatDoorQLd55
import Derived.Test.YtkaocdljkonfaaaGreatDoorCards
import Derived.Test.YtkaocdljkonfaaaGreatDoorTie
import Derived.OpenShut
import Derived.Deep.DeepHandedRow
import Derived.Deep.DeepWitnessRowRef
import Derived.WideKeyArgs
import Derived.ChangeMaps5
set_option maxHeartbeats 64000000
set_option maxRecDepth 100000
namespace Go.Proofs.YtkaocdljkonfaaaGreatDoor.keyserviceAnswer
open Go.ChangeMaps Go.ChangeShapes Go.WideShapes Go.ChangeAt Go.RowKit Go.Vm Go.Vm.Seat
variable {cs:List PV}
theorem own:ownKnob Tryz.prog.godebug=none:=by kernel_rfl
def cl:List TypeId:=[5,78,40]
theorem Ztu:∀ t,t∈cl→ZnD E0.T cl t=true:=by
 intro t ht
 have h:cl.all (fun t=>ZnD E0.T cl t)=true:=by kernel_rfl
 exact List.all_eq_true.1 h t ht
theorem e5:E0.T 5=some ⟨.int .u8,1,1,.int .u8 0⟩:=by kernel_rfl
theorem eO:E0.T 78=some ⟨.struct [(0,5),(1,5),(2,5)],3,3,.agg [.int .u8 0,.int .u8 0,.int .u8 0]⟩:=by kernel_rfl
theorem eOs:E0.T 40=some ⟨.slice 78,1,24,.nils⟩:=by kernel_rfl
theorem ZgQ {n:Int} (h:(Lit.int .u8 n).wf=true):∃ k:Nat,n=(k:Int)∧k<256:=by
 have h:(decide ((0:Int)≤n)&&decide (n≤(255:Int)))=true:=h
 simp only [Bool.and_eq_true,decide_eq_true_eq] at h
 exact ⟨n.toNat,by omega,by omega⟩
theorem Ztz {α:Type} {l:List α} (h:l.length=3):∃ a b c,l= [a,b,c]:=by
 match l,h with
 | [a,b,c],_=>exact ⟨a,b,c,rfl⟩
theorem Zn3 (h:Sh E0.T 78 cs):∃ x:Opp,cs=x.cells∧x.ok:=by
 cases h with
 |bool h' hk'=>rw [eO] at h';cases h';cases hk'
 |int h' hk'=>rw [eO] at h';cases h';cases hk'
 |str h' hk'=>rw [eO] at h';cases h';cases hk'
 |nils h' hk'=>rw [eO] at h';cases h';cases hk'
 |sl h' hk'=>rw [eO] at h';cases h';cases hk'
 | struct h' hk' hlen hf =>
   rw [eO] at h';cases h';cases hk'
   obtain ⟨a,b,c,rfl⟩:=Ztz hlen
   have q0:=hf 0 5 _ (by simp) e5
   have q1:=hf 1 5 _ (by simp) e5
   have q2:=hf 2 5 _ (by simp) e5
   simp only [List.drop_zero,List.drop_succ_cons,List.take_succ_cons,List.take_zero] at q0 q1 q2
   obtain ⟨n0,z0,w0⟩:=Zg4 q0 e5 rfl
   obtain ⟨n1,z1,w1⟩:=Zg4 q1 e5 rfl
   obtain ⟨n2,z2,w2⟩:=Zg4 q2 e5 rfl
   simp only [List.cons.injEq,and_true] at z0 z1 z2
   subst z0 z1 z2
   obtain ⟨k0,rfl,l0⟩:=ZgQ w0
   obtain ⟨k1,rfl,l1⟩:=ZgQ w1
   obtain ⟨k2,rfl,l2⟩:=ZgQ w2
   exact ⟨⟨k0,k1,k2⟩,rfl,l0,l1,l2⟩
theorem Zky:∀ (el:List (List PV)),(∀ c,c∈el→∃ x:Opp,c=x.cells∧x.ok)→∃ l:List Opp,el=opC l∧∀ o,o∈l→o.ok
 | [],_=>⟨[],rfl,fun _ h=>absurd h (by simp)⟩
 | c :: r, h => by
   obtain ⟨x,hx,ho⟩:=h c List.mem_cons_self
   obtain ⟨l,hl,hlo⟩:=Zky r fun c hc=>h c (List.mem_cons_of_mem _ hc)
   refine ⟨x::l,by simp only [opC,List.map_cons] at hl ⊢;rw [hx,hl],fun u hu=>?_⟩
   rcases List.mem_cons.1 hu with rfl|hu
   · exact ho
   · exact hlo u hu
theorem Znr (h:Sh E0.T 40 cs):∃ b,∃ l:List Opp,cs= [slV b 3 (opC l)]∧∀ o,o∈l→o.ok:=by
 cases h with
 |bool h' hk'=>rw [eOs] at h';cases h';cases hk'
 |int h' hk'=>rw [eOs] at h';cases h';cases hk'
 |str h' hk'=>rw [eOs] at h';cases h';cases hk'
 |nils h' hk'=>exact ⟨true,[],by rw [show opC []= [] from rfl,Zn],fun _ h=>absurd h (by simp)⟩
 | sl h' hk' he hl hel =>
   rw [eOs] at h';cases h';cases hk'
   rw [eO] at he;cases he
   obtain ⟨l,rfl,ho⟩:=Zky _ fun c hc=>Zn3 (hel c hc)
   exact ⟨false,l,by rw [ZH],ho⟩
 |struct h' hk'=>rw [eOs] at h';cases h';cases hk'
theorem Zdx:laidOutB Tryz.prog=true:=by kernel_rfl
theorem contract (H : Type) (enc : TypeId × Value → H) (W : World) (base : Nat) (args : Array Value) (ds gs : List (DataW H)) (before : List MemPlace)
  (hval:∀ (j:Nat) t v,Tryz.f4.params[j]? = some t→args[j]? = some v→Value.okWide Tryz.prog W .any base t v)
  (hW:DataW.Whole enc Tryz.prog Tryz.f4.params.toList Rows.keyserviceAnswerSpec.vars false W args.toList ds gs before) (hL:laidMetH Tryz.prog Rows.keyserviceAnswerRow.laid W) :
  Calls Tryz.prog 4 args W fun e W'=>∃ v,e= .returned v∧Rows.keyserviceAnswerSpec.post enc Tryz.prog Tryz.f4 false true false false W args v W':=by
 have hG:=ZsG hL
 have hW':=hW
 obtain ⟨p,q,hA0,hV,rfl,hfz,hnd⟩:=hW
 have hA:DataW.TrodAll enc Tryz.prog W 0 (fun _=>true) true Tryz.f4.params.toList args.toList ds p:=hA0
 rw [Tryz.params4] at hA hval
 obtain ⟨v0,vs0,d0,ds0,p0,q0,hargs,rfl,rfl,h0,r0⟩:=trodAll_cons hA
 obtain ⟨v1,vs1,d1,ds1,p1,q1,hargs1,rfl,rfl,h1,r1⟩:=trodAll_cons r0
 obtain ⟨v2,vs2,d2,ds2,p2,q2,hargs2,rfl,rfl,h2,r2⟩:=trodAll_cons r1
 obtain ⟨rfl,rfl,rfl⟩:=trodAll_nil r2
 subst hargs1 hargs2
 obtain rfl:args= #[v0,v1,v2]:=by cases args;simp_all
 obtain ⟨rfl,rfl⟩:=trodVars_none hV
 have h0k:=h0
 have h1k:=h1
 have h2k:=h2
 obtain ⟨s1,rfl,rfl,rfl, -⟩:=open_string Tryz.underlying9 (hval 1 9 v1 rfl rfl) h1
 obtain ⟨a0,n0,c0,rfl⟩:=okWide_slice Tryz.underlying40 (hval 0 40 v0 rfl rfl)
 obtain ⟨z,rfl,rfl,rfl,hz⟩:=open_int Tryz.underlying3 (hval 2 3 v2 rfl rfl) h2
 obtain ⟨fuel0,hf0⟩:=h0
 obtain ⟨pcs0,hsh0,hcells0⟩:=Zeg tOk Ztu fuel0 40 _ _ (by simp [cl]) hf0
 obtain ⟨b0,l,rfl,hl⟩:=Znr hsh0
 clear hA0
 simp only [List.append_nil] at hW'
 have hlt0:∀ x∈p0,x.block<W.heap.size:=fun x hx=>by simpa using hW'.lt x (by simp [hx])
 have call:=ZgD fe4.ok hG (c4 hl b0 s1.data.toList z hNil) (w:=W) (vals:= #[.slice a0 n0 c0,.string s1,.int .i64 z]) ⟨rfl,fun i hi hj=>by
  match i,hi with
  | 0,_=>exact hcells0.2 0 (by simp) (by simp [Value.cells])
  | 1,_=>exact .str _ s1 rfl
  | 2,_=>exact .int _ _⟩
 refine Calls.mono call fun e W' ⟨v,he,⟨g',hv⟩,hg,hsame⟩=>?_
 obtain rfl:=hv.bool_inv
 subst he
 refine ⟨_,rfl,ZgP (pa:=p0) (pv:=[]) hW' (fun _ _ _=>trodAll_cons_mk (shut_bool Tryz.underlying4 _) trodAll_mk0) (fun sp hsp=>?_) (fun _ _=>rfl) (by simp)
  (hg.frame _) hg.fz (ok_one (by kernel_rfl) rfl (okWide_bool_mk Tryz.underlying4 _))⟩
 have t0:=WideElems.Trod_stays (sp':=sp) (W':=W') Zdx (by kernel_rfl) (of_decide_eq_true (by kernel_rfl)) h0k (fun x hx=>Zlr hsame (hlt0 x hx)) (fun x hx=>hsp x (by simp [hx]))
 have t1:=WideElems.Trod_stays (sp':=sp) (W':=W') Zdx (by kernel_rfl) (of_decide_eq_true (by kernel_rfl)) h1k (fun x hx=>absurd hx (by simp)) (fun x hx=>absurd hx (by simp))
 have t2:=WideElems.Trod_stays (sp':=sp) (W':=W') Zdx (by kernel_rfl) (of_decide_eq_true (by kernel_rfl)) h2k (fun x hx=>absurd hx (by simp)) (fun x hx=>absurd hx (by simp))
 have t3:=trodAll_mk3 t0 t1 t2
 simp only [List.append_nil] at t3
 exact t3
open Go.ChangeShapes Go.WideShapes Go.ChangeAt Go.RowKit Go.Vm Go.Vm.Seat
noncomputable def lay (c:Array Value):Obj→Obj
 | .cells _ t frozen=> .cells c t frozen
 |o=>o
noncomputable def QY (os:Os):World:=
 { World.holding Tryz.prog os ⟨#[], #[], []⟩ with
   heap:=((((((((((World.holding Tryz.prog os ⟨#[], #[],[]⟩).heap.modify 4 (lay #[.int .u8 0,.int .u8 1,.int .u8 28,.int .u8 2,.int .u8 29,.int .u8 14,.int .u8 24,.int .u8 3,.int .u8 30,.int .u8 22,.int .u8 20,.int .u8 15,.int .u8 25,.int .u8 17,.int .u8 4,.int .u8 8,.int .u8 31,.int .u8 27,.int .u8 13,.int .u8 23,.int .u8 21,.int .u8 19,.int .u8 16,.int .u8 7,.int .u8 26,.int .u8 12,.int .u8 18,.int .u8 6,.int .u8 11,.int .u8 5,.int .u8 10,.int .u8 9])).modify 5 (lay #[.int .u8 0,.int .u8 1,.int .u8 56,.int .u8 2,.int .u8 57,.int .u8 49,.int .u8 28,.int .u8 3,.int .u8 61,.int .u8 58,.int .u8 42,.int .u8 50,.int .u8 38,.int .u8 29,.int .u8 17,.int .u8 4,.int .u8 62,.int .u8 47,.int .u8 59,.int .u8 36,.int .u8 45,.int .u8 43,.int .u8 51,.int .u8 22,.int .u8 53,.int .u8 39,.int .u8 33,.int .u8 30,.int .u8 24,.int .u8 18,.int .u8 12,.int .u8 5,.int .u8 63,.int .u8 55,.int .u8 48,.int .u8 27,.int .u8 60,.int .u8 41,.int .u8 37,.int .u8 16,.int .u8 46,.int .u8 35,.int .u8 44,.int .u8 21,.int .u8 52,.int .u8 32,.int .u8 23,.int .u8 11,.int .u8 54,.int .u8 26,.int .u8 40,.int .u8 15,.int .u8 34,.int .u8 20,.int .u8 31,.int .u8 10,.int .u8 25,.int .u8 14,.int .u8 19,.int .u8 9,.int .u8 13,.int .u8 8,.int .u8 7,.int .u8 6])).modify 1 (lay #[.int .u64 1,.int .u64 10,.int .u64 100,.int .u64 1000,.int .u64 10000,.int .u64 100000,.int .u64 1000000,.int .u64 10000000,.int .u64 100000000,.int .u64 1000000000,.int .u64 10000000000,.int .u64 100000000000,.int .u64 1000000000000,.int .u64 10000000000000,.int .u64 100000000000000,.int .u64 1000000000000000,.int .u64 10000000000000000,.int .u64 100000000000000000,.int .u64 1000000000000000000,.int .u64 10000000000000000000])).modify 7 (lay #[.int .u8 128,.int .u8 191,.int .u8 160,.int .u8 191,.int .u8 128,.int .u8 159,.int .u8 144,.int .u8 191,.int .u8 128,.int .u8 143,.int .u8 0,.int .u8 0,.int .u8 0,.int .u8 0,.int .u8 0,.int .u8 0,.int .u8 0,.int .u8 0,.int .u8 0,.int .u8 0,.int .u8 0,.int .u8 0,.int .u8 0,.int .u8 0,.int .u8 0,.int .u8 0,.int .u8 0,.int .u8 0,.int .u8 0,.int .u8 0,.int .u8 0,.int .u8 0])).modify 3 (lay #[.iface 247 (.pointer (some ⟨(World.holding Tryz.prog os ⟨#[], #[],[]⟩).heap.size+0,0,none⟩))])).modify 2 (lay #[.iface 247 (.pointer (some ⟨(World.holding Tryz.prog os ⟨#[], #[],[]⟩).heap.size+1,0,none⟩))])).modify 6 (lay ((Pinned.utf8FirstZ.map fun n=>Value.int .u8 (Int.ofNat n)).toArray))).push (.cells #[.string ⟨#[118,97,108,117,101,32,111,117,116,32,111,102,32,114,97,110,103,101]⟩] 249 (0,0))).push (.cells #[.string ⟨#[105,110,118,97,108,105,100,32,115,121,110,116,97,120]⟩] 249 (0,0)))}
def wit:Array Value:= #[.slice none 0 0,.string ⟨#[]⟩,.int .i64 0]
theorem ZjR (os:Os):laidMet Tryz.prog Rows.keyserviceAnswerRow.laid ((QY os).forCall (fun _ _=>0) ⟨#[],wit,[]⟩).memory:=
 laidMet_of_run' 8 (by kernel_rfl) (by kernel_rfl)
theorem ZpR (os:Os) {H:Type} (enc:TypeId×Value→H):∃ places,DataW.whole enc Tryz.prog ((QY os).forCall (fun _ _=>0) ⟨#[],wit,[]⟩).memory Tryz.f4.params.toList Rows.keyserviceAnswerSpec.vars false wit.toList 8=some ([.nil,.lit (.string []),.lit (.int .i64 0)],[],places):=
 ⟨[],by kernel_rfl⟩
theorem lifted (os : Os) (started : os.Started) (H : Type) (enc : TypeId × Value → H) (F : Stop.Interp) :
  ReturnsInHanded {} Tryz.checked os 4 .any ((OpenSpec.ofChange Rows.keyserviceAnswerSpec).preRow enc Tryz.prog Tryz.f4 Rows.keyserviceAnswerRow.domain false Rows.keyserviceAnswerRow.laid) (((OpenSpec.ofChange Rows.keyserviceAnswerSpec).at F).post enc Tryz.prog Tryz.f4 false true false false):=by
 obtain ⟨places,hx⟩:=ZpR os enc
 refine returnsInHanded_of_row (C:=Tryz.checked) (s:=OpenSpec.ofChange Rows.keyserviceAnswerSpec) own started (by kernel_rfl) Tryz.func4
  (witness_row_atRef (enc := enc) (C := Tryz.checked) false (QY os) wit rfl (by kernel_rfl) (by kernel_rfl) (by kernel_rfl)
    (OpenSpec.preRow_of_cond 8 hx (by kernel_rfl) (fun k hk=>by cases hk) (by kernel_rfl) (ZjR os))) ?_
 intro W base args ds gs before hval hW x1 x2 x3 x4 x5 x6
 exact contract H enc W base args ds gs before hval hW (by first|exact x1|exact x2|exact x3|exact x4|exact x5|exact x6)
open Go.ChangeShapes Go.WideShapes Go.ChangeAt Go.RowKit Go.Vm Go.Vm.Seat
theorem Zsi {a b:Bool} (h1:a=true) (h2:b=true):(a&&b)=true:=by rw [h1,h2];rfl
theorem closed:joinedFacts Tryz.pinned.checked.prog 4 Tryz.f4 (OpenSpec.ofChange Rows.keyserviceAnswerSpec).bare Rows.keyserviceAnswerRow=true:=by
 unfold joinedFacts
 repeat' (with_reducible apply Zsi)
 all_goals decide +kernel
end Go.Proofs.YtkaocdljkonfaaaGreatDoor.keyserviceAnswer
