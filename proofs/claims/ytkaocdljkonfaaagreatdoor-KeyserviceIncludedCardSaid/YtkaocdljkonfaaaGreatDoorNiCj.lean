/-
  KeyserviceIncluded: what the row asks of a call, from what the function gives at any argument. KeyserviceIncluded: a world for the witness; the row is
-/
import Derived.Test.YtkaocdljkonfaaaGreatDoorJk
import Derived.Test.YtkaocdljkonfaaaGreatDoorCards
import Derived.Test.YtkaocdljkonfaaaGreatDoorTie
import Derived.OpenShut
import Derived.Deep.DeepHandedRow
import Derived.Deep.DeepWitnessRowRef
import Derived.WideKeyArgs
import Derived.ChangeMaps5
set_option maxHeartbeats 64000000
set_option maxRecDepth 100000
namespace Go.Proofs.YtkaocdljkonfaaaGreatDoor.keyserviceIncluded
open Go.ChangeMaps Go.ChangeShapes Go.WideShapes Go.ChangeAt Go.RowKit Go.Vm Go.Vm.Seat
variable {α:Type} {cs:List PV}
theorem own:ownKnob Tryz.prog.godebug=none:=by kernel_rfl
def cl:List TypeId:=[3,9,24,22,43,5,78,40]
theorem Zmd:∀ t,t∈cl→Zlw E0.T cl t=true:=by
 intro t ht
 have h:cl.all (fun t=>Zlw E0.T cl t)=true:=by kernel_rfl
 exact List.all_eq_true.1 h t ht
theorem e3:E0.T 3=some ⟨.int .i64,1,8,.int .i64 0⟩:=by kernel_rfl
theorem e9:E0.T 9=some ⟨.string,1,16,.str []⟩:=by kernel_rfl
theorem eT:E0.T 24=some ⟨.struct [(0,3),(1,9),(2,3),(3,22)],4,56,.agg [.int .i64 0,.str [],.int .i64 0,.nils]⟩:=by kernel_rfl
theorem eTs:E0.T 22=some ⟨.slice 24,1,24,.nils⟩:=by kernel_rfl
theorem eAn:E0.T 43=some ⟨.struct [(0,9),(1,24),(5,3),(6,3),(7,24),(11,24),(15,22),(16,22)],17,248,.agg [.str [],.int .i64 0,.str [],.int .i64 0,.nils,.int .i64 0,.int .i64 0,.int .i64 0,.str [],.int .i64 0,.nils,.int .i64 0,.str [],.int .i64 0,.nils,.nils,.nils]⟩:=by kernel_rfl
theorem Zrk {l:List α} (h:l.length=17):∃ a b c d e f g i j k m n o p q r s,l= [a,b,c,d,e,f,g,i,j,k,m,n,o,p,q,r,s]:=by
 match l,h with
 | [a,b,c,d,e,f,g,i,j,k,m,n,o,p,q,r,s],_=>exact ⟨a,b,c,d,e,f,g,i,j,k,m,n,o,p,q,r,s,rfl⟩
theorem Zq0 (h:Sh E0.T 43 cs):∃ a:An,cs=a.cells∧AnOk a∧(Lit.int .i64 a.idx).wf=true∧(Lit.int .i64 a.size).wf=true:=by
 cases h with
 |bool h' hk'=>rw [eAn] at h';cases h';cases hk'
 |int h' hk'=>rw [eAn] at h';cases h';cases hk'
 |str h' hk'=>rw [eAn] at h';cases h';cases hk'
 |nils h' hk'=>rw [eAn] at h';cases h';cases hk'
 |sl h' hk'=>rw [eAn] at h';cases h';cases hk'
 | struct h' hk' hlen hf =>
   rw [eAn] at h';cases h';cases hk'
   obtain ⟨a,b,c,d,e,f,g,i,j,k,m,n,o,p,q,r,s,rfl⟩:=Zrk hlen
   have q0:=hf 0 9 _ (by simp) e9
   have q1:=hf 1 24 _ (by simp) eT
   have q2:=hf 5 3 _ (by simp) e3
   have q3:=hf 6 3 _ (by simp) e3
   have q4:=hf 7 24 _ (by simp) eT
   have q5:=hf 11 24 _ (by simp) eT
   have q6:=hf 15 22 _ (by simp) eTs
   have q7:=hf 16 22 _ (by simp) eTs
   simp only [List.drop_zero,List.drop_succ_cons,List.take_succ_cons,List.take_zero] at q0 q1 q2 q3 q4 q5 q6 q7
   obtain ⟨s0,z0, -⟩:=ZfA q0 e9 rfl
   obtain ⟨t1,z1,k1⟩:=(Zch e3 rfl rfl e9 rfl rfl eTs rfl rfl eT rfl rfl q1).1 rfl
   obtain ⟨n2,z2,w2⟩:=Vp q2 e3 rfl
   obtain ⟨n3,z3,w3⟩:=Vp q3 e3 rfl
   obtain ⟨t4,z4,k4⟩:=(Zch e3 rfl rfl e9 rfl rfl eTs rfl rfl eT rfl rfl q4).1 rfl
   obtain ⟨t5,z5,k5⟩:=(Zch e3 rfl rfl e9 rfl rfl eTs rfl rfl eT rfl rfl q5).1 rfl
   obtain ⟨b6,l6,z6,k6,y6⟩:=(Zch e3 rfl rfl e9 rfl rfl eTs rfl rfl eT rfl rfl q6).2 rfl
   obtain ⟨b7,l7,z7,k7,y7⟩:=(Zch e3 rfl rfl e9 rfl rfl eTs rfl rfl eT rfl rfl q7).2 rfl
   simp only [List.cons.injEq,and_true] at z0 z2 z3 z6 z7
   subst z0 z2 z3 z6 z7
   exact ⟨⟨s0,t1,n2,n3,t4,t5,b6,l6,b7,l7⟩,by simp only [An.cells, ← z1, ← z4, ← z5,List.cons_append,List.nil_append],⟨k1,k4,k5,k6,k7,y6,y7⟩,w2,w3⟩
theorem e5:E0.T 5=some ⟨.int .u8,1,1,.int .u8 0⟩:=by kernel_rfl
theorem eO:E0.T 78=some ⟨.struct [(0,5),(1,5),(2,5)],3,3,.agg [.int .u8 0,.int .u8 0,.int .u8 0]⟩:=by kernel_rfl
theorem eOs:E0.T 40=some ⟨.slice 78,1,24,.nils⟩:=by kernel_rfl
theorem ZaI {n:Int} (h:(Lit.int .u8 n).wf=true):∃ k:Nat,n=(k:Int)∧k<256:=by
 have h:(decide ((0:Int)≤n)&&decide (n≤(255:Int)))=true:=h
 simp only [Bool.and_eq_true,decide_eq_true_eq] at h
 exact ⟨n.toNat,by omega,by omega⟩
theorem ZpD {l:List α} (h:l.length=3):∃ a b c,l= [a,b,c]:=by
 match l,h with
 | [a,b,c],_=>exact ⟨a,b,c,rfl⟩
theorem Zm8 (h:Sh E0.T 78 cs):∃ x:Opp,cs=x.cells∧x.ok:=by
 cases h with
 |bool h' hk'=>rw [eO] at h';cases h';cases hk'
 |int h' hk'=>rw [eO] at h';cases h';cases hk'
 |str h' hk'=>rw [eO] at h';cases h';cases hk'
 |nils h' hk'=>rw [eO] at h';cases h';cases hk'
 |sl h' hk'=>rw [eO] at h';cases h';cases hk'
 | struct h' hk' hlen hf =>
   rw [eO] at h';cases h';cases hk'
   obtain ⟨a,b,c,rfl⟩:=ZpD hlen
   have q0:=hf 0 5 _ (by simp) e5
   have q1:=hf 1 5 _ (by simp) e5
   have q2:=hf 2 5 _ (by simp) e5
   simp only [List.drop_zero,List.drop_succ_cons,List.take_succ_cons,List.take_zero] at q0 q1 q2
   obtain ⟨n0,z0,w0⟩:=Vp q0 e5 rfl
   obtain ⟨n1,z1,w1⟩:=Vp q1 e5 rfl
   obtain ⟨n2,z2,w2⟩:=Vp q2 e5 rfl
   simp only [List.cons.injEq,and_true] at z0 z1 z2
   subst z0 z1 z2
   obtain ⟨k0,rfl,l0⟩:=ZaI w0
   obtain ⟨k1,rfl,l1⟩:=ZaI w1
   obtain ⟨k2,rfl,l2⟩:=ZaI w2
   exact ⟨⟨k0,k1,k2⟩,rfl,l0,l1,l2⟩
theorem Zdu:∀ (el:List (List PV)),(∀ c,c∈el→∃ x:Opp,c=x.cells∧x.ok)→∃ l:List Opp,el=opC l∧∀ o,o∈l→o.ok
 | [],_=>⟨[],rfl,fun _ h=>absurd h (by simp)⟩
 | c :: r, h => by
   obtain ⟨x,hx,ho⟩:=h c List.mem_cons_self
   obtain ⟨l,hl,hlo⟩:=Zdu r fun c hc=>h c (List.mem_cons_of_mem _ hc)
   refine ⟨x::l,by simp only [opC,List.map_cons] at hl ⊢;rw [hx,hl],fun u hu=>?_⟩
   rcases List.mem_cons.1 hu with rfl|hu
   · exact ho
   · exact hlo u hu
theorem ZiD (h:Sh E0.T 40 cs):∃ b,∃ l:List Opp,cs= [slV b 3 (opC l)]∧∀ o,o∈l→o.ok:=by
 cases h with
 |bool h' hk'=>rw [eOs] at h';cases h';cases hk'
 |int h' hk'=>rw [eOs] at h';cases h';cases hk'
 |str h' hk'=>rw [eOs] at h';cases h';cases hk'
 |nils h' hk'=>exact ⟨true,[],by rw [show opC []= [] from rfl,Zq],fun _ h=>absurd h (by simp)⟩
 | sl h' hk' he hl hel =>
   rw [eOs] at h';cases h';cases hk'
   rw [eO] at he;cases he
   obtain ⟨l,rfl,ho⟩:=Zdu _ fun c hc=>Zm8 (hel c hc)
   exact ⟨false,l,by rw [Z1],ho⟩
 |struct h' hk'=>rw [eOs] at h';cases h';cases hk'
theorem Vr:laidOutB Tryz.prog=true:=by kernel_rfl
theorem contract (H : Type) (enc : TypeId × Value → H) (W : World) (base : Nat) (args : Array Value) (ds gs : List (DataW H)) (before : List MemPlace)
  (hval:∀ (j:Nat) t v,Tryz.f5.params[j]? = some t→args[j]? = some v→Value.okWide Tryz.prog W .any base t v)
  (hW:DataW.Whole enc Tryz.prog Tryz.f5.params.toList Rows.keyserviceIncludedSpec.vars false W args.toList ds gs before) (hL:laidMetH Tryz.prog Rows.keyserviceIncludedRow.laid W) :
  Calls Tryz.prog 5 args W fun e W'=>∃ v,e= .returned v∧Rows.keyserviceIncludedSpec.post enc Tryz.prog Tryz.f5 false true false false W args v W':=by
 have hG:=ZrH hL
 have hW':=hW
 obtain ⟨p,q,hA0,hV,rfl,hfz,hnd⟩:=hW
 have hA:DataW.TrodAll enc Tryz.prog W 0 (fun _=>true) true Tryz.f5.params.toList args.toList ds p:=hA0
 rw [Tryz.params5] at hA hval
 obtain ⟨v0,vs0,d0,ds0,p0,q0,hargs,rfl,rfl,h0,r0⟩:=trodAll_cons hA
 obtain ⟨v1,vs1,d1,ds1,p1,q1,hargs1,rfl,rfl,h1,r1⟩:=trodAll_cons r0
 obtain ⟨rfl,rfl,rfl⟩:=trodAll_nil r1
 subst hargs1
 obtain rfl:args= #[v0,v1]:=by cases args;simp_all
 obtain ⟨rfl,rfl⟩:=trodVars_none hV
 have h0k:=h0
 have h1k:=h1
 obtain ⟨a0,n0,c0,rfl⟩:=okWide_slice Tryz.underlying40 (hval 0 40 v0 rfl rfl)
 obtain ⟨cs1,rfl, -⟩:=okWide_struct Tryz.underlying43 (hval 1 43 v1 rfl rfl)
 obtain ⟨fuel0,hf0⟩:=h0
 obtain ⟨fuel1,hf1⟩:=h1
 obtain ⟨pcs0,hsh0,hcells0⟩:=Uj tOk Zmd fuel0 40 _ _ (by simp [cl]) hf0
 obtain ⟨pcs1,hsh1,hcells1⟩:=Uj tOk Zmd fuel1 43 _ _ (by simp [cl]) hf1
 obtain ⟨b0,l,rfl,hl⟩:=ZiD hsh0
 obtain ⟨a,rfl,ha,wi,ws⟩:=Zq0 hsh1
 clear hA0
 simp only [List.append_nil] at hW'
 have hlt0:∀ x∈p0,x.block<W.heap.size:=fun x hx=>by simpa using hW'.lt x (by simp [hx])
 have hlt1:∀ x∈p1,x.block<W.heap.size:=fun x hx=>by simpa using hW'.lt x (by simp [hx])
 have call:=Zau fe5.ok hG (c5 hl b0 ha wi ws hNil) (w:=W) (vals:= #[.slice a0 n0 c0,.agg cs1]) ⟨rfl,fun i hi hj=>by
  match i,hi with
  | 0,_=>exact hcells0.2 0 (by simp) (by simp [Value.cells])
  | 1,_=>exact Ziv hcells1⟩
 refine Calls.mono call fun e W' ⟨v,he,⟨g',hv⟩,hg,hsame⟩=>?_
 obtain rfl:=hv.bool_inv
 subst he
 refine ⟨_,rfl,Za4 (pa:=p0++p1) (pv:=[]) hW' (fun _ _ _=>trodAll_cons_mk (shut_bool Tryz.underlying4 _) trodAll_mk0) (fun sp hsp=>?_) (fun _ _=>rfl) (by simp)
  (hg.frame _) hg.fz (ok_one (by kernel_rfl) rfl (okWide_bool_mk Tryz.underlying4 _))⟩
 have t0:=WideElems.Trod_stays (sp':=sp) (W':=W') Vr (by kernel_rfl) (of_decide_eq_true (by kernel_rfl)) h0k (fun x hx=>ZaE hsame (hlt0 x hx)) (fun x hx=>hsp x (by simp [hx]))
 have t1:=WideElems.Trod_stays (sp':=sp) (W':=W') Vr (by kernel_rfl) (of_decide_eq_true (by kernel_rfl)) h1k (fun x hx=>ZaE hsame (hlt1 x hx)) (fun x hx=>hsp x (by simp [hx]))
 exact trodAll_mk2 t0 t1
open Go.ChangeShapes Go.WideShapes Go.ChangeAt Go.RowKit Go.Vm Go.Vm.Seat
noncomputable def lay (c:Array Value):Obj→Obj
 | .cells _ t frozen=> .cells c t frozen
 |o=>o
noncomputable def YY (os:Os):World:=
 { World.holding Tryz.prog os ⟨#[], #[], []⟩ with
   heap:=((((((((((World.holding Tryz.prog os ⟨#[], #[],[]⟩).heap.modify 4 (lay #[.int .u8 0,.int .u8 1,.int .u8 28,.int .u8 2,.int .u8 29,.int .u8 14,.int .u8 24,.int .u8 3,.int .u8 30,.int .u8 22,.int .u8 20,.int .u8 15,.int .u8 25,.int .u8 17,.int .u8 4,.int .u8 8,.int .u8 31,.int .u8 27,.int .u8 13,.int .u8 23,.int .u8 21,.int .u8 19,.int .u8 16,.int .u8 7,.int .u8 26,.int .u8 12,.int .u8 18,.int .u8 6,.int .u8 11,.int .u8 5,.int .u8 10,.int .u8 9])).modify 5 (lay #[.int .u8 0,.int .u8 1,.int .u8 56,.int .u8 2,.int .u8 57,.int .u8 49,.int .u8 28,.int .u8 3,.int .u8 61,.int .u8 58,.int .u8 42,.int .u8 50,.int .u8 38,.int .u8 29,.int .u8 17,.int .u8 4,.int .u8 62,.int .u8 47,.int .u8 59,.int .u8 36,.int .u8 45,.int .u8 43,.int .u8 51,.int .u8 22,.int .u8 53,.int .u8 39,.int .u8 33,.int .u8 30,.int .u8 24,.int .u8 18,.int .u8 12,.int .u8 5,.int .u8 63,.int .u8 55,.int .u8 48,.int .u8 27,.int .u8 60,.int .u8 41,.int .u8 37,.int .u8 16,.int .u8 46,.int .u8 35,.int .u8 44,.int .u8 21,.int .u8 52,.int .u8 32,.int .u8 23,.int .u8 11,.int .u8 54,.int .u8 26,.int .u8 40,.int .u8 15,.int .u8 34,.int .u8 20,.int .u8 31,.int .u8 10,.int .u8 25,.int .u8 14,.int .u8 19,.int .u8 9,.int .u8 13,.int .u8 8,.int .u8 7,.int .u8 6])).modify 1 (lay #[.int .u64 1,.int .u64 10,.int .u64 100,.int .u64 1000,.int .u64 10000,.int .u64 100000,.int .u64 1000000,.int .u64 10000000,.int .u64 100000000,.int .u64 1000000000,.int .u64 10000000000,.int .u64 100000000000,.int .u64 1000000000000,.int .u64 10000000000000,.int .u64 100000000000000,.int .u64 1000000000000000,.int .u64 10000000000000000,.int .u64 100000000000000000,.int .u64 1000000000000000000,.int .u64 10000000000000000000])).modify 7 (lay #[.int .u8 128,.int .u8 191,.int .u8 160,.int .u8 191,.int .u8 128,.int .u8 159,.int .u8 144,.int .u8 191,.int .u8 128,.int .u8 143,.int .u8 0,.int .u8 0,.int .u8 0,.int .u8 0,.int .u8 0,.int .u8 0,.int .u8 0,.int .u8 0,.int .u8 0,.int .u8 0,.int .u8 0,.int .u8 0,.int .u8 0,.int .u8 0,.int .u8 0,.int .u8 0,.int .u8 0,.int .u8 0,.int .u8 0,.int .u8 0,.int .u8 0,.int .u8 0])).modify 3 (lay #[.iface 247 (.pointer (some ⟨(World.holding Tryz.prog os ⟨#[], #[],[]⟩).heap.size+0,0,none⟩))])).modify 2 (lay #[.iface 247 (.pointer (some ⟨(World.holding Tryz.prog os ⟨#[], #[],[]⟩).heap.size+1,0,none⟩))])).modify 6 (lay ((Pinned.utf8FirstZ.map fun n=>Value.int .u8 (Int.ofNat n)).toArray))).push (.cells #[.string ⟨#[118,97,108,117,101,32,111,117,116,32,111,102,32,114,97,110,103,101]⟩] 249 (0,0))).push (.cells #[.string ⟨#[105,110,118,97,108,105,100,32,115,121,110,116,97,120]⟩] 249 (0,0)))}
def wit:Array Value:= #[.slice none 0 0,.agg #[.string ⟨#[]⟩,.int .i64 0,.string ⟨#[]⟩,.int .i64 0,.slice none 0 0,.int .i64 0,.int .i64 0,.int .i64 0,.string ⟨#[]⟩,.int .i64 0,.slice none 0 0,.int .i64 0,.string ⟨#[]⟩,.int .i64 0,.slice none 0 0,.slice none 0 0,.slice none 0 0]]
theorem UJ (os:Os):laidMet Tryz.prog Rows.keyserviceIncludedRow.laid ((YY os).forCall (fun _ _=>0) ⟨#[],wit,[]⟩).memory:=
 laidMet_of_run' 8 (by kernel_rfl) (by kernel_rfl)
theorem Zi7 (os:Os) {H:Type} (enc:TypeId×Value→H):∃ places,DataW.whole enc Tryz.prog ((YY os).forCall (fun _ _=>0) ⟨#[],wit,[]⟩).memory Tryz.f5.params.toList Rows.keyserviceIncludedSpec.vars false wit.toList 8=some ([.nil,.agg [.lit (.string []),.agg [.lit (.int .i64 0),.lit (.string []),.lit (.int .i64 0),.nil],.lit (.int .i64 0),.lit (.int .i64 0),.agg [.lit (.int .i64 0),.lit (.string []),.lit (.int .i64 0),.nil],.agg [.lit (.int .i64 0),.lit (.string []),.lit (.int .i64 0),.nil],.nil,.nil]],[],places):=
 ⟨[],by kernel_rfl⟩
theorem lifted (os : Os) (started : os.Started) (H : Type) (enc : TypeId × Value → H) (F : Stop.Interp) :
  ReturnsInHanded {} Tryz.checked os 5 .any ((OpenSpec.ofChange Rows.keyserviceIncludedSpec).preRow enc Tryz.prog Tryz.f5 Rows.keyserviceIncludedRow.domain false Rows.keyserviceIncludedRow.laid) (((OpenSpec.ofChange Rows.keyserviceIncludedSpec).at F).post enc Tryz.prog Tryz.f5 false true false false):=by
 obtain ⟨places,hx⟩:=Zi7 os enc
 refine returnsInHanded_of_row (C:=Tryz.checked) (s:=OpenSpec.ofChange Rows.keyserviceIncludedSpec) own started (by kernel_rfl) Tryz.func5
  (witness_row_atRef (enc := enc) (C := Tryz.checked) false (YY os) wit rfl (by kernel_rfl) (by kernel_rfl) (by kernel_rfl)
    (OpenSpec.preRow_of_cond 8 hx (by kernel_rfl) (fun k hk=>by cases hk) (by kernel_rfl) (UJ os))) ?_
 intro W base args ds gs before hval hW x1 x2 x3 x4 x5 x6
 exact contract H enc W base args ds gs before hval hW (by first|exact x1|exact x2|exact x3|exact x4|exact x5|exact x6)
open Go.ChangeShapes Go.WideShapes Go.ChangeAt Go.RowKit Go.Vm Go.Vm.Seat
theorem ZoF {a b:Bool} (h1:a=true) (h2:b=true):(a&&b)=true:=by rw [h1,h2];rfl
theorem closed:joinedFacts Tryz.pinned.checked.prog 5 Tryz.f5 (OpenSpec.ofChange Rows.keyserviceIncludedSpec).bare Rows.keyserviceIncludedRow=true:=by
 unfold joinedFacts
 repeat' (with_reducible apply ZoF)
 all_goals decide +kernel
end Go.Proofs.YtkaocdljkonfaaaGreatDoor.keyserviceIncluded
