/-
  KeyserviceFollows: what the row asks of a call, from what the function gives at 
-/
import Derived.Test.YtpgfeijkfmgnjaaGreatDoorMf
import Derived.Test.YtpgfeijkfmgnjaaGreatDoorCards
import Derived.Test.YtpgfeijkfmgnjaaGreatDoorTie
import Derived.OpenShut
import Derived.Deep.DeepHandedRow
import Derived.Deep.DeepWitnessRowRef
import Derived.WideKeyArgs
import Derived.ChangeMaps5
namespace Go.Proofs.YtpgfeijkfmgnjaaGreatDoor.keyserviceFollows
open Go.ChangeMaps Go.ChangeShapes Go.WideShapes Go.ChangeAt Go.RowKit Go.Vm Go.Vm.Seat
variable {cs:List PV}
theorem own:ownKnob Tryz.prog.godebug=none:=by kernel_rfl
def cl:List TypeId:=[5,59,22]
theorem ZtI:∀ t,t∈cl→Zpg E0.T cl t=true:=by
 intro t ht
 have h:cl.all (fun t=>Zpg E0.T cl t)=true:=by kernel_rfl
 exact List.all_eq_true.1 h t ht
theorem e5:E0.T 5=some ⟨.int .u8,1,1,.int .u8 0⟩:=by kernel_rfl
theorem eO:E0.T 59=some ⟨.struct [(0,5),(1,5),(2,5)],3,3,.agg [.int .u8 0,.int .u8 0,.int .u8 0]⟩:=by kernel_rfl
theorem eOs:E0.T 22=some ⟨.slice 59,1,24,.nils⟩:=by kernel_rfl
theorem Zgx {n:Int} (h:(Lit.int .u8 n).wf=true):∃ k:Nat,n=(k:Int)∧k<256:=by
 have h:(decide ((0:Int)≤n)&&decide (n≤(255:Int)))=true:=h
 simp only [Bool.and_eq_true,decide_eq_true_eq] at h
 exact ⟨n.toNat,by omega,by omega⟩
theorem ZtM {α:Type} {l:List α} (h:l.length=3):∃ a b c,l= [a,b,c]:=by
 match l,h with
 | [a,b,c],_=>exact ⟨a,b,c,rfl⟩
theorem Zqk (h:Sh E0.T 59 cs):∃ x:Opp,cs=x.cells∧x.ok:=by
 cases h with
 |bool h' hk'=>rw [eO] at h';cases h';cases hk'
 |int h' hk'=>rw [eO] at h';cases h';cases hk'
 |str h' hk'=>rw [eO] at h';cases h';cases hk'
 |nils h' hk'=>rw [eO] at h';cases h';cases hk'
 |sl h' hk'=>rw [eO] at h';cases h';cases hk'
 | struct h' hk' hlen hf =>
   rw [eO] at h';cases h';cases hk'
   obtain ⟨a,b,c,rfl⟩:=ZtM hlen
   have q0:=hf 0 5 _ (by simp) e5
   have q1:=hf 1 5 _ (by simp) e5
   have q2:=hf 2 5 _ (by simp) e5
   simp only [List.drop_zero,List.drop_succ_cons,List.take_succ_cons,List.take_zero] at q0 q1 q2
   obtain ⟨n0,z0,w0⟩:=Zji q0 e5 rfl
   obtain ⟨n1,z1,w1⟩:=Zji q1 e5 rfl
   obtain ⟨n2,z2,w2⟩:=Zji q2 e5 rfl
   simp only [List.cons.injEq,and_true] at z0 z1 z2
   subst z0 z1 z2
   obtain ⟨k0,rfl,l0⟩:=Zgx w0
   obtain ⟨k1,rfl,l1⟩:=Zgx w1
   obtain ⟨k2,rfl,l2⟩:=Zgx w2
   exact ⟨⟨k0,k1,k2⟩,rfl,l0,l1,l2⟩
theorem ZlP:∀ (el:List (List PV)),(∀ c,c∈el→∃ x:Opp,c=x.cells∧x.ok)→∃ l:List Opp,el=opC l∧∀ o,o∈l→o.ok
 | [],_=>⟨[],rfl,fun _ h=>absurd h (by simp)⟩
 | c :: r, h => by
   obtain ⟨x,hx,ho⟩:=h c List.mem_cons_self
   obtain ⟨l,hl,hlo⟩:=ZlP r fun c hc=>h c (List.mem_cons_of_mem _ hc)
   refine ⟨x::l,by simp only [opC,List.map_cons] at hl ⊢;rw [hx,hl],fun u hu=>?_⟩
   rcases List.mem_cons.1 hu with rfl|hu
   · exact ho
   · exact hlo u hu
theorem Zoc (h:Sh E0.T 22 cs):∃ b,∃ l:List Opp,cs= [slV b 3 (opC l)]∧∀ o,o∈l→o.ok:=by
 cases h with
 |bool h' hk'=>rw [eOs] at h';cases h';cases hk'
 |int h' hk'=>rw [eOs] at h';cases h';cases hk'
 |str h' hk'=>rw [eOs] at h';cases h';cases hk'
 |nils h' hk'=>exact ⟨true,[],by rw [show opC []= [] from rfl,Zq],fun _ h=>absurd h (by simp)⟩
 | sl h' hk' he hl hel =>
   rw [eOs] at h';cases h';cases hk'
   rw [eO] at he;cases he
   obtain ⟨l,rfl,ho⟩:=ZlP _ fun c hc=>Zqk (hel c hc)
   exact ⟨false,l,by rw [Z1],ho⟩
 |struct h' hk'=>rw [eOs] at h';cases h';cases hk'
theorem Zjc:laidOutB Tryz.prog=true:=by kernel_rfl
set_option maxRecDepth 100000 in
theorem contract (H : Type) (enc : TypeId × Value → H) (W : World) (base : Nat) (args : Array Value) (ds gs : List (DataW H)) (before : List MemPlace)
  (hval:∀ (j:Nat) t v,Tryz.f3.params[j]? = some t→args[j]? = some v→Value.okWide Tryz.prog W .any base t v)
  (hW:DataW.Whole enc Tryz.prog Tryz.f3.params.toList Rows.keyserviceFollowsSpec.vars false W args.toList ds gs before) (hL:laidMetH Tryz.prog Rows.keyserviceFollowsRow.laid W) :
  Calls Tryz.prog 3 args W fun e W'=>∃ v,e= .returned v∧Rows.keyserviceFollowsSpec.post enc Tryz.prog Tryz.f3 false true false false W args v W':=by
 have hG:=Zvj hL
 have hW':=hW
 obtain ⟨p,q,hA0,hV,rfl,hfz,hnd⟩:=hW
 have hA:DataW.TrodAll enc Tryz.prog W 0 (fun _=>true) true Tryz.f3.params.toList args.toList ds p:=hA0
 rw [Tryz.params3] at hA hval
 obtain ⟨v0,vs0,d0,ds0,p0,q0,hargs,rfl,rfl,h0,r0⟩:=trodAll_cons hA
 obtain ⟨v1,vs1,d1,ds1,p1,q1,hargs1,rfl,rfl,h1,r1⟩:=trodAll_cons r0
 obtain ⟨rfl,rfl,rfl⟩:=trodAll_nil r1
 subst hargs1
 obtain rfl:args= #[v0,v1]:=by cases args;simp_all
 obtain ⟨rfl,rfl⟩:=trodVars_none hV
 have h0k:=h0
 have h1k:=h1
 obtain ⟨n,rfl,rfl,rfl,hn⟩:=open_int Tryz.underlying5 (hval 1 5 v1 rfl rfl) h1
 obtain ⟨a0,n0,c0,rfl⟩:=okWide_slice Tryz.underlying22 (hval 0 22 v0 rfl rfl)
 obtain ⟨fuel0,hf0⟩:=h0
 obtain ⟨pcs0,hsh0,hcells0⟩:=Zek tOk ZtI fuel0 22 _ _ (by simp [cl]) hf0
 obtain ⟨b0,l,rfl,hl⟩:=Zoc hsh0
 obtain ⟨k,rfl,hk⟩:=Zgx hn
 clear hA0
 simp only [List.append_nil] at hW'
 have hlt0:∀ x∈p0,x.block<W.heap.size:=fun x hx=>by simpa using hW'.lt x (by simp [hx])
 have call:=ZhM fe3.ok hG (c3 hl b0 hk hNil) (w:=W) (vals:= #[.slice a0 n0 c0,.int .u8 (k:Int)]) ⟨rfl,fun i hi hj=>by
  match i,hi with
  | 0,_=>exact hcells0.2 0 (by simp) (by simp [Value.cells])
  | 1,_=>exact .int _ _⟩
 refine Calls.mono call fun e W' ⟨v,he,⟨g',hv⟩,hg,hsame⟩=>?_
 obtain rfl:=hv.bool_inv
 subst he
 refine ⟨_,rfl,ZiT (pa:=p0) (pv:=[]) hW' (fun _ _ _=>trodAll_cons_mk (shut_bool Tryz.underlying4 _) trodAll_mk0) (fun sp hsp=>?_) (fun _ _=>rfl) (by simp)
  (hg.frame _) hg.fz (ok_one (by kernel_rfl) rfl (okWide_bool_mk Tryz.underlying4 _))⟩
 have t0:=WideElems.Trod_stays (sp':=sp) (W':=W') Zjc (by kernel_rfl) (of_decide_eq_true (by kernel_rfl)) h0k (fun x hx=>Znk hsame (hlt0 x hx)) (fun x hx=>hsp x (by simp [hx]))
 have t1:=WideElems.Trod_stays (sp':=sp) (W':=W') Zjc (by kernel_rfl) (of_decide_eq_true (by kernel_rfl)) h1k (fun x hx=>absurd hx (by simp)) (fun x hx=>absurd hx (by simp))
 have t2:=trodAll_mk2 t0 t1
 simp only [List.append_nil] at t2
 exact t2
