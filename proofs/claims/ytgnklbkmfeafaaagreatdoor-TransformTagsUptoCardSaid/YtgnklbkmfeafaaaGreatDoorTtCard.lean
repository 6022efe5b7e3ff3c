/-
  The card of TransformTags, of its second form: for any narration and step the la
-/
import Derived.Test.YtgnklbkmfeafaaaGreatDoorXe
import Derived.Test.YtgnklbkmfeafaaaGreatDoorCards
import Derived.Test.YtgnklbkmfeafaaaGreatDoorTie
import Derived.ProofKit
import Derived.OpenShut
import Derived.Deep.DeepHandedRow
import Derived.Deep.DeepWitnessRowRef
import Derived.WideKeyArgs
namespace Go.Vm
variable {α:Type}
theorem Zf0 (b:Bool) (es:Nat) (el:List (List PV)):wt (slV b es el)=WN el+1:=by
 cases el with
 | nil => cases b
          · rw [ZB];rfl
          · rw [Zq];rfl
 |cons c r=>rw [Zx];rfl
theorem Q3 {F:α→List PV} {l:List α} {x:α} (h:x∈l):wtL (F x)≤WN (l.map F):=Zco (List.mem_map.2 ⟨x,h,rfl⟩)
theorem Zaj {F:α→List PV} (hF:∀ x,0<(F x).length) (l:List α):l.length≤WN (l.map F):=by
 have:=ZbJ (l.map F) fun c hc=>by
  obtain ⟨x,_,rfl⟩:=List.mem_map.1 hc
  exact hF x
 rwa [List.length_map] at this
theorem Zfx:∀ l:List Tm,l.length≤WN (Zb l)
 | []=>by simp
 | .mk k m s b kz :: r => by
   have h:=Zfx r
   have e:WN (Zb (.mk k m s b kz::r))=wtL (Tm.mk k m s b kz).cells+WN (Zb r):=rfl
   have h2:=Zbh (Tm.mk k m s b kz).cells
   have h3:(Tm.mk k m s b kz).cells.length=4:=rfl
   rw [List.length_cons]
   omega
theorem Zeq:∀ l:List Gl,(l.flatMap (·.data)).length≤WN (glC l)
 | []=>by simp
 | g :: r => by
   have h:=Zeq r
   have h2:=Zfx g.data
   have e:WN (glC (g::r))=wtL g.cells+WN (glC r):=rfl
   have e2:wtL g.cells=1+((g.role.length+1)+((g.wth.length+1)+(wt (slV g.dn 4 (Zb g.data))+(1+0)))):=rfl
   rw [Zf0] at e2
   rw [List.flatMap_cons,List.length_append]
   omega
theorem Zi1 {n:Na} (hw:wtL n.cells≤1048576) (hs:∀ s,s∈n.steps→s.msg.Ok) (hg:∀ g,g∈n.goals→∀ t,t∈g.data→t.Ok):n.Ok:=by
 have e:wtL n.cells=(n.name.length+1)+(wt (slV n.rn 1 (Zi n.roles))+(wt (slV n.fn 3 (frC n.fresh))+(wt (slV n.tn 1 (Zi n.tags))+(wt (slV n.sn 7 (spC n.steps))+(wt (slV n.gn 5 (glC n.goals))+0))))):=rfl
 simp only [Zf0] at e
 have r1:=Zaj (F:=fun s:Zg=>[PV.str s]) (fun _=>by simp) n.roles
 have r2:=Zaj (F:=Fr.cells) (fun _=>by simp [Fr.cells]) n.fresh
 have r3:=Zaj (F:=fun s:Zg=>[PV.str s]) (fun _=>by simp) n.tags
 have r4:=Zaj (F:=Sp.cells) (fun _=>by simp [Sp.cells]) n.steps
 have r5:=Zaj (F:=Gl.cells) (fun _=>by simp [Gl.cells]) n.goals
 have r6:=Zeq n.goals
 have u1:WN (Zi n.roles)=WN (n.roles.map fun s:Zg=>[PV.str s]):=rfl
 have u2:WN (frC n.fresh)=WN (n.fresh.map Fr.cells):=rfl
 have u3:WN (Zi n.tags)=WN (n.tags.map fun s:Zg=>[PV.str s]):=rfl
 have u4:WN (spC n.steps)=WN (n.steps.map Sp.cells):=rfl
 have u5:WN (glC n.goals)=WN (n.goals.map Gl.cells):=rfl
 refine ⟨by omega,by omega,by omega,by omega,by omega,by omega,fun s h=>?_,fun f h=>?_,fun s h=>?_,fun s h=>?_,fun g h=>?_,by omega⟩
 · have := Q3 (F := fun s : Zg => [PV.str s]) h
   have e2:wtL [PV.str s]=(s.length+1)+0:=rfl
   omega
 · have := Q3 (F := Fr.cells) h
   have e2:wtL f.cells=(f.role.length+1)+((f.name.length+1)+(1+0)):=rfl
   omega
 · have := Q3 (F := fun s : Zg => [PV.str s]) h
   have e2:wtL [PV.str s]=(s.length+1)+0:=rfl
   omega
 · have := Q3 (F := Sp.cells) h
   have e2:wtL s.cells=(s.frm.length+1)+((s.to.length+1)+wtL (s.msg.cells++ [.int .i64 s.line])):=rfl
   exact ⟨by omega,by omega,hs s h⟩
 · have := Q3 (F := Gl.cells) h
   have e2:wtL g.cells=1+((g.role.length+1)+((g.wth.length+1)+(wt (slV g.dn 4 (Zb g.data))+(1+0)))):=rfl
   exact ⟨by omega,by omega,hg g h⟩
end Go.Vm
namespace Go.Proofs.YtgnklbkmfeafaaaGreatDoor.transformTags
open Go.ChangeShapes Go.WideShapes Go.ChangeAt Go.RowKit Go.Vm Go.Vm.Seat
variable {H α:Type} {cs:List PV}
theorem own:ownKnob Tryz.prog.godebug=none:=by kernel_rfl
def cl:List TypeId:=[3,9,22,49,47,66,23,51,24,54,25,27]
theorem ZjB:∀ t,t∈cl→ZhV E0.T cl t=true:=by
 intro t ht
 have h:cl.all (fun t=>ZhV E0.T cl t)=true:=by kernel_rfl
 exact List.all_eq_true.1 h t ht
theorem e3:E0.T 3=some ⟨.int .i64,1,8,.int .i64 0⟩:=by kernel_rfl
theorem e9:E0.T 9=some ⟨.string,1,16,.str []⟩:=by kernel_rfl
theorem eSs:E0.T 22=some ⟨.slice 9,1,24,.nils⟩:=by kernel_rfl
theorem eT:E0.T 49=some ⟨.struct [(0,3),(1,9),(2,3),(3,47)],4,56,.agg [.int .i64 0,.str [],.int .i64 0,.nils]⟩:=by kernel_rfl
theorem eTs:E0.T 47=some ⟨.slice 49,1,24,.nils⟩:=by kernel_rfl
theorem eF:E0.T 66=some ⟨.struct [(0,9),(1,9),(2,3)],3,40,.agg [.str [],.str [],.int .i64 0]⟩:=by kernel_rfl
theorem eFs:E0.T 23=some ⟨.slice 66,1,24,.nils⟩:=by kernel_rfl
theorem eP:E0.T 51=some ⟨.struct [(0,9),(1,9),(2,49),(6,3)],7,96,.agg [.str [],.str [],.int .i64 0,.str [],.int .i64 0,.nils,.int .i64 0]⟩:=by kernel_rfl
theorem ePs:E0.T 24=some ⟨.slice 51,1,24,.nils⟩:=by kernel_rfl
theorem eG:E0.T 54=some ⟨.struct [(0,3),(1,9),(2,9),(3,47),(4,3)],5,72,.agg [.int .i64 0,.str [],.str [],.nils,.int .i64 0]⟩:=by kernel_rfl
theorem eGs:E0.T 25=some ⟨.slice 54,1,24,.nils⟩:=by kernel_rfl
theorem eN:E0.T 27=some ⟨.struct [(0,9),(1,22),(2,23),(3,22),(4,24),(5,25)],6,136,.agg [.str [],.nils,.nils,.nils,.nils,.nils]⟩:=by kernel_rfl
theorem Ww {H:Type}:∀ l:List (DataW H),(l.map Rows.uptoBulk).sum=Rows.uptoBulkAll l
 | []=>by simp [Rows.uptoBulkAll]
 |d::r=>by simp only [List.map_cons,List.sum_cons,Rows.uptoBulkAll,Ww r]
theorem Zg8:BulkOk (H:=H) Rows.uptoBulk where
 lit l:=by cases l<;>simp [Rows.uptoBulk]
 str s:=by simp [Rows.uptoBulk]
 nil:=by simp [Rows.uptoBulk]
 slice e s:=by simp only [Rows.uptoBulk,Ww];omega
 agg ps:=by simp only [Rows.uptoBulk,Ww];omega
theorem Zf1 {α:Type} {F:α→List PV} {Q:α→Prop}:∀ (el:List (List PV)),(∀ c,c∈el→∃ x,c=F x∧Q x)→∃ l:List α,el=l.map F∧∀ x,x∈l→Q x
 | [],_=>⟨[],rfl,by simp⟩
 | c :: r, h => by
   obtain ⟨s,hs,hq⟩:=h c List.mem_cons_self
   obtain ⟨l,hl,hr⟩:=Zf1 r fun c hc=>h c (List.mem_cons_of_mem _ hc)
   exact ⟨s::l,by rw [hs,hl];rfl,fun x hx=>by
    rcases List.mem_cons.1 hx with rfl|hx
    · exact hq
    · exact hr x hx⟩
theorem QU {F : α → List PV} {Q : α → Prop} {sl el : TypeId} {ei : TI} (hsl : E0.T sl = some ⟨.slice el, 1, 24, .nils⟩) (hel : E0.T el = some ei) (one : ∀ c, Sh E0.T el c → ∃ x, c = F x ∧ Q x) (h : Sh E0.T sl cs) :
  ∃ (b:Bool) (l:List α),cs= [slV b ei.size (l.map F)]∧∀ x,x∈l→Q x:=by
 cases h with
 |bool h' hk'=>rw [hsl] at h';cases h';cases hk'
 |int h' hk'=>rw [hsl] at h';cases h';cases hk'
 |str h' hk'=>rw [hsl] at h';cases h';cases hk'
 |struct h' hk'=>rw [hsl] at h';cases h';cases hk'
 |nils h' hk'=>exact ⟨true,[],by rw [List.map_nil,Zq],by simp⟩
 | sl h' hk' he hl hx =>
   rw [hsl] at h';cases h';cases hk'
   rw [hel] at he;cases he
   obtain ⟨l,rfl,hq⟩:=Zf1 _ fun c hc=>one c (hx c hc)
   exact ⟨false,l,by rw [Up],hq⟩
theorem Qv (c:List PV) (h:Sh E0.T 9 c):∃ x:Zg,c= [.str x]∧True:=by
 obtain ⟨s,hs,_⟩:=ZfF h e9 rfl
 exact ⟨s,hs,trivial⟩
theorem Zjj {x:TypeId} (h:Sh E0.T x cs):(x=49→∃ tm:Tm,cs=tm.cells∧tm.Ok)∧(x=47→∃ b kz,cs= [slV b 4 (Zb kz)]∧(∀ k,k∈kz→k.Ok)∧kz.length≤maxLen):=
 ZiX (i:=3) (s:=9) (l:=47) (t:=49) e3 rfl rfl e9 rfl rfl eTs rfl rfl eT rfl rfl h
theorem ln3 {l:List α} (h:l.length=3):∃ a b c,l= [a,b,c]:=by
 match l,h with
 | [a,b,c],_=>exact ⟨a,b,c,rfl⟩
theorem ln5 {l:List α} (h:l.length=5):∃ a b c d e,l= [a,b,c,d,e]:=by
 match l,h with
 | [a,b,c,d,e],_=>exact ⟨a,b,c,d,e,rfl⟩
theorem ln6 {l:List α} (h:l.length=6):∃ a b c d e f,l= [a,b,c,d,e,f]:=by
 match l,h with
 | [a,b,c,d,e,f],_=>exact ⟨a,b,c,d,e,f,rfl⟩
theorem ln7 {l:List α} (h:l.length=7):∃ a b c d e f g,l= [a,b,c,d,e,f,g]:=by
 match l,h with
 | [a,b,c,d,e,f,g],_=>exact ⟨a,b,c,d,e,f,g,rfl⟩
theorem Zic (c:List PV) (h:Sh E0.T 66 c):∃ x:Fr,c=x.cells∧True:=by
 cases h with
 |bool h' hk'=>rw [eF] at h';cases h';cases hk'
 |int h' hk'=>rw [eF] at h';cases h';cases hk'
 |str h' hk'=>rw [eF] at h';cases h';cases hk'
 |nils h' hk'=>rw [eF] at h';cases h';cases hk'
 |sl h' hk'=>rw [eF] at h';cases h';cases hk'
 | struct h' hk' hlen hf =>
   rw [eF] at h';cases h';cases hk'
   obtain ⟨x0,x1,x2,rfl⟩:=ln3 hlen
   have q0:=hf 0 9 _ (by simp) e9
   have q1:=hf 1 9 _ (by simp) e9
   have q2:=hf 2 3 _ (by simp) e3
   simp only [List.drop_zero,List.drop_succ_cons,List.take_succ_cons,List.take_zero] at q0 q1 q2
   obtain ⟨s0,h0, -⟩:=Qv _ q0
   obtain ⟨s1,h1, -⟩:=Qv _ q1
   obtain ⟨n2,h2, -⟩:=UP q2 e3 rfl
   simp only [List.cons.injEq,and_true] at h0 h1 h2
   subst h0 h1 h2
   exact ⟨⟨s0,s1,n2⟩,rfl,trivial⟩
theorem Zh0 (c:List PV) (h:Sh E0.T 51 c):∃ x:Sp,c=x.cells∧x.msg.Ok:=by
 cases h with
 |bool h' hk'=>rw [eP] at h';cases h';cases hk'
 |int h' hk'=>rw [eP] at h';cases h';cases hk'
 |str h' hk'=>rw [eP] at h';cases h';cases hk'
 |nils h' hk'=>rw [eP] at h';cases h';cases hk'
 |sl h' hk'=>rw [eP] at h';cases h';cases hk'
 | struct h' hk' hlen hf =>
   rw [eP] at h';cases h';cases hk'
   obtain ⟨x0,x1,x2,x3,x4,x5,x6,rfl⟩:=ln7 hlen
   have q0:=hf 0 9 _ (by simp) e9
   have q1:=hf 1 9 _ (by simp) e9
   have q2:=hf 2 49 _ (by simp) eT
   have q6:=hf 6 3 _ (by simp) e3
   simp only [List.drop_zero,List.drop_succ_cons,List.take_succ_cons,List.take_zero] at q0 q1 q2 q6
   obtain ⟨s0,h0, -⟩:=Qv _ q0
   obtain ⟨s1,h1, -⟩:=Qv _ q1
   obtain ⟨t,h2,hok⟩:=(Zjj q2).1 rfl
   obtain ⟨n6,h6, -⟩:=UP q6 e3 rfl
   simp only [List.cons.injEq,and_true] at h0 h1 h6
   subst h0 h1 h6
   refine ⟨⟨s0,s1,t,n6⟩,?_,hok⟩
   show _=PV.str s0::PV.str s1::(t.cells++ [.int .i64 n6])
   rw [← h2];rfl
theorem ZiM (c:List PV) (h:Sh E0.T 54 c):∃ x:Gl,c=x.cells∧∀ t,t∈x.data→t.Ok:=by
 cases h with
 |bool h' hk'=>rw [eG] at h';cases h';cases hk'
 |int h' hk'=>rw [eG] at h';cases h';cases hk'
 |str h' hk'=>rw [eG] at h';cases h';cases hk'
 |nils h' hk'=>rw [eG] at h';cases h';cases hk'
 |sl h' hk'=>rw [eG] at h';cases h';cases hk'
 | struct h' hk' hlen hf =>
   rw [eG] at h';cases h';cases hk'
   obtain ⟨x0,x1,x2,x3,x4,rfl⟩:=ln5 hlen
   have q0:=hf 0 3 _ (by simp) e3
   have q1:=hf 1 9 _ (by simp) e9
   have q2:=hf 2 9 _ (by simp) e9
   have q3:=hf 3 47 _ (by simp) eTs
   have q4:=hf 4 3 _ (by simp) e3
   simp only [List.drop_zero,List.drop_succ_cons,List.take_succ_cons,List.take_zero] at q0 q1 q2 q3 q4
   obtain ⟨n0,h0, -⟩:=UP q0 e3 rfl
   obtain ⟨s1,h1, -⟩:=Qv _ q1
   obtain ⟨s2,h2, -⟩:=Qv _ q2
   obtain ⟨b,kz,h3,hok, -⟩:=(Zjj q3).2 rfl
   obtain ⟨n4,h4, -⟩:=UP q4 e3 rfl
   simp only [List.cons.injEq,and_true] at h0 h1 h2 h3 h4
   subst h0 h1 h2 h3 h4
   exact ⟨⟨n0,s1,s2,b,kz,n4⟩,rfl,hok⟩
theorem Zh9 (h:Sh E0.T 27 cs):∃ n:Na,cs=n.cells∧(∀ s,s∈n.steps→s.msg.Ok)∧∀ g,g∈n.goals→∀ t,t∈g.data→t.Ok:=by
 cases h with
 |bool h' hk'=>rw [eN] at h';cases h';cases hk'
 |int h' hk'=>rw [eN] at h';cases h';cases hk'
 |str h' hk'=>rw [eN] at h';cases h';cases hk'
 |nils h' hk'=>rw [eN] at h';cases h';cases hk'
 |sl h' hk'=>rw [eN] at h';cases h';cases hk'
 | struct h' hk' hlen hf =>
   rw [eN] at h';cases h';cases hk'
   obtain ⟨x0,x1,x2,x3,x4,x5,rfl⟩:=ln6 hlen
   have q0:=hf 0 9 _ (by simp) e9
   have q1:=hf 1 22 _ (by simp) eSs
   have q2:=hf 2 23 _ (by simp) eFs
   have q3:=hf 3 22 _ (by simp) eSs
   have q4:=hf 4 24 _ (by simp) ePs
   have q5:=hf 5 25 _ (by simp) eGs
   simp only [List.drop_zero,List.drop_succ_cons,List.take_succ_cons,List.take_zero] at q0 q1 q2 q3 q4 q5
   obtain ⟨s0,h0, -⟩:=Qv _ q0
   obtain ⟨b1,l1,h1, -⟩:=QU (F:=fun s:Zg=>[PV.str s]) eSs e9 Qv q1
   obtain ⟨b2,l2,h2, -⟩:=QU (F:=Fr.cells) eFs eF Zic q2
   obtain ⟨b3,l3,h3, -⟩:=QU (F:=fun s:Zg=>[PV.str s]) eSs e9 Qv q3
   obtain ⟨b4,l4,h4,k4⟩:=QU (F:=Sp.cells) ePs eP Zh0 q4
   obtain ⟨b5,l5,h5,k5⟩:=QU (F:=Gl.cells) eGs eG ZiM q5
   simp only [List.cons.injEq,and_true] at h0 h1 h2 h3 h4 h5
   subst h0 h1 h2 h3 h4 h5
   exact ⟨⟨s0,b1,l1,b2,l2,b3,l3,b4,l4,b5,l5⟩,rfl,k4,k5⟩
theorem Zer:laidOutB Tryz.prog=true:=by kernel_rfl
theorem gOk (W:World):GOk E0 (wG W):=⟨fun k cs hk=>by simp [E0] at hk,fun h=>by simp [wG] at h,fun k hk=>by simp [E0] at hk⟩
set_option maxRecDepth 100000 in
theorem contract (H : Type) (enc : TypeId × Value → H) (W : World) (base : Nat) (args : Array Value) (ds gs : List (DataW H)) (before : List MemPlace)
  (hval:∀ (j:Nat) t v,Tryz.f3.params[j]? = some t→args[j]? = some v→Value.okWide Tryz.prog W .any base t v)
  (hW:DataW.Whole enc Tryz.prog Tryz.f3.params.toList Rows.transformTagsSpec.vars false W args.toList ds gs before) (_:laidMetH Tryz.prog Rows.transformTagsUptoRow.laid W) (hsm:Rows.uptoSmall H (ds++gs)=true) :
  Calls Tryz.prog 3 args W fun e W'=>∃ v,e= .returned v∧Rows.transformTagsSpec.post enc Tryz.prog Tryz.f3 false true false false W args v W':=by
 have hG:=gOk W
 have hW':=hW
 obtain ⟨p,q,hA0,hV,rfl,hfz,hnd⟩:=hW
 have hA:DataW.TrodAll enc Tryz.prog W 0 (fun _=>true) true Tryz.f3.params.toList args.toList ds p:=hA0
 rw [Tryz.params3] at hA hval
 obtain ⟨v0,vs0,d0,ds0,p0,q0,hargs,rfl,rfl,h0,r0⟩:=trodAll_cons hA
 obtain ⟨v1,vs1,d1,ds1,p1,q1,hargs1,rfl,rfl,h1,r1⟩:=trodAll_cons r0
 obtain ⟨rfl,rfl,rfl⟩:=trodAll_nil r1
 subst hargs1
 obtain rfl:args= #[v0,v1]:=by cases args;simp_all
 obtain ⟨rfl,rfl⟩:=trodVars_none hV
 have h0k:=h0
 have h1k:=h1
 obtain ⟨n1,rfl,rfl,rfl, -⟩:=open_int Tryz.underlying3 (hval 1 3 v1 rfl rfl) h1
 obtain ⟨cs0,rfl, -⟩:=okWide_struct Tryz.underlying27 (hval 0 27 v0 rfl rfl)
 obtain ⟨fuel0,hf0⟩:=h0
 obtain ⟨pcs0,hsh0,hcells0,hwt⟩:=Qf tOk Zg8 ZjB fuel0 27 _ _ (by simp [cl]) hf0
 obtain ⟨x,rfl,k4,k5⟩:=Zh9 hsh0
 have hxo:x.Ok:=Zi1 (by
  have h:=of_decide_eq_true hsm
  simp only [List.append_nil,Rows.uptoBulkAll] at h
  simp only at hwt
  omega) k4 k5
 clear hA0
 simp only [List.append_nil] at hW'
 have hlt0:∀ x∈p0,x.block<W.heap.size:=fun x hx=>by simpa using hW'.lt x (by simp [hx])
 have call:=Zdg fe3.ok hG (c3 hxo n1 hNil) (w:=W) (vals:= #[.agg cs0,.int .i64 n1]) ⟨rfl,fun i hi hj=>by
  match i,hi with
  | 0,_=>exact Zhs hcells0
  | 1,_=>exact .int _ _⟩
 refine Calls.mono call fun e W' ⟨v,he,⟨g',hv⟩,hg,hsame⟩=>?_
 obtain rfl:=hv.bool_inv
 subst he
 refine ⟨_,rfl,ZdH (pa:=p0) (pv:=[]) hW' (fun _ _ _=>trodAll_cons_mk (shut_bool Tryz.underlying4 _) trodAll_mk0) (fun sp hsp=>?_) (fun _ _=>rfl) (by simp)
  (hg.frame _) hg.fz (ok_one (by kernel_rfl) rfl (okWide_bool_mk Tryz.underlying4 _))⟩
 have t0:=WideElems.Trod_stays (sp':=sp) (W':=W') Zer (by kernel_rfl) (of_decide_eq_true (by kernel_rfl)) h0k (fun x hx=>Zgj hsame (hlt0 x hx)) (fun x hx=>hsp x (by simp [hx]))
 have t1:=WideElems.Trod_stays (sp':=sp) (W':=W') Zer (by kernel_rfl) (of_decide_eq_true (by kernel_rfl)) h1k (fun x hx=>absurd hx (by simp)) (fun x hx=>absurd hx (by simp))
 have t3:=trodAll_mk2 t0 t1
 simp only [List.append_nil] at t3
 exact t3
noncomputable def lay (c:Array Value):Obj→Obj
 | .cells _ t frozen=> .cells c t frozen
 |o=>o
noncomputable def V8 (os:Os):World:=
 { World.holding Tryz.prog os ⟨#[], #[], []⟩ with
   heap:=((((World.holding Tryz.prog os ⟨#[], #[],[]⟩).heap.modify 2 (lay #[.int .u8 0,.int .u8 1,.int .u8 28,.int .u8 2,.int .u8 29,.int .u8 14,.int .u8 24,.int .u8 3,.int .u8 30,.int .u8 22,.int .u8 20,.int .u8 15,.int .u8 25,.int .u8 17,.int .u8 4,.int .u8 8,.int .u8 31,.int .u8 27,.int .u8 13,.int .u8 23,.int .u8 21,.int .u8 19,.int .u8 16,.int .u8 7,.int .u8 26,.int .u8 12,.int .u8 18,.int .u8 6,.int .u8 11,.int .u8 5,.int .u8 10,.int .u8 9])).modify 3 (lay #[.int .u8 0,.int .u8 1,.int .u8 56,.int .u8 2,.int .u8 57,.int .u8 49,.int .u8 28,.int .u8 3,.int .u8 61,.int .u8 58,.int .u8 42,.int .u8 50,.int .u8 38,.int .u8 29,.int .u8 17,.int .u8 4,.int .u8 62,.int .u8 47,.int .u8 59,.int .u8 36,.int .u8 45,.int .u8 43,.int .u8 51,.int .u8 22,.int .u8 53,.int .u8 39,.int .u8 33,.int .u8 30,.int .u8 24,.int .u8 18,.int .u8 12,.int .u8 5,.int .u8 63,.int .u8 55,.int .u8 48,.int .u8 27,.int .u8 60,.int .u8 41,.int .u8 37,.int .u8 16,.int .u8 46,.int .u8 35,.int .u8 44,.int .u8 21,.int .u8 52,.int .u8 32,.int .u8 23,.int .u8 11,.int .u8 54,.int .u8 26,.int .u8 40,.int .u8 15,.int .u8 34,.int .u8 20,.int .u8 31,.int .u8 10,.int .u8 25,.int .u8 14,.int .u8 19,.int .u8 9,.int .u8 13,.int .u8 8,.int .u8 7,.int .u8 6])).modify 0 (lay #[.int .u64 1,.int .u64 10,.int .u64 100,.int .u64 1000,.int .u64 10000,.int .u64 100000,.int .u64 1000000,.int .u64 10000000,.int .u64 100000000,.int .u64 1000000000,.int .u64 10000000000,.int .u64 100000000000,.int .u64 1000000000000,.int .u64 10000000000000,.int .u64 100000000000000,.int .u64 1000000000000000,.int .u64 10000000000000000,.int .u64 100000000000000000,.int .u64 1000000000000000000,.int .u64 10000000000000000000]))}
def wit:Array Value:= #[.agg #[.string ⟨#[]⟩,.slice none 0 0,.slice none 0 0,.slice none 0 0,.slice none 0 0,.slice none 0 0],.int .i64 0]
theorem ZeY (os:Os):laidMet Tryz.prog Rows.transformTagsUptoRow.laid ((V8 os).forCall (fun _ _=>0) ⟨#[],wit,[]⟩).memory:=
 laidMet_of_run' 8 (by kernel_rfl) (by kernel_rfl)
theorem ZiD (os:Os) (enc:TypeId×Value→H):∃ places,DataW.whole enc Tryz.prog ((V8 os).forCall (fun _ _=>0) ⟨#[],wit,[]⟩).memory Tryz.f3.params.toList Rows.transformTagsSpec.vars false wit.toList 8=some ([.agg [.lit (.string []),.nil,.nil,.nil,.nil,.nil],.lit (.int .i64 0)],[],places):=
 ⟨[],by kernel_rfl⟩
set_option maxRecDepth 100000 in
theorem lifted (os : Os) (started : os.Started) (H : Type) (enc : TypeId × Value → H) (F : Stop.Interp) :
  ReturnsInHanded {} Tryz.checked os 3 .any ((Rows.OpenSpec.upto Rows.transformTagsSpec).preRow enc Tryz.prog Tryz.f3 Rows.transformTagsUptoRow.domain false Rows.transformTagsUptoRow.laid) (((Rows.OpenSpec.upto Rows.transformTagsSpec).at F).post enc Tryz.prog Tryz.f3 false true false false):=by
 obtain ⟨places,hx⟩:=ZiD os enc
 refine returnsInHanded_of_row (C:=Tryz.checked) (s:=Rows.OpenSpec.upto Rows.transformTagsSpec) own started (by kernel_rfl) Tryz.func3
  (witness_row_atRef (enc := enc) (C := Tryz.checked) false (V8 os) wit rfl (by kernel_rfl) (by kernel_rfl) (by kernel_rfl)
    (OpenSpec.preRow_of_cond 8 hx (by kernel_rfl) (fun k hk=>by cases hk;kernel_rfl) (by kernel_rfl) (ZeY os))) ?_
 intro W base args ds gs before hval hW x1 x2 x3 x4 x5 x6
 exact contract H enc W base args ds gs before hval hW (by first|exact x1|exact x3|exact x4|exact x5|exact x6) (x2 _ rfl)
theorem said:Rows.TransformTagsUptoSaid:=
 OpenClaim.holds_of_cond 3 Tryz.f3 rfl rfl rfl rfl rfl rfl rfl ⟨rfl,rfl,rfl,rfl,rfl⟩ rfl rfl rfl rfl rfl (by kernel_rfl) Tryz.func3 (by kernel_rfl)
  (of_decide_eq_true (by kernel_rfl)) (by unfold Func.isWrapper;first|(rw [if_pos (by decide +kernel)];kernel_rfl)|(rw [if_neg (by decide +kernel)];exact ⟨rfl,rfl⟩))
  (fun os started H enc _ F=>by rw [OpenClaim.pre_eq_preRow];exact lifted os started H enc F)
theorem plain (f:FuncId) (fn:Func) (hf:Tryz.pinned.checked.prog.funcNamed "sealring/sealringlaw58.TransformTags" = some f) (hfn:Tryz.pinned.checked.prog.funcs[f]? = some fn) :
  false=Tryz.pinned.checked.prog.looks []∧∀ (j:Nat) t,fn.params[j]? = some t→Tryz.pinned.checked.prog.wantsStandIn t=false:=by
 obtain rfl:f=3:=Option.some.inj ((show Tryz.prog.funcNamed "sealring/sealringlaw58.TransformTags" = some 3 by kernel_rfl).symm.trans hf) |>.symm
 obtain rfl:fn=Tryz.f3:=(Option.some.inj (Tryz.func3.symm.trans hfn)).symm
 refine ⟨by kernel_rfl,fun j t ht=>?_⟩
 rw [Tryz.params3] at ht
 match j,ht with
 | 0, ht => obtain rfl : 27 = t := by simpa using ht
            exact (show Tryz.prog.wantsStandIn 27=false by kernel_rfl)
 | 1, ht => obtain rfl : 3 = t := by simpa using ht
            exact (show Tryz.prog.wantsStandIn 3=false by kernel_rfl)
theorem card:Rows.TransformTagsUptoCardSaid:=
 Claim7.holds_tied_plain_at .later [] _ _ _ _ said (fun _ h=>by cases h) (by kernel_rfl) (fun _ h=>by cases h) transformTagsUpto_row_tie rfl ⟨rfl,rfl⟩ (by kernel_rfl) rfl plain (by kernel_rfl)
