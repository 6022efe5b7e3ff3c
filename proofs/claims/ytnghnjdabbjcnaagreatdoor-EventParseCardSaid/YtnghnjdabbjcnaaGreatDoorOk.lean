/-
  slices.Delete at powers: one of them is taken out.
-/
import Derived.Test.YtnghnjdabbjcnaaGreatDoorOi
import Derived.Lib.SliceRun
import Derived.Deep.RegionLaw
set_option maxHeartbeats 0
set_option maxRecDepth 100000
namespace Go.Vm.Seat
variable {el:List (List PV)} {i n:Nat} {H:Heap}
open Go.Proofs
theorem Qy {g:Gh} {c:Array Value} (hw:∀i (hi:i<el.length),(el[i]).length=5) (hv:∀i (hi:i<el.length) j (hj:j<(el[i]).length),∃v,c[i*5+j]? = some v∧V g ((el[i])[j]) v) (hc:el.all (fun x=>x.all ZP)=true) (hn:n=el.length*5):∀v∈c.toList.take n,v.oneCell'=true:=by
 intro v h;obtain⟨k,hk,rfl⟩:=List.mem_iff_getElem.1 h;have hk':k<el.length*5:=by simp at hk;omega
 have hi:k / 5<el.length:=by omega
 have hj:k % 5<5:=by omega
 obtain⟨u,h1,h2⟩:=hv (k / 5) hi (k % 5) (by rw[hw _ hi];exact hj);rw[Nat.div_add_mod']at h1;have hkc:k<c.size:=by simp at hk;omega
 rw[Array.getElem?_eq_getElem hkc]at h1;have e:(c.toList.take n)[k]=u:=by simpa using h1
 rw[e];exact XU h2 (List.all_eq_true.1 (List.all_eq_true.1 hc _ (List.getElem_mem hi)) _ (List.getElem_mem _))
theorem Zre {α:Type} {l:List α} (h:l.length=3):∃a b c,l= [a,b,c]:=by
 match l,h with
 | [a,b,c],_=>exact⟨a,b,c,rfl⟩
def V3 (el:List (List PV)) (i:Nat) (y:List PV):List (List PV):=el.take i++ [y]++el.drop i
theorem ZiI (h:i≤el.length) (y:List PV):(V3 el i y).length=el.length+1:=by simp only[V3,List.length_append,List.length_take,List.length_drop,List.length_singleton];omega
theorem ZdI (h:i≤el.length) (y:List PV) {k:Nat} {x:List PV} (hx:(V3 el i y)[k]? = some x):(k<i∧el[k]? = some x)∨(k=i∧x=y)∨(i<k∧el[k-1]? = some x):=by
 unfold V3 at hx;rcases Nat.lt_trichotomy k i with hk|rfl|hk;{refine .inl ⟨hk,?_⟩;rw[List.append_assoc,List.getElem?_append_left (by simp;omega),List.getElem?_take,if_pos hk]at hx;exact hx}
 ·refine .inr (.inl ⟨rfl,?_⟩);rw[List.append_assoc,List.getElem?_append_right (by simp;omega)]at hx;have e:k-(el.take k).length=0:=by simp;omega
  rw[e]at hx;simpa using hx.symm
 ·refine .inr (.inr ⟨hk,?_⟩);rw[List.getElem?_append_right (by simp;omega)]at hx;have e:k-(el.take i++ [y]).length=k-i-1:=by simp;omega
  rw[e,List.getElem?_drop]at hx;rw[← hx];congr 1;omega
theorem YA (b:Nat):∀(vs:List Value) (o:Nat) (w:World),(w.setCells b o vs).tape=w.tape∧(w.setCells b o vs).drawn=w.drawn
 | [],_,_=>⟨rfl,rfl⟩
 |v::r,o,w=>by rw[World.setCells];obtain⟨h1,h2⟩:=YA b r (o+1) (w.setCell ⟨b,o,none⟩ v);rw[h1,h2];exact⟨rfl,rfl⟩
theorem ZnL {id id2:Nat} {y:List PV} (hb1:H.bx[id]? = some (.cells 5 el)) (hb2:H.bx[id2]? = some (.cells 5 [y])) (hro:H.ro≤id) (hne:id≠id2) (hn:el.length=n) (hin:i<n) (hn2:n≤1000) (hc:el.all (fun x=>x.all ZP)=true) (hy:y.all ZP=true):CO 254 [.own id 5 0 n,.int .i64 (i:Int),.own id2 5 0 1] H (.own H.bx.length 5 0 (n+1)) {H with bx:=H.bx.set id .dead++ [.cells 5 (V3 el i y)]}:=by
 intro g w vals hi hg hv;obtain⟨l,hv⟩:=hv;obtain⟨v0,v1,v2,hvals⟩:=Zre (show vals.toList.length=3 by simpa using l);rw[hvals]at hv;have a0:=hv 0 (by simp) (by simp);have a1:=hv 1 (by simp) (by simp);have a2:=hv 2 (by simp) (by simp);simp only[List.getElem_cons_succ,List.getElem_cons_zero]at a0 a1 a2;obtain rfl:=a1.int_inv;obtain⟨b,cap,a,hσ,hcap,ha, -,⟨hk1,hk2⟩,rfl⟩:=a0.own_inv2;obtain⟨vb,vc,av,hσv,hvc,hav, -, -,rfl⟩:=a2.own_inv2;obtain rfl:=ha (by omega);obtain rfl:=hav (by omega);obtain rfl:vals= #[.slice (some ⟨b,0*5,none⟩) n cap,.int .i64 (i:Int),.slice (some ⟨vb,0*5,none⟩) 1 vc]:=Array.toList_inj.1 (by simpa using hvals);obtain⟨b',c,T,s1,s2,s3,s4,s5,s6⟩:=hi.bx _ _ _ hb1;rw[hσ]at s1;cases s1;obtain⟨vb',c2,T2,t1,t2,t3,t4,t5,t6⟩:=hi.bx _ _ _ hb2;rw[hσv]at t1;cases t1;have hrm:=hi.rm id b c T _ ⟨_,hb1,trivial⟩ hσ s2;have hvb:vb≠b:=fun e=>hne (hi.inj id id2 b ⟨_,hb1,trivial⟩ ⟨_,hb2,trivial⟩ hσ (e ▸ hσv));have s4':n*5≤c.size:=by rw[← hn];simpa using s4
 have t4':5≤c2.size:=by simpa using t4
 have hbw:=hi.sz _ _ hσ;obtain⟨cs,hcs⟩:∃cs,cs=c.toList.take (n*5):=⟨_,rfl⟩;obtain⟨vs,hvs⟩:∃vs,vs=c2.toList.take 5:=⟨_,rfl⟩;have lcs:cs.length=n*5:=by rw[hcs];simp;omega
 have lvs:vs.length=5:=by rw[hvs];simp;omega
 have gcs:∀j,j<n*5→cs[j]? = c[j]? :=fun j hj=>by rw[hcs];simp[hj]
 have gvs:∀j,j<5→vs[j]? = c2[j]? :=fun j hj=>by rw[hvs];simp[hj]
 have kcs:∀j v,cs[j]? = some v→w.cell? ⟨b,0+j,none⟩=some v:=fun j v e=>by
  have hj:j<n*5:=by have:=Zy e;omega
  rw[gcs j hj]at e;simpa[World.cell?,s2] using e
 have kvs:∀j v,vs[j]? = some v→w.cell? ⟨vb,0+j,none⟩=some v:=fun j v e=>by
  have hj:j<5:=by have:=Zy e;omega
  rw[gvs j hj]at e;simpa[World.cell?,t2] using e
 have ocs:∀v∈cs,v.oneCell'=true:=by rw[hcs];exact Qy s3 s5 hc (by rw[hn])
 have ovs:∀v∈vs,v.oneCell'=true:=by rw[hvs];exact Qy t3 t5 (by simpa using hy) (by simp)
 have fr0:∀o,w.frozen? ⟨b,o,none⟩=false:=fun o=>by simp[World.frozen?,s2]
 have fr1:∀o,w.frozen? ⟨vb,o,none⟩=false:=fun o=>by simp[World.frozen?,t2]
 have hshA:w.shape? vb=some (T2,c2.size):=by simp[World.shape?,t2]
 have hshB:w.shape? b=some (T,c.size):=by simp[World.shape?,s2]
 have hpl:=ZiI (el:=el) (i:=i) (by omega) y;have wy:y.length=5:=t3 0 (by simp);have wel0:∀(k:Nat) (x:List PV),(V3 el i y)[k]? = some x→x.length=5:=fun k x hx=>by rcases ZdI (by omega) y hx with⟨_,e⟩|⟨_,rfl⟩|⟨_,e⟩;{have hk:=Zy e;rw[← Ul e];exact s3 k hk};{exact wy};{have hk:=Zy e;rw[← Ul e];exact s3 _ hk}
 have wel:∀k (hk:k<(V3 el i y).length),((V3 el i y)[k]).length=5:=fun k hk=>wel0 k _ (List.getElem?_eq_getElem hk);have vel : ∀F : Array Value, (∀j, j < i * 5 → F[j]? = cs[j]?) → (∀j, j < 5 → F[i * 5 + j]? = vs[j]?) → (∀j, j < (n - i) * 5 → F[(i + 1) * 5 + j]? = cs[i * 5 + j]?) →
   ∀k (hk:k<(V3 el i y).length) j (hj:j<((V3 el i y)[k]).length),∃v,F[k*5+j]? = some v∧V g (((V3 el i y)[k])[j]) v:=by
  intro F hF1 hF2 hF3 k hk j hj
  have hj5:j<5:=by rw[wel k hk]at hj;exact hj
  have hx:=List.getElem?_eq_getElem hk
  generalize (V3 el i y)[k]=x at hx hj ⊢
  rcases ZdI (by omega) y hx with⟨hki,e⟩|⟨rfl,rfl⟩|⟨hki,e⟩
  · obtain⟨hk', rfl⟩ := List.getElem?_eq_some_iff.1 e
    obtain⟨v,e1,e2⟩:=s5 k hk' j hj
    refine⟨v,?_,e2⟩
    rw[hF1 _ (by omega),gcs _ (by omega)];exact e1
  · obtain⟨v, e1, e2⟩ := t5 0 (by simp) j hj
    refine⟨v,?_,e2⟩
    rw[hF2 _ hj5,gvs _ hj5];simpa using e1
  · obtain⟨hk', rfl⟩ := List.getElem?_eq_some_iff.1 e
    obtain⟨v,e1,e2⟩:=s5 (k-1) hk' j hj
    refine⟨v,?_,e2⟩
    have q1:k*5+j=(i+1)*5+((k-1-i)*5+j):=by omega
    have q2:i*5+((k-1-i)*5+j)=(k-1)*5+j:=by omega
    rw[q1,hF3 _ (by omega),q2,gcs _ (by omega)];exact e1
 have hf:FnOk Tryz.prog 254 fe254.fn fe254.c:=fe254.ok;rw[Zx hf];simp only[UponCall];have ldr:(cs.drop (i*5)).length=(n-i)*5:=by rw[List.length_drop,lcs, ← Nat.sub_mul]
 by_cases hroom:n+1≤cap
 ·have hsz:(n+1)*5≤c.size:=by have:=Nat.mul_le_mul_right 5 hroom;omega
  refine Calls.mono (Zi2 b cap n i vb vc cs vs w hin hn2 hroom (by omega) hvb lcs lvs kcs (fun j hj=>by simp[World.cell?,s2];omega) (fun j _=>fr0 _) kvs ocs ovs T2 T c2.size c.size hshA hshB (by omega) (fr1 _) (fr1 _)) fun e w' ⟨he,hw'⟩=>?_;subst he;obtain⟨c3,r1,r2,r3,r4,r5,r6,r7,r8⟩:=Y8 (w:=w.drew) (b:=b) s2 (cs.drop (i*5)) ((i+1)*5) (by omega);obtain⟨c4,z1,z2,z3,z4,z5,z6,z7,z8⟩:=Y8 (w:=w.drew.setCells b ((i+1)*5) (cs.drop (i*5))) (b:=b) r1 vs (i*5) (by omega);rw[← hw']at z1 z5 z6 z7 z8;obtain⟨q1,q2⟩:=YA b vs (i*5) (w.drew.setCells b ((i+1)*5) (cs.drop (i*5)));obtain⟨q3,q4⟩:=YA b (cs.drop (i*5)) ((i+1)*5) w.drew;rw[← hw',q3]at q1;rw[← hw',q4]at q2;have hso:SameOut g w w':=⟨z7.1.trans r7.1,z7.2.trans r7.2,q1,fun _=>by rw[q2];exact Nat.le_succ _⟩;obtain⟨j1,j2⟩:=Zhe hi (w':=w') hro hb1 trivial hσ s6 (fun k hk=>(z5 k hk).trans (r5 k hk)) (z6.trans r6) z1 (fun a=>(z8 a).trans (r8 a)) hso
   (es := 5) (el := V3 el i y) wel (by omega) (vel c4 (fun j hj => by
     rw[z4 j (.inl hj),r4 j (.inl (by omega)),gcs j (by omega)]) (fun j hj=>by
     rw[z3 j (by omega),List.getElem?_eq_getElem (by omega)]) (fun j hj=>by
     rw[z4 _ (.inr (by omega)),r3 j (by omega), ← List.getElem?_eq_getElem,List.getElem?_drop])) (g.κ id) (by omega)
  exact⟨_,rfl,_,.own _ _ _ _ b cap _ (by simp[Gh.link]) hroom (fun _=>by simp) rfl ⟨by simpa[Gh.link] using hk1,hk2⟩,j1,j2⟩
 ·refine Calls.mono (ZhX b cap n i vb vc cs vs w hin hn2 hcap (by omega) lcs lvs kcs kvs ocs ovs) fun e w' ⟨G,ROW,g1,g2,g3,g4,he,hw'⟩=>?_;subst he;have hn0:((w.alloc (.cells ROW 227)).drew).heap[w.heap.size]? = some (.cells ROW 227 (0,0)):=Z9 w _;obtain⟨c3,r1,r2,r3,r4,r5,r6,r7,r8⟩:=Y8 hn0 vs (i*5) (by omega);have r1':(((w.alloc (.cells ROW 227)).drew.setCells w.heap.size (i*5) vs).drew).heap[w.heap.size]? = some (.cells c3 227 (0,0)):=r1;obtain⟨c4,z1,z2,z3,z4,z5,z6,z7,z8⟩:=Y8 r1' (cs.drop (i*5)) ((i+1)*5) (by omega);rw[← hw']at z1 z5 z6 z7 z8;have hh:w'.heap=(w.alloc (.cells c4 227)).heap:=by refine Array.ext_getElem? fun k=>?_;by_cases e:k=w.heap.size;{subst e;rw[z1,Z9]};{rw[z5 k e];refine(r5 k e).trans ?_;rcases Nat.lt_or_ge k w.heap.size with h|h;{exact(Zq w _ h).trans (Zq w _ h).symm};{exact(U6 w _ (by omega)).trans (U6 w _ (by omega)).symm}}
  obtain⟨q1,q2⟩:=YA w.heap.size (cs.drop (i*5)) ((i+1)*5) (((w.alloc (.cells ROW 227)).drew.setCells w.heap.size (i*5) vs).drew);obtain⟨q3,q4⟩:=YA w.heap.size vs (i*5) ((w.alloc (.cells ROW 227)).drew);rw[← hw']at q1 q2;have hso:SameOut g w w':=⟨z7.1.trans r7.1,z7.2.trans r7.2,q1.trans q3,fun _=>by
   rw[q2]
   show w.drawn≤((w.alloc (.cells ROW 227)).drew.setCells w.heap.size (i*5) vs).drawn+1
   rw[q4]
   show w.drawn≤w.drawn+1+1
   omega⟩
  obtain⟨j1, j2⟩ := Zhy hi (w' := w') hro hh hso (es := 5) (el := V3 el i y) wel (by omega) (vel c4 (fun j hj => by
    rw[z4 j (.inl (by omega)),r4 j (.inl hj),g4 j hj]) (fun j hj=>by
    rw[z4 _ (.inl (by omega)),r3 j (by omega),List.getElem?_eq_getElem (by omega)]) (fun j hj=>by
    rw[z3 j (by omega), ← List.getElem?_eq_getElem,List.getElem?_drop])) c4.size (Nat.le_refl _)
  exact⟨_,rfl,_,.own _ _ _ _ w.heap.size G _ (by simp[Gh.link]) g1 (fun _=>by simp) rfl ⟨by simp[Gh.link];omega,g2⟩,j1,j2⟩
open Go.RowKit Go.Lib
theorem Zbk {P:Program} (w:World) (t e ty:TypeId) (z:Value) (ht:P.underlying t=some (.slice e)) (hv:∀w,(zeroValue e).run P w= .ok z w) (b o n c:Nat) (hn:0<n) (zs:List Value) (hz:(Builtin.zeroCells z.cells n).toList=zs) (h1:∀v∈zs,v.oneCell'=true) (hc:∀j,j<zs.length→(w.cell? ⟨b,o+j,none⟩).isSome=true) (hf:∀j,j<zs.length→w.frozen? ⟨b,o+j,none⟩=false):(Builtin.clear_ #[t] ty #[.slice (some ⟨b,o,none⟩) n c]).run P w= .ok (.tuple #[]) (w.setCells b o zs):=by have hst:=run_storeCells_cells (P:=P) b o zs 0 w (by simpa using hc) (by simpa using hf) h1;simp only[Nat.add_zero]at hst;obtain⟨m,rfl⟩:∃m,n=m+1:=⟨n-1,by omega⟩;simp[Builtin.clear_,run_underlying ht,hv,hz,hst]
theorem Zqs (b c n i : Nat) (cs : List Value) (w : World) (hi : i < n) (hn : n ≤ 1000) (hnc : n ≤ c) (hc63 : c ≤ 9223372036854775807) (hcl : cs.length = n * 5)
  (hcs:∀j v,cs[j]? = some v→w.cell? ⟨b,0+j,none⟩=some v) (hfz:∀j,j<n*5→w.frozen? ⟨b,0+j,none⟩=false) (h1c:∀v∈cs,v.oneCell'=true) :
  Calls Tryz.prog 255 #[.slice (some ⟨b,0,none⟩) n c,.int .i64 (i:Int),.int .i64 ((i+1:Nat):Int)] w fun e w'=>
   e= .returned (.slice (some ⟨b,0,none⟩) (n-1) c)∧∃zs:List Value,zs.length=5∧w'=(w.drew.setCells b (i*5) (cs.drop ((i+1)*5))).setCells b ((n-1)*5) zs:=by
 have mixed:=follows
 have hsz:(Tryz.prog.info? 227).map (fun i=>(i.size,(i.zero.map (fun z=>((Builtin.zeroCells z.cells 1).toList.length,(Builtin.zeroCells z.cells 1).toList.all (·.oneCell'))))))=some (5,some (5,true)):=by kernel_rfl
 obtain⟨i0,hi0⟩:∃i,Tryz.prog.info? 227=some i:=by
  cases hq:Tryz.prog.info? 227 with
  | none=>simp[hq]at hsz
  | some i=>exact⟨i,rfl⟩
 simp only[hi0,Option.map_some,Option.some.injEq,Prod.mk.injEq]at hsz
 obtain⟨hzs,hz0⟩:=hsz
 obtain⟨z,hz0,hz1⟩:=Option.map_eq_some_iff.1 hz0
 simp only[Prod.mk.injEq]at hz1
 obtain⟨zs,hzz⟩:∃zs,(Builtin.zeroCells z.cells 1).toList=zs:=⟨_,rfl⟩
 rw[hzz]at hz1
 obtain⟨hz5,hz6⟩:=hz1
 obtain⟨news,hnews⟩:∃news,news=cs.drop ((i+1)*5):=⟨_,rfl⟩
 have hnl:news.length=(n-(i+1))*5:=by rw[hnews,List.length_drop,hcl, ← Nat.sub_mul]
 have hlen:Hid (news.length=(n-(i+1))*5):=hnl
 have hw1:IntKind.i64.wrap ((i:Int)+1)=(i:Int)+1:=by rw[IntKind.wrap_i64];omega
 have hic:i≤c:=by omega
 have hjc:i+1≤c:=by omega
 obtain⟨A,hA,hsrc⟩:∃A:Addr,(if c=i+1 then some (⟨b,0,none⟩:Addr) else some ⟨b,(i+1)*5,none⟩)=some A∧Hid (∀t u,news[t]? = some u→w.drew.cell? (A.add t)=some u):=by
  by_cases h:c=i+1
  · refine⟨⟨b, 0, none⟩, by simp[h], fun t u hu => ?_⟩
    have h0:news.length=0:=by rw[hnl];omega
    rw[List.length_eq_zero_iff.1 h0]at hu
    simp at hu
  · refine⟨⟨b, (i + 1) * 5, none⟩, by simp[h], fun t u hu => ?_⟩
    rw[hnews,List.getElem?_drop]at hu
    rw[Addr.add_lit]
    have:=hcs _ _ hu
    simpa using this
 have s2:Hid (∀u∈news,u.oneCell'=true):=by
  intro u hu
  rw[hnews]at hu
  exact h1c u (List.mem_of_mem_drop hu)
 have cellS:∀j,j<n*5→(w.cell? ⟨b,j,none⟩).isSome=true:=fun j hj=>by
  have:=hcs j (cs[j]'(by omega)) (List.getElem?_eq_getElem (by omega))
  rw[Nat.zero_add]at this
  rw[this];rfl
 have s3:Hid (∀t,t<news.length→(w.drew.cell? ⟨b,0+i*5+t,none⟩).isSome=true∧w.drew.frozen? ⟨b,0+i*5+t,none⟩=false):=by
  intro t ht
  rw[hnl]at ht
  have hj:i*5+t<n*5:=by omega
  refine⟨?_,?_⟩
  · have := cellS _ hj
    simpa using this
  · have := hfz _ hj
    simpa using this
 obtain⟨W1,hW1⟩:∃W1,W1=w.drew.setCells b (0+i*5) news:=⟨_,rfl⟩
 have W1s:∀j,j<n*5→(W1.cell? ⟨b,j,none⟩).isSome=true:=fun j hj=>by
  rw[hW1]
  exact isSome_setCells b news (0+i*5) w.drew (fun t ht=>by rw[hnl]at ht;exact cellS _ (by omega)) j (cellS j hj)
 have W1f:∀j,j<n*5→W1.frozen? ⟨b,j,none⟩=false:=fun j hj=>by
  rw[hW1,World.frozen?_setCells]
  have:=hfz j hj
  simpa using this
 have hcl':∀ty,(Builtin.clear_ #[207] ty #[.slice (some ⟨b,(i+(n-(i+1)))*5,none⟩) (n-(i+(n-(i+1)))) (c-(i+(n-(i+1))))]).run Tryz.prog W1= .ok (.tuple #[]) (W1.setCells b ((i+(n-(i+1)))*5) zs):=fun ty=>by
  have e1:n-(i+(n-(i+1)))=1:=by omega
  rw[e1]
  exact Zbk W1 _ _ ty z Tryz.underlying207 (XC hi0 hz0) b _ 1 _ (by omega) zs hzz (fun v hv=>by
   have:=List.all_eq_true.1 hz6 v hv
   exact this) (fun j hj=>W1s _ (by omega)) (fun j hj=>W1f _ (by omega))
 have hW:Hid (W1=w.drew.setCells b (0+i*5) news):=hW1
 have hres:Hid (news=cs.drop ((i+1)*5)):=hnews
 have hz62:∀w,(Go.sizeOf 227).run Tryz.prog w= .ok 5 w:=fun w=>by simp[sizeOf,typeInfo,hi0,hzs]
 have hne:¬ ((i:Int)=(i:Int)+1):=by omega
 have hb1:(0:Int)≤(i:Int)+1:=by omega
 have htn:((i:Int)+1).toNat=i+1:=by omega
 have hb3:(i:Int)≤(i:Int)+1:=by omega
 have hb4:(i:Int)+1≤(n:Int):=by omega
 have hb5:(n:Int)≤(c:Int):=by omega
 clear hW1 hnews hnl W1s W1f cellS hcs hfz h1c
 rw[show((i+1:Nat):Int)=(i:Int)+1 by omega]
 go_enter Tryz.func255,Tryz.ntmps255
 go_wp2_with fail
 go_region_law_o (refine step_append_room rfl (.tmp 22) (.tmp 25) 207 rfl 227 i0 5 Tryz.underlying207 hi0 hzs b 0 i c (by simp[Act.eval,Act.put]) A (n-(i+1)) (c-(i+1)) news (by simp[Act.eval,Act.put]) hlen.out hsrc.out s2.out (by omega) s3.out ?_;rw[← hW.out])
 go_wp2
 go_ret
 have e1:i+(n-(i+1))=n-1:=by omega
 rw[e1,hW.out,Nat.zero_add,hres.out]
 first|exact⟨rfl,zs,hz5,rfl⟩|exact⟨zs,hz5,rfl⟩|(refine⟨rfl,zs,hz5,?_⟩;rfl)
theorem Zon {id:Nat} (hb1:H.bx[id]? = some (.cells 5 el)) (hro:H.ro≤id) (hn:el.length=n) (hin:i<n) (hn2:n≤1000) (hc:el.all (fun x=>x.all ZP)=true):CO 255 [.own id 5 0 n,.int .i64 (i:Int),.int .i64 ((i+1:Nat):Int)] H (.own id 5 0 (n-1)) {H with bx:=H.bx.set id (.cells 5 (el.take i++el.drop (i+1)))}:=by
 intro g w vals hi hg hv;obtain⟨l,hv⟩:=hv;obtain⟨v0,v1,v2,hvals⟩:=Zre (show vals.toList.length=3 by simpa using l);rw[hvals]at hv;have a0:=hv 0 (by simp) (by simp);have a1:=hv 1 (by simp) (by simp);have a2:=hv 2 (by simp) (by simp);simp only[List.getElem_cons_succ,List.getElem_cons_zero]at a0 a1 a2;obtain rfl:=a1.int_inv;obtain rfl:=a2.int_inv;obtain⟨b,cap,a,hσ,hcap,ha, -,⟨hk1,hk2⟩,rfl⟩:=a0.own_inv2;obtain rfl:=ha (.inl (by omega));obtain rfl:vals= #[.slice (some ⟨b,0*5,none⟩) n cap,.int .i64 (i:Int),.int .i64 ((i+1:Nat):Int)]:=Array.toList_inj.1 (by simpa using hvals);obtain⟨b',c,T,s1,s2,s3,s4,s5,s6⟩:=hi.bx _ _ _ hb1;rw[hσ]at s1;cases s1;have hrm:=hi.rm id b c T _ ⟨_,hb1,trivial⟩ hσ s2;have s4':n*5≤c.size:=by rw[← hn];simpa using s4
 obtain⟨cs,hcs⟩:∃cs,cs=c.toList.take (n*5):=⟨_,rfl⟩;have lcs:cs.length=n*5:=by rw[hcs];simp;omega
 have gcs:∀j,j<n*5→cs[j]? = c[j]? :=fun j hj=>by rw[hcs];simp[hj]
 have kcs:∀j v,cs[j]? = some v→w.cell? ⟨b,0+j,none⟩=some v:=fun j v e=>by
  have hj:j<n*5:=by have:=Zy e;omega
  rw[gcs j hj]at e;simpa[World.cell?,s2] using e
 have ocs:∀v∈cs,v.oneCell'=true:=by rw[hcs];exact Qy s3 s5 hc (by rw[hn])
 have fr0:∀o,w.frozen? ⟨b,o,none⟩=false:=fun o=>by simp[World.frozen?,s2]
 have hf:FnOk Tryz.prog 255 fe255.fn fe255.c:=fe255.ok;rw[Zx hf];simp only[UponCall];refine Calls.mono (Zqs b cap n i cs w hin hn2 hcap (by omega) lcs kcs (fun j _=>fr0 _) ocs) fun e w' ⟨he,zs,hz5,hw'⟩=>?_;subst he;have ldr:(cs.drop ((i+1)*5)).length=(n-(i+1))*5:=by rw[List.length_drop,lcs, ← Nat.sub_mul]
 obtain⟨c3,r1,r2,r3,r4,r5,r6,r7,r8⟩:=Y8 (w:=w.drew) (b:=b) s2 (cs.drop ((i+1)*5)) (i*5) (by omega);obtain⟨c4,z1,z2,z3,z4,z5,z6,z7,z8⟩:=Y8 (w:=w.drew.setCells b (i*5) (cs.drop ((i+1)*5))) (b:=b) r1 zs ((n-1)*5) (by omega);rw[← hw']at z1 z5 z6 z7 z8;obtain⟨q1,q2⟩:=YA b zs ((n-1)*5) (w.drew.setCells b (i*5) (cs.drop ((i+1)*5)));obtain⟨q3,q4⟩:=YA b (cs.drop ((i+1)*5)) (i*5) w.drew;rw[← hw',q3]at q1;rw[← hw',q4]at q2;have hso:SameOut g w w':=⟨z7.1.trans r7.1,z7.2.trans r7.2,q1,fun _=>by rw[q2];exact Nat.le_succ _⟩;have hel:(el.take i++el.drop (i+1)).length=n-1:=by simp only[List.length_append,List.length_take,List.length_drop];omega
 have hget:∀k (hk:k<(el.take i++el.drop (i+1)).length),(k<i∧∃h:k<el.length,(el.take i++el.drop (i+1))[k]=el[k])∨(i≤k∧∃h:k+1<el.length,(el.take i++el.drop (i+1))[k]=el[k+1]):=fun k hk=>by by_cases hki:k<i;{refine .inl ⟨hki,by omega,?_⟩;rw[List.getElem_append_left (by simp;omega)];simp};{refine .inr ⟨by omega,by omega,?_⟩;rw[List.getElem_append_right (by simp;omega)];simp only[List.getElem_drop,List.length_take];congr 1;omega}
 obtain⟨j1,j2⟩:=Uu (w':=w') hi hro hb1 trivial hσ s6 (fun k hk=>(z5 k hk).trans (r5 k hk)) (z6.trans r6) z1 (fun a=>(z8 a).trans (r8 a)) (bo:= .cells 5 (el.take i++el.drop (i+1)))
  (fun es el' h => by
    cases h
    refine⟨c4,T,rfl,fun k hk=>?_,by omega,fun k hk j hj=>?_⟩
    · rcases hget k hk with⟨_, h, e⟩ | ⟨_, h, e⟩
      · rw[e];exact s3 _ h
      · rw[e];exact s3 _ h
    · rcases hget k hk with⟨hki, h, e⟩ | ⟨hki, h, e⟩
      · simp only[e]at hj ⊢
        have hj5:j<5:=by rw[s3 _ h]at hj;exact hj
        obtain⟨v,e1,e2⟩:=s5 k h j hj
        refine⟨v,?_,e2⟩
        rw[z4 _ (.inl (by omega)),r4 _ (.inl (by omega))]
        exact e1
      · simp only[e]at hj ⊢
        have hj5:j<5:=by rw[s3 _ h]at hj;exact hj
        obtain⟨v,e1,e2⟩:=s5 (k+1) h j hj
        refine⟨v,?_,e2⟩
        rw[z4 _ (.inl (by omega))]
        have q:k*5+j=i*5+((k-i)*5+j):=by omega
        rw[q,r3 _ (by omega), ← List.getElem?_eq_getElem,List.getElem?_drop,show(i+1)*5+((k-i)*5+j)=(k+1)*5+j by omega,gcs _ (by omega)]
        exact e1)
  (fun es h => by cases h) (fun c1 T1 m1 h => by
    cases h
    omega) hso
 exact⟨_,rfl,g,.own _ _ _ _ b cap _ hσ (by omega) (fun _=>by simp) rfl ⟨hk1,hk2⟩,j1,j2⟩
