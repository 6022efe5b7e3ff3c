/-
  slices.Insert at steps, two steps ahead of others: what it gives in every world.
-/
import Derived.Test.YtgnklbkmfeafaaaGreatDoorWm
import Derived.Test.YtgnklbkmfeafaaaGreatDoorTv
set_option maxHeartbeats 0
set_option maxRecDepth 100000
namespace Go.Vm.Seat
variable {el:List (List PV)} {i n:Nat}
open Go.Proofs
theorem U7 {g : Gh} {c : Array Value} (hw : ∀ i (hi : i < el.length), (el[i]).length = 7)
  (hv:∀ i (hi:i<el.length) j (hj:j<(el[i]).length),∃ v,c[i*7+j]? = some v∧V g ((el[i])[j]) v) (hc:el.all (fun x=>x.all Zp)=true) (hn:n=el.length*7) :
  ∀ v∈c.toList.take n,v.oneCell'=true:=by
 intro v h
 obtain ⟨k,hk,rfl⟩:=List.mem_iff_getElem.1 h
 have hk':k<el.length*7:=by simp at hk;omega
 have hi:k / 7<el.length:=by omega
 have hj:k % 7<7:=by omega
 obtain ⟨u,h1,h2⟩:=hv (k / 7) hi (k % 7) (by rw [hw _ hi];exact hj)
 rw [Nat.div_add_mod'] at h1
 have hkc:k<c.size:=by simp at hk;omega
 rw [Array.getElem?_eq_getElem hkc] at h1
 have e:(c.toList.take n)[k]=u:=by simpa using h1
 rw [e]
 exact XF h2 (List.all_eq_true.1 (List.all_eq_true.1 hc _ (List.getElem_mem hi)) _ (List.getElem_mem _))
theorem Zib {α:Type} {l:List α} (h:l.length=3):∃ a b c,l= [a,b,c]:=by
 match l,h with
 | [a,b,c],_=>exact ⟨a,b,c,rfl⟩
def YZ (el:List (List PV)) (i:Nat) (y z:List PV):List (List PV):=el.take i++ [y,z]++el.drop i
theorem ZcP (h:i≤el.length) (y z:List PV):(YZ el i y z).length=el.length+2:=by
 simp only [YZ,List.length_append,List.length_take,List.length_drop,List.length_cons,List.length_nil];omega
theorem U5 (h:i≤el.length) (y z:List PV) {k:Nat} {x:List PV} (hx:(YZ el i y z)[k]? = some x):(k<i∧el[k]? = some x)∨(k=i∧x=y)∨(k=i+1∧x=z)∨(i+1<k∧el[k-2]? = some x):=by
 unfold YZ at hx
 by_cases hk:k<i
 · refine .inl ⟨hk, ?_⟩
   rw [List.append_assoc,List.getElem?_append_left (by simp;omega),List.getElem?_take,if_pos hk] at hx
   exact hx
 by_cases hk2:k<i+2
 · rw [List.append_assoc, List.getElem?_append_right (by simp; omega), List.getElem?_append_left (by simp; omega)] at hx
   have e:k-(el.take i).length=k-i:=by simp;omega
   rw [e] at hx
   by_cases e0:k=i
   · exact .inr (.inl ⟨e0,by rw [e0,Nat.sub_self] at hx;simpa using hx.symm⟩)
   · have e1 : k - i = 1 := by omega
     exact .inr (.inr (.inl ⟨by omega,by rw [e1] at hx;simpa using hx.symm⟩))
 · refine .inr (.inr (.inr ⟨by omega, ?_⟩))
   rw [List.getElem?_append_right (by simp;omega)] at hx
   have e:k-(el.take i++ [y,z]).length=k-i-2:=by simp;omega
   rw [e,List.getElem?_drop] at hx
   rw [← hx]
   congr 1
   omega
theorem YK (b:Nat):∀ (vs:List Value) (o:Nat) (w:World),(w.setCells b o vs).tape=w.tape∧(w.setCells b o vs).drawn=w.drawn
 | [],_,_=>⟨rfl,rfl⟩
 | v :: r, o, w => by
   rw [World.setCells]
   obtain ⟨h1,h2⟩:=YK b r (o+1) (w.setCell ⟨b,o,none⟩ v)
   rw [h1,h2]
   exact ⟨rfl,rfl⟩
theorem Zde {H : Heap} {id id2 : Nat} {y z : List PV} (hb1 : H.bx[id]? = some (.cells 7 el)) (hb2 : H.bx[id2]? = some (.cells 7 [y, z])) (hro : H.ro ≤ id) (hne : id ≠ id2) (hn : el.length = n) (hin : i < n) (hn2 : n ≤ 1000)
  (hc:el.all (fun x=>x.all Zp)=true) (hy:y.all Zp=true) (hz:z.all Zp=true) :
  CallOk E0 Tryz.prog 40 [.own id 7 0 n,.int .i64 (i:Int),.own id2 7 0 2] H (.own H.bx.length 7 0 (n+2)) {H with bx:=H.bx.set id .dead++ [.cells 7 (YZ el i y z)]}:=by
 intro g w vals hi hg hv
 obtain ⟨l,hv⟩:=hv
 obtain ⟨v0,v1,v2,hvals⟩:=Zib (show vals.toList.length=3 by simpa using l)
 rw [hvals] at hv
 have a0:=hv 0 (by simp) (by simp)
 have a1:=hv 1 (by simp) (by simp)
 have a2:=hv 2 (by simp) (by simp)
 simp only [List.getElem_cons_succ,List.getElem_cons_zero] at a0 a1 a2
 obtain rfl:=a1.int_inv
 obtain ⟨b,cap,a,hσ,hcap,ha, -,⟨hk1,hk2⟩,rfl⟩:=a0.own_inv2
 obtain ⟨vb,vc,av,hσv,hvc,hav, -, -,rfl⟩:=a2.own_inv2
 obtain rfl:=ha (by omega)
 obtain rfl:=hav (by omega)
 obtain rfl:vals= #[.slice (some ⟨b,0*7,none⟩) n cap,.int .i64 (i:Int),.slice (some ⟨vb,0*7,none⟩) 2 vc]:=Array.toList_inj.1 (by simpa using hvals)
 obtain ⟨b',c,T,s1,s2,s3,s4,s5,s6⟩:=hi.bx _ _ _ hb1
 rw [hσ] at s1;cases s1
 obtain ⟨vb',c2,T2,t1,t2,t3,t4,t5,t6⟩:=hi.bx _ _ _ hb2
 rw [hσv] at t1;cases t1
 have hrm:=hi.rm id b c T _ ⟨_,hb1,trivial⟩ hσ s2
 have hvb:vb≠b:=fun e=>hne (hi.inj id id2 b ⟨_,hb1,trivial⟩ ⟨_,hb2,trivial⟩ hσ (e ▸ hσv))
 have s4':n*7≤c.size:=by rw [← hn];simpa using s4
 have t4':14≤c2.size:=by simpa using t4
 have hbw:=hi.sz _ _ hσ
 obtain ⟨cs,hcs⟩:∃ cs,cs=c.toList.take (n*7):=⟨_,rfl⟩
 obtain ⟨vs,hvs⟩:∃ vs,vs=c2.toList.take 14:=⟨_,rfl⟩
 have lcs:cs.length=n*7:=by rw [hcs];simp;omega
 have lvs:vs.length=14:=by rw [hvs];simp;omega
 have gcs:∀ j,j<n*7→cs[j]? = c[j]? :=fun j hj=>by rw [hcs];simp [hj]
 have gvs:∀ j,j<14→vs[j]? = c2[j]? :=fun j hj=>by rw [hvs];simp [hj]
 have kcs:∀ j v,cs[j]? = some v→w.cell? ⟨b,0+j,none⟩=some v:=fun j v e=>by
  have hj:j<n*7:=by have:=ZJ e;omega
  rw [gcs j hj] at e
  simpa [World.cell?,s2] using e
 have kvs:∀ j v,vs[j]? = some v→w.cell? ⟨vb,0+j,none⟩=some v:=fun j v e=>by
  have hj:j<14:=by have:=ZJ e;omega
  rw [gvs j hj] at e
  simpa [World.cell?,t2] using e
 have ocs:∀ v∈cs,v.oneCell'=true:=by
  rw [hcs]
  exact U7 s3 s5 hc (by rw [hn])
 have ovs:∀ v∈vs,v.oneCell'=true:=by
  rw [hvs]
  exact U7 t3 t5 (by simp only [List.all_cons,List.all_nil,hy,hz];rfl) (by simp)
 have fr0:∀ o,w.frozen? ⟨b,o,none⟩=false:=fun o=>by simp [World.frozen?,s2]
 have fr1:∀ o,w.frozen? ⟨vb,o,none⟩=false:=fun o=>by simp [World.frozen?,t2]
 have hshA:w.shape? vb=some (T2,c2.size):=by simp [World.shape?,t2]
 have hshB:w.shape? b=some (T,c.size):=by simp [World.shape?,s2]
 have hpl:=ZcP (el:=el) (i:=i) (by omega) y z
 have wy:y.length=7:=t3 0 (by simp)
 have wz:z.length=7:=t3 1 (by simp)
 have wel0:∀ (k:Nat) (x:List PV),(YZ el i y z)[k]? = some x→x.length=7:=fun k x hx=>by
  rcases U5 (by omega) y z hx with ⟨_,e⟩|⟨_,rfl⟩|⟨_,rfl⟩|⟨_,e⟩
  · have hk := ZJ e
    rw [← Wu e];exact s3 k hk
  · exact wy
  · exact wz
  · have hk := ZJ e
    rw [← Wu e];exact s3 _ hk
 have wel:∀ k (hk:k<(YZ el i y z).length),((YZ el i y z)[k]).length=7:=fun k hk=>wel0 k _ (List.getElem?_eq_getElem hk)
 have vel : ∀ F : Array Value, (∀ j, j < i * 7 → F[j]? = cs[j]?) → (∀ j, j < 14 → F[i * 7 + j]? = vs[j]?) → (∀ j, j < (n - i) * 7 → F[(i + 2) * 7 + j]? = cs[i * 7 + j]?) →
   ∀ k (hk:k<(YZ el i y z).length) j (hj:j<((YZ el i y z)[k]).length),∃ v,F[k*7+j]? = some v∧V g (((YZ el i y z)[k])[j]) v:=by
  intro F hF1 hF2 hF3 k hk j hj
  have hj5:j<7:=by rw [wel k hk] at hj;exact hj
  have hx:=List.getElem?_eq_getElem hk
  generalize (YZ el i y z)[k]=x at hx hj ⊢
  rcases U5 (by omega) y z hx with ⟨hki,e⟩|⟨rfl,rfl⟩|⟨rfl,rfl⟩|⟨hki,e⟩
  · obtain ⟨hk', rfl⟩ := List.getElem?_eq_some_iff.1 e
    obtain ⟨v,e1,e2⟩:=s5 k hk' j hj
    refine ⟨v,?_,e2⟩
    rw [hF1 _ (by omega),gcs _ (by omega)];exact e1
  · obtain ⟨v, e1, e2⟩ := t5 0 (by simp) j hj
    refine ⟨v,?_,e2⟩
    rw [hF2 _ (by omega),gvs _ (by omega)];simpa using e1
  · obtain ⟨v, e1, e2⟩ := t5 1 (by simp) j hj
    refine ⟨v,?_,e2⟩
    rw [show (i+1)*7+j=i*7+(7+j) by omega,hF2 _ (by omega),gvs _ (by omega)];simpa using e1
  · obtain ⟨hk', rfl⟩ := List.getElem?_eq_some_iff.1 e
    obtain ⟨v,e1,e2⟩:=s5 (k-2) hk' j hj
    refine ⟨v,?_,e2⟩
    have q1:k*7+j=(i+2)*7+((k-2-i)*7+j):=by omega
    have q2:i*7+((k-2-i)*7+j)=(k-2)*7+j:=by omega
    rw [q1,hF3 _ (by omega),q2,gcs _ (by omega)];exact e1
 have hf:FnOk Tryz.prog 40 fe40.fn fe40.c:=fe40.ok
 rw [YX hf]
 simp only [UponCall]
 have ldr:(cs.drop (i*7)).length=(n-i)*7:=by rw [List.length_drop,lcs, ← Nat.sub_mul]
 by_cases hroom:n+2≤cap
 · have hsz : (n + 2) * 7 ≤ c.size := by have := Nat.mul_le_mul_right 7 hroom; omega
   refine Calls.mono (Zdz b cap n i vb vc cs vs w hin hn2 hroom (by omega) hvb lcs lvs kcs (fun j hj=>by simp [World.cell?,s2];omega) (fun j _=>fr0 _) kvs ocs ovs T2 T c2.size c.size hshA hshB (by omega) (fr1 _) (fr1 _)) fun e w' ⟨he,hw'⟩=>?_
   subst he
   obtain ⟨c3,r1,r2,r3,r4,r5,r6,r7,r8⟩:=Xq (w:=w.drew) (b:=b) s2 (cs.drop (i*7)) ((i+2)*7) (by omega)
   obtain ⟨c4,z1,z2,z3,z4,z5,z6,z7,z8⟩:=Xq (w:=w.drew.setCells b ((i+2)*7) (cs.drop (i*7))) (b:=b) r1 vs (i*7) (by omega)
   rw [← hw'] at z1 z5 z6 z7 z8
   obtain ⟨q1,q2⟩:=YK b vs (i*7) (w.drew.setCells b ((i+2)*7) (cs.drop (i*7)))
   obtain ⟨q3,q4⟩:=YK b (cs.drop (i*7)) ((i+2)*7) w.drew
   rw [← hw',q3] at q1
   rw [← hw',q4] at q2
   have hso:SameOut g w w':=⟨z7.1.trans r7.1,z7.2.trans r7.2,q1,fun _=>by rw [q2];exact Nat.le_succ _⟩
   obtain ⟨j1,j2⟩:=Zcp hi (w':=w') hro hb1 trivial hσ s6 (fun k hk=>(z5 k hk).trans (r5 k hk)) (z6.trans r6) z1 (fun a=>(z8 a).trans (r8 a)) hso
    (es := 7) (el := YZ el i y z) wel (by omega) (vel c4 (fun j hj => by
      rw [z4 j (.inl hj),r4 j (.inl (by omega)),gcs j (by omega)]) (fun j hj=>by
      rw [z3 j (by omega),List.getElem?_eq_getElem (by omega)]) (fun j hj=>by
      rw [z4 _ (.inr (by omega)),r3 j (by omega), ← List.getElem?_eq_getElem,List.getElem?_drop])) (g.κ id) (by omega)
   exact ⟨_,rfl,_,.own _ _ _ _ b cap _ (by simp [Gh.link]) hroom (fun _=>by simp) rfl ⟨by simpa [Gh.link] using hk1,hk2⟩,j1,j2⟩
 · refine Calls.mono (Zdf b cap n i vb vc cs vs w hin hn2 hcap (by omega) lcs lvs kcs kvs ocs ovs) fun e w' ⟨G, ROW, g1, g2, g3, g4, he, hw'⟩ => ?_
   subst he
   have hn0:((w.alloc (.cells ROW 51)).drew).heap[w.heap.size]? = some (.cells ROW 51 (0,0)):=ZT w _
   obtain ⟨c3,r1,r2,r3,r4,r5,r6,r7,r8⟩:=Xq hn0 vs (i*7) (by omega)
   have r1':(((w.alloc (.cells ROW 51)).drew.setCells w.heap.size (i*7) vs).drew).heap[w.heap.size]? = some (.cells c3 51 (0,0)):=r1
   obtain ⟨c4,z1,z2,z3,z4,z5,z6,z7,z8⟩:=Xq r1' (cs.drop (i*7)) ((i+2)*7) (by omega)
   rw [← hw'] at z1 z5 z6 z7 z8
   have hh:w'.heap=(w.alloc (.cells c4 51)).heap:=by
    refine Array.ext_getElem? fun k=>?_
    by_cases e:k=w.heap.size
    · subst e;rw [z1,ZT]
    · rw [z5 k e]
      refine (r5 k e).trans ?_
      rcases Nat.lt_or_ge k w.heap.size with h|h
      · exact (Zm w _ h).trans (Zm w _ h).symm
      · exact (WS w _ (by omega)).trans (WS w _ (by omega)).symm
   obtain ⟨q1,q2⟩:=YK w.heap.size (cs.drop (i*7)) ((i+2)*7) (((w.alloc (.cells ROW 51)).drew.setCells w.heap.size (i*7) vs).drew)
   obtain ⟨q3,q4⟩:=YK w.heap.size vs (i*7) ((w.alloc (.cells ROW 51)).drew)
   rw [← hw'] at q1 q2
   have hso:SameOut g w w':=⟨z7.1.trans r7.1,z7.2.trans r7.2,q1.trans q3,fun _=>by
    rw [q2]
    show w.drawn≤((w.alloc (.cells ROW 51)).drew.setCells w.heap.size (i*7) vs).drawn+1
    rw [q4]
    show w.drawn≤w.drawn+1+1
    omega⟩
   obtain ⟨j1, j2⟩ := ZcR hi (w' := w') hro hh hso (es := 7) (el := YZ el i y z) wel (by omega) (vel c4 (fun j hj => by
     rw [z4 j (.inl (by omega)),r4 j (.inl hj),g4 j hj]) (fun j hj=>by
     rw [z4 _ (.inl (by omega)),r3 j (by omega),List.getElem?_eq_getElem (by omega)]) (fun j hj=>by
     rw [z3 j (by omega), ← List.getElem?_eq_getElem,List.getElem?_drop])) c4.size (Nat.le_refl _)
   exact ⟨_,rfl,_,.own _ _ _ _ w.heap.size G _ (by simp [Gh.link]) g1 (fun _=>by simp) rfl ⟨by simp [Gh.link];omega,g2⟩,j1,j2⟩
