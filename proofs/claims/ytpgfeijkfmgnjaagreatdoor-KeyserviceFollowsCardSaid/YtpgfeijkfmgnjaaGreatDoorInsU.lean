/-
  The entries of a name taken away: a copy is made first.
-/
import Derived.Test.YtpgfeijkfmgnjaaGreatDoorInsE
set_option maxHeartbeats 0
set_option maxRecDepth 100000
namespace Go.Vm.Seat
variable {el:List (List PV)} {i j k n:Nat} {H:Heap} {K:Box} {L:List En} {e:En}
open Go.Proofs
theorem ZbI {g : Gh} {c : Array Value} (hw : ∀ i (hi : i < el.length), (el[i]).length = 6)
  (hv:∀ i (hi:i<el.length) j (hj:j<(el[i]).length),∃ v,c[i*6+j]? = some v∧V g ((el[i])[j]) v) (hc:el.all (fun x=>x.all Z7)=true) (hn:n=el.length*6) :
  ∀ v∈c.toList.take n,v.oneCell'=true:=by
 intro v h
 obtain ⟨k,hk,rfl⟩:=List.mem_iff_getElem.1 h
 have hk':k<el.length*6:=by simp at hk;omega
 have hi:k / 6<el.length:=by omega
 have hj:k % 6<6:=by omega
 obtain ⟨u,h1,h2⟩:=hv (k / 6) hi (k % 6) (by rw [hw _ hi];exact hj)
 rw [Nat.div_add_mod'] at h1
 have hkc:k<c.size:=by simp at hk;omega
 rw [Array.getElem?_eq_getElem hkc] at h1
 have e:(c.toList.take n)[k]=u:=by simpa using h1
 rw [e]
 exact Wb h2 (List.all_eq_true.1 (List.all_eq_true.1 hc _ (List.getElem_mem hi)) _ (List.getElem_mem _))
theorem ZpL {α:Type} {l:List α} (h:l.length=3):∃ a b c,l= [a,b,c]:=by
 match l,h with
 | [a,b,c],_=>exact ⟨a,b,c,rfl⟩
def V6 (el:List (List PV)) (i:Nat) (y:List PV):List (List PV):=el.take i++ [y]++el.drop i
theorem ZiQ (h:i≤el.length) (y:List PV):(V6 el i y).length=el.length+1:=by
 simp only [V6,List.length_append,List.length_take,List.length_drop,List.length_singleton];omega
theorem ZdD (h:i≤el.length) (y:List PV) {x:List PV} (hx:(V6 el i y)[k]? = some x):(k<i∧el[k]? = some x)∨(k=i∧x=y)∨(i<k∧el[k-1]? = some x):=by
 unfold V6 at hx
 rcases Nat.lt_trichotomy k i with hk|rfl|hk
 · refine .inl ⟨hk, ?_⟩
   rw [List.append_assoc,List.getElem?_append_left (by simp;omega),List.getElem?_take,if_pos hk] at hx
   exact hx
 · refine .inr (.inl ⟨rfl, ?_⟩)
   rw [List.append_assoc,List.getElem?_append_right (by simp;omega)] at hx
   have e:k-(el.take k).length=0:=by simp;omega
   rw [e] at hx
   simpa using hx.symm
 · refine .inr (.inr ⟨hk, ?_⟩)
   rw [List.getElem?_append_right (by simp;omega)] at hx
   have e:k-(el.take i++ [y]).length=k-i-1:=by simp;omega
   rw [e,List.getElem?_drop] at hx
   rw [← hx]
   congr 1
   omega
theorem Xz (b:Nat):∀ (vs:List Value) (o:Nat) (w:World),(w.setCells b o vs).tape=w.tape∧(w.setCells b o vs).drawn=w.drawn
 | [],_,_=>⟨rfl,rfl⟩
 | v :: r, o, w => by
   rw [World.setCells]
   obtain ⟨h1,h2⟩:=Xz b r (o+1) (w.setCell ⟨b,o,none⟩ v)
   rw [h1,h2]
   exact ⟨rfl,rfl⟩
theorem Znp {id id2 : Nat} {y : List PV} (hb1 : H.bx[id]? = some (.cells 6 el)) (hb2 : H.bx[id2]? = some (.cells 6 [y])) (hro : H.ro ≤ id) (hne : id ≠ id2) (hn : el.length = n) (hin : i < n) (hn2 : n ≤ 1000)
  (hc:el.all (fun x=>x.all Z7)=true) (hy:y.all Z7=true) :
  CallOk E0 Tryz.prog 125 [.own id 6 0 n,.int .i64 (i:Int),.own id2 6 0 1] H (.own H.bx.length 6 0 (n+1)) {H with bx:=H.bx.set id .dead++ [.cells 6 (V6 el i y)]}:=by
 intro g w vals hi hg hv
 obtain ⟨l,hv⟩:=hv
 obtain ⟨v0,v1,v2,hvals⟩:=ZpL (show vals.toList.length=3 by simpa using l)
 rw [hvals] at hv
 have a0:=hv 0 (by simp) (by simp)
 have a1:=hv 1 (by simp) (by simp)
 have a2:=hv 2 (by simp) (by simp)
 simp only [List.getElem_cons_succ,List.getElem_cons_zero] at a0 a1 a2
 obtain rfl:=a1.int_inv
 obtain ⟨b,cap,a,hσ,hcap,ha, -,⟨hk1,hk2⟩,rfl⟩:=a0.own_inv2
 obtain ⟨vb,vc,av,hσv,hvc,hav, -, -,rfl⟩:=a2.own_inv2
 obtain rfl:=ha (by omega)
 obtain rfl:=hav (by omega)
 obtain rfl:vals= #[.slice (some ⟨b,0*6,none⟩) n cap,.int .i64 (i:Int),.slice (some ⟨vb,0*6,none⟩) 1 vc]:=Array.toList_inj.1 (by simpa using hvals)
 obtain ⟨b',c,T,s1,s2,s3,s4,s5,s6⟩:=hi.bx _ _ _ hb1
 rw [hσ] at s1;cases s1
 obtain ⟨vb',c2,T2,t1,t2,t3,t4,t5,t6⟩:=hi.bx _ _ _ hb2
 rw [hσv] at t1;cases t1
 have hrm:=hi.rm id b c T _ ⟨_,hb1,trivial⟩ hσ s2
 have hvb:vb≠b:=fun e=>hne (hi.inj id id2 b ⟨_,hb1,trivial⟩ ⟨_,hb2,trivial⟩ hσ (e ▸ hσv))
 have s4':n*6≤c.size:=by rw [← hn];simpa using s4
 have t4':6≤c2.size:=by simpa using t4
 have hbw:=hi.sz _ _ hσ
 obtain ⟨cs,hcs⟩:∃ cs,cs=c.toList.take (n*6):=⟨_,rfl⟩
 obtain ⟨vs,hvs⟩:∃ vs,vs=c2.toList.take 6:=⟨_,rfl⟩
 have lcs:cs.length=n*6:=by rw [hcs];simp;omega
 have lvs:vs.length=6:=by rw [hvs];simp;omega
 have gcs:∀ j,j<n*6→cs[j]? = c[j]? :=fun j hj=>by rw [hcs];simp [hj]
 have gvs:∀ j,j<6→vs[j]? = c2[j]? :=fun j hj=>by rw [hvs];simp [hj]
 have kcs:∀ j v,cs[j]? = some v→w.cell? ⟨b,0+j,none⟩=some v:=fun j v e=>by
  have hj:j<n*6:=by have:=ZK e;omega
  rw [gcs j hj] at e
  simpa [World.cell?,s2] using e
 have kvs:∀ j v,vs[j]? = some v→w.cell? ⟨vb,0+j,none⟩=some v:=fun j v e=>by
  have hj:j<6:=by have:=ZK e;omega
  rw [gvs j hj] at e
  simpa [World.cell?,t2] using e
 have ocs:∀ v∈cs,v.oneCell'=true:=by
  rw [hcs]
  exact ZbI s3 s5 hc (by rw [hn])
 have ovs:∀ v∈vs,v.oneCell'=true:=by
  rw [hvs]
  exact ZbI t3 t5 (by simpa using hy) (by simp)
 have fr0:∀ o,w.frozen? ⟨b,o,none⟩=false:=fun o=>by simp [World.frozen?,s2]
 have fr1:∀ o,w.frozen? ⟨vb,o,none⟩=false:=fun o=>by simp [World.frozen?,t2]
 have hshA:w.shape? vb=some (T2,c2.size):=by simp [World.shape?,t2]
 have hshB:w.shape? b=some (T,c.size):=by simp [World.shape?,s2]
 have hpl:=ZiQ (el:=el) (i:=i) (by omega) y
 have wy:y.length=6:=t3 0 (by simp)
 have wel0:∀ (k:Nat) (x:List PV),(V6 el i y)[k]? = some x→x.length=6:=fun k x hx=>by
  rcases ZdD (by omega) y hx with ⟨_,e⟩|⟨_,rfl⟩|⟨_,e⟩
  · have hk := ZK e
    rw [← V9 e];exact s3 k hk
  · exact wy
  · have hk := ZK e
    rw [← V9 e];exact s3 _ hk
 have wel:∀ k (hk:k<(V6 el i y).length),((V6 el i y)[k]).length=6:=fun k hk=>wel0 k _ (List.getElem?_eq_getElem hk)
 have vel : ∀ F : Array Value, (∀ j, j < i * 6 → F[j]? = cs[j]?) → (∀ j, j < 6 → F[i * 6 + j]? = vs[j]?) → (∀ j, j < (n - i) * 6 → F[(i + 1) * 6 + j]? = cs[i * 6 + j]?) →
   ∀ k (hk:k<(V6 el i y).length) j (hj:j<((V6 el i y)[k]).length),∃ v,F[k*6+j]? = some v∧V g (((V6 el i y)[k])[j]) v:=by
  intro F hF1 hF2 hF3 k hk j hj
  have hj6:j<6:=by rw [wel k hk] at hj;exact hj
  have hx:=List.getElem?_eq_getElem hk
  generalize (V6 el i y)[k]=x at hx hj ⊢
  rcases ZdD (by omega) y hx with ⟨hki,e⟩|⟨rfl,rfl⟩|⟨hki,e⟩
  · obtain ⟨hk', rfl⟩ := List.getElem?_eq_some_iff.1 e
    obtain ⟨v,e1,e2⟩:=s5 k hk' j hj
    refine ⟨v,?_,e2⟩
    rw [hF1 _ (by omega),gcs _ (by omega)];exact e1
  · obtain ⟨v, e1, e2⟩ := t5 0 (by simp) j hj
    refine ⟨v,?_,e2⟩
    rw [hF2 _ hj6,gvs _ hj6];simpa using e1
  · obtain ⟨hk', rfl⟩ := List.getElem?_eq_some_iff.1 e
    obtain ⟨v,e1,e2⟩:=s5 (k-1) hk' j hj
    refine ⟨v,?_,e2⟩
    have q1:k*6+j=(i+1)*6+((k-1-i)*6+j):=by omega
    have q2:i*6+((k-1-i)*6+j)=(k-1)*6+j:=by omega
    rw [q1,hF3 _ (by omega),q2,gcs _ (by omega)];exact e1
 have hf:FnOk Tryz.prog 125 fe125.fn fe125.c:=fe125.ok
 rw [Z2 hf]
 simp only [UponCall]
 have ldr:(cs.drop (i*6)).length=(n-i)*6:=by rw [List.length_drop,lcs, ← Nat.sub_mul]
 by_cases hroom:n+1≤cap
 · have hsz : (n + 1) * 6 ≤ c.size := by have := Nat.mul_le_mul_right 6 hroom; omega
   refine Calls.mono (Zht b cap n i vb vc cs vs w hin hn2 hroom (by omega) hvb lcs lvs kcs (fun j hj=>by simp [World.cell?,s2];omega) (fun j _=>fr0 _) kvs ocs ovs T2 T c2.size c.size hshA hshB (by omega) (fr1 _) (fr1 _)) fun e w' ⟨he,hw'⟩=>?_
   subst he
   obtain ⟨c3,r1,r2,r3,r4,r5,r6,r7,r8⟩:=Wt (w:=w.drew) (b:=b) s2 (cs.drop (i*6)) ((i+1)*6) (by omega)
   obtain ⟨c4,z1,z2,z3,z4,z5,z6,z7,z8⟩:=Wt (w:=w.drew.setCells b ((i+1)*6) (cs.drop (i*6))) (b:=b) r1 vs (i*6) (by omega)
   rw [← hw'] at z1 z5 z6 z7 z8
   obtain ⟨q1,q2⟩:=Xz b vs (i*6) (w.drew.setCells b ((i+1)*6) (cs.drop (i*6)))
   obtain ⟨q3,q4⟩:=Xz b (cs.drop (i*6)) ((i+1)*6) w.drew
   rw [← hw',q3] at q1
   rw [← hw',q4] at q2
   have hso:SameOut g w w':=⟨z7.1.trans r7.1,z7.2.trans r7.2,q1,fun _=>by rw [q2];exact Nat.le_succ _⟩
   obtain ⟨j1,j2⟩:=Zfg hi (w':=w') hro hb1 trivial hσ s6 (fun k hk=>(z5 k hk).trans (r5 k hk)) (z6.trans r6) z1 (fun a=>(z8 a).trans (r8 a)) hso
    (es := 6) (el := V6 el i y) wel (by omega) (vel c4 (fun j hj => by
      rw [z4 j (.inl hj),r4 j (.inl (by omega)),gcs j (by omega)]) (fun j hj=>by
      rw [z3 j (by omega),List.getElem?_eq_getElem (by omega)]) (fun j hj=>by
      rw [z4 _ (.inr (by omega)),r3 j (by omega), ← List.getElem?_eq_getElem,List.getElem?_drop])) (g.κ id) (by omega)
   exact ⟨_,rfl,_,.own _ _ _ _ b cap _ (by simp [Gh.link]) hroom (fun _=>by simp) rfl ⟨by simpa [Gh.link] using hk1,hk2⟩,j1,j2⟩
 · refine Calls.mono (ZhD b cap n i vb vc cs vs w hin hn2 hcap (by omega) lcs lvs kcs kvs ocs ovs) fun e w' ⟨G, ROW, g1, g2, g3, g4, he, hw'⟩ => ?_
   subst he
   have hn0:((w.alloc (.cells ROW 69)).drew).heap[w.heap.size]? = some (.cells ROW 69 (0,0)):=Ym w _
   obtain ⟨c3,r1,r2,r3,r4,r5,r6,r7,r8⟩:=Wt hn0 vs (i*6) (by omega)
   have r1':(((w.alloc (.cells ROW 69)).drew.setCells w.heap.size (i*6) vs).drew).heap[w.heap.size]? = some (.cells c3 69 (0,0)):=r1
   obtain ⟨c4,z1,z2,z3,z4,z5,z6,z7,z8⟩:=Wt r1' (cs.drop (i*6)) ((i+1)*6) (by omega)
   rw [← hw'] at z1 z5 z6 z7 z8
   have hh:w'.heap=(w.alloc (.cells c4 69)).heap:=by
    refine Array.ext_getElem? fun k=>?_
    by_cases e:k=w.heap.size
    · subst e;rw [z1,Ym]
    · rw [z5 k e]
      refine (r5 k e).trans ?_
      rcases Nat.lt_or_ge k w.heap.size with h|h
      · exact (Zu w _ h).trans (Zu w _ h).symm
      · exact (U5 w _ (by omega)).trans (U5 w _ (by omega)).symm
   obtain ⟨q1,q2⟩:=Xz w.heap.size (cs.drop (i*6)) ((i+1)*6) (((w.alloc (.cells ROW 69)).drew.setCells w.heap.size (i*6) vs).drew)
   obtain ⟨q3,q4⟩:=Xz w.heap.size vs (i*6) ((w.alloc (.cells ROW 69)).drew)
   rw [← hw'] at q1 q2
   have hso:SameOut g w w':=⟨z7.1.trans r7.1,z7.2.trans r7.2,q1.trans q3,fun _=>by
    rw [q2]
    show w.drawn≤((w.alloc (.cells ROW 69)).drew.setCells w.heap.size (i*6) vs).drawn+1
    rw [q4]
    show w.drawn≤w.drawn+1+1
    omega⟩
   obtain ⟨j1, j2⟩ := ZgY hi (w' := w') hro hh hso (es := 6) (el := V6 el i y) wel (by omega) (vel c4 (fun j hj => by
     rw [z4 j (.inl (by omega)),r4 j (.inl hj),g4 j hj]) (fun j hj=>by
     rw [z4 _ (.inl (by omega)),r3 j (by omega),List.getElem?_eq_getElem (by omega)]) (fun j hj=>by
     rw [z3 j (by omega), ← List.getElem?_eq_getElem,List.getElem?_drop])) c4.size (Nat.le_refl _)
   exact ⟨_,rfl,_,.own _ _ _ _ w.heap.size G _ (by simp [Gh.link]) g1 (fun _=>by simp) rfl ⟨by simp [Gh.link];omega,g2⟩,j1,j2⟩
def Yg (name:Bs):Box:= .cells 1 [[.str name]]
def Yq (name:Bs) (e:En):Bool:= !decide (e.name=name)
theorem Zoi (a b:Bs):ZP E7 .eql 9 (.str a) (.str b)=some (.bool (decide (a=b))):=by
 show some (PV.bool (a==b))=_
 by_cases h:a=b<;>simp [h]
theorem Zca (n:Nat) (e:En):under n (.agg e.cells)=true:=by
 obtain ⟨nm,⟨k,m,s,b,kz⟩,i⟩:=e
 simp only [En.cells,Tm.cells,List.cons_append,List.nil_append,under,ZI,Zl]
 rfl
theorem Ztv (n:Nat) (Y:List En):Yw n (.cells 6 (enC Y))=true:=by
 show (enC Y).all (ZI n)=true
 rw [enC,List.all_map,List.all_eq_true]
 exact fun e _=>Zca n e
theorem ZlO (hK:∀ n,Yw n K=true) (n:Nat) (name:Bs) (Y:List En):[K,Box.cells 1 [[.str name]],Box.cells 6 (enC Y)].all (Yw n)=true:=by
 simp only [List.all_cons,List.all_nil,Ztv,hK,Bool.and_true,Bool.true_and]
 rfl
def ZvC (v:PV) (H0:Heap) (r:PV) (H:Heap):Prop:=r=v∧∃ ext,H={H0 with bx:=H0.bx++ext}
theorem Zoy {f:FuncId} {args:List PV} {v:PV} {bx:List Box} (h:∃ r H',CallOk E7 Tryz.prog f args ⟨bx,0,[],0⟩ r H'∧ZvC v ⟨bx,0,[],0⟩ r H') (hp:under bx.length v=true) (hb:bx.all (Yw bx.length)=true):CallOk E7 Tryz.prog f args ⟨bx,0,[],0⟩ v ⟨bx,0,[],0⟩:=by
 obtain ⟨r,H',h1,rfl,ext,rfl⟩:=h
 have h2:=h1.shed (by simp) (Nat.zero_le _) hp (by simpa using hb)
 have e:(⟨List.take bx.length (bx++ext),0,[],0⟩:Heap)=⟨bx,0,[],0⟩:=by simp
 have h3:CallOk E7 Tryz.prog f args ⟨bx,0,[],0⟩ r ⟨List.take bx.length (bx++ext),0,[],0⟩:=h2
 rw [e] at h3
 exact h3
theorem Zul (hK:∀ n,Yw n K=true) (name:Bs) (e:En):CallOk E7 Tryz.prog 122 [.agg e.cells,.ptr 1 1 0 0] ⟨[K,Yg name],0,[],0⟩ (.bool (decide (e.name=name))) ⟨[K,Yg name],0,[],0⟩:=by
 have he:=Zoi e.name name
 refine Zoy ?_ rfl (by simp [hK,Yg];rfl)
 obtain ⟨nm,⟨k,m,s,b,kz⟩,i⟩:=e
 simp only [En.cells,Tm.cells,List.cons_append,List.nil_append] at he ⊢
 generalize decide (nm=name)=D at he ⊢
 unfold Yg
 refine Z4 (own:=fun _=>false) WF fe122.ok ?_
 refine Wp.seq ?_
 repeat' first|refine Ji ?_|refine Jt ?_|refine Jo ?_|fail
 all_goals exact RetR.ret rfl ⟨rfl,_,rfl⟩
theorem ZnS (hK:∀ n,Yw n K=true) (name:Bs) (e:En) (ext:List Box):CallOk E7 Tryz.prog 122 [.agg e.cells,.ptr 1 1 0 0] ⟨K::Yg name::ext,0,[],0⟩ (.bool (decide (e.name=name))) ⟨K::Yg name::ext,0,[],0⟩:=
 (Zul hK name e).ext (ext := ext) rfl (by
   have h:ZI 2 e.cells=true:=Zca 2 e
   show (ZI 2 e.cells&&(Nat.blt 1 2&&true))=true
   rw [h]
   rfl) (by simp [hK,Yg];rfl) (Nat.zero_le _)
def ixN (name:Bs):List En→Nat→Int
 | [],_=> -1
 |e::r,i=>if decide (e.name=name)=true then (i:Int) else ixN name r (i+1)
theorem Zgd {name:Bs} {l:List En} {a:En} (h:l[i]? = some a):ixN name (l.drop i) i=if decide (a.name=name)=true then (i:Int) else ixN name (l.drop (i+1)) (i+1):=by
 rw [Z0 h];rfl
theorem Zfj (name:Bs):∀ (L:List En) (k:Nat),(ixN name L k= -1∧L.filter (Yq name)=L)∨∃ i,i<L.length∧ixN name L k=((k+i:Nat):Int)∧(L.take (i+1)).filter (Yq name)=L.take i
 | [],k=> .inl ⟨rfl,rfl⟩
 | e :: r, k => by
   by_cases he:e.name=name
   · refine .inr ⟨0, by simp, ?_, ?_⟩
     · simp [ixN,he]
     · simp [Yq,he]
   · rcases Zfj name r (k + 1) with ⟨h1, h2⟩ | ⟨i, h1, h2, h3⟩
     · refine .inl ⟨?_, ?_⟩
       · simp only [ixN,decide_eq_true_eq,if_neg he,h1]
       · rw [List.filter_cons,if_pos (by simp [Yq,he]),h2]
     · refine .inr ⟨i + 1, by simp only [List.length_cons]; omega, ?_, ?_⟩
       · simp only [ixN, decide_eq_true_eq, if_neg he, h2]
         omega
       · rw [List.take_succ_cons,List.filter_cons,if_pos (by simp [Yq,he]),h3,List.take_succ_cons]
theorem ZnJ {id:Nat} (hb:nth H.bx id=some (.cells 6 (enC L))) (hj:L[j]? = some e):YO E7 69 (.ptr id 6 j 0) H=some (.agg e.cells):=by
 obtain ⟨nm,⟨k,m,s,b,kz⟩,i⟩:=e
 exact ZaO rfl rfl hb ((ZA _ _).trans (WC hj)) rfl
theorem Zir {id ix len:Nat} (hj:j<len):Zp E7 27 (.own id 6 ix len) (.int .i64 (j:Int))=some (.ptr id 6 (ix+j) 0):=ZgB rfl rfl rfl rfl hj
theorem ZmG (L:List En) (j:Nat) (e:En):(enC L).set j e.cells=enC (L.set j e):=by
 simp only [enC,List.map_set]
theorem ZpT {id:Nat} {u:En} (hb:nth H.bx id=some (.cells 6 (enC L))) (hj:L[j]? = some u) (hro:H.ro≤id):H.wr (.ptr id 6 j 0) e.cells=some {H with bx:=H.bx.set id (.cells 6 (enC (L.set j e)))}:=by
 obtain ⟨nm,⟨k,m,s,b,kz⟩,i⟩:=e
 obtain ⟨nm',⟨k',m',s',b',kz'⟩,i'⟩:=u
 rw [ZgG hb ((ZA _ _).trans (WC hj)) (by simp [En.cells,Tm.cells]) hro]
 rw [← ZmG]
 simp [En.cells,Tm.cells]
theorem ixE (hK:∀ n,Yw n K=true) (hlen:L.length≤1000) (name:Bs):CallOk E7 Tryz.prog 61 [.own 2 6 0 L.length,.fn 122 [.ptr 1 1 0 0]] ⟨[K,Yg name,.cells 6 (enC L)],0,[],0⟩ (.int .i64 (ixN name L 0)) ⟨[K,Yg name,.cells 6 (enC L)],0,[],0⟩:=by
 suffices h:∃ r H',CallOk E7 Tryz.prog 61 [.own 2 6 0 L.length,.fn 122 [.ptr 1 1 0 0]] ⟨[K,Yg name,.cells 6 (enC L)],0,[],0⟩ r H'∧(r= .int .i64 (ixN name L 0)∧H'=⟨[K,Yg name,.cells 6 (enC L)],0,[],0⟩) by
  obtain ⟨r,H',h1,rfl,rfl⟩:=h
  exact h1
 refine Z4 (own:=fun _=>false) WF fe61.ok ?_
 refine Wp.seq ?_
 repeat' first|refine Jo ?_|fail
 refine Wp.while (fun m tm H=>∃ (i:Nat) (base:TM),i+m=L.length∧ixN name L 0=ixN name (L.drop i) i∧tm=ovr base [(0,.own 2 6 0 L.length),(1,.fn 122 [.ptr 1 1 0 0]),(7,.int .i64 (L.length:Int)),(8,.int .i64 (i:Int))]∧H=⟨[K,Yg name,.cells 6 (enC L)],0,[],0⟩)
  (fun m tm H hI=>?_) L.length _ _ ⟨0,_,by omega,by simp,Zi ⟨rfl,rfl,rfl,rfl,trivial⟩,rfl⟩
 obtain ⟨i,base,hi,hgo,rfl,rfl⟩:=hI
 by_cases hlt:i<L.length
 · obtain ⟨e, he⟩ : ∃ e, L[i]? = some e := ⟨L[i], by simp⟩
   have hlx:ZP E7 .lss 3 (.int .i64 (i:Int)) (.int .i64 (L.length:Int))=some (.bool true):=X3 (by omega)
   have hia:=Zir (id:=2) (ix:=0) hlt
   have hld:YO E7 69 (.ptr 2 6 (0+i) 0) ⟨[K,Yg name,.cells 6 (enC L)],0,[],0⟩=some (.agg e.cells):=by rw [Nat.zero_add];exact ZnJ rfl he
   have hc:=ZnS hK name e [.cells 6 (enC L)]
   rw [Zgd he] at hgo
   generalize decide (e.name=name)=D at hc hgo
   cases D with
   | true =>
     rw [if_pos rfl] at hgo
     repeat' first|refine Jc hc ?_|refine Ji ?_|refine JJ ?_|(apply qLd;rfl;rfl;rfl;assumption;exact IsV.any _)|refine Jo ?_|fail
     all_goals exact RetR.ret rfl ⟨by rw [hgo];rfl,rfl⟩
   | false =>
     rw [if_neg (by simp)] at hgo
     repeat' first|refine Jc hc ?_|refine Ji ?_|refine JJ ?_|(apply qLd;rfl;rfl;rfl;assumption;exact IsV.any _)|refine Jo ?_|fail
     exact LoopI.go (m-1) (by omega) ⟨i+1,_,by omega,hgo,Zi ⟨rfl,rfl,rfl,Zj (Zg (n:=i+1) (by omega)),trivial⟩,rfl⟩
 · have e : i = L.length := by omega
   subst e
   have hlx:ZP E7 .lss 3 (.int .i64 (L.length:Int)) (.int .i64 (L.length:Int))=some (.bool false):=Xo (by omega)
   rw [List.drop_length] at hgo
   repeat' first|refine Ji ?_|refine Jo ?_|fail
   all_goals exact RetR.ret rfl ⟨by rw [hgo];rfl,rfl⟩
def Zvp (K:Box) (name:Bs) (L:List En) (r:PV) (H:Heap):Prop:=∃ D,r= .own 2 6 0 (L.filter (Yq name)).length∧H=⟨[K,Yg name,.cells 6 (enC (L.filter (Yq name))++D)],0,[],0⟩
theorem Zlz {id:Nat} (h:k≤n):ZW E7 27 (.own id 6 0 n) (some (.int .i64 (k:Int))) none none=some (.own id 6 (0+k) (n-k)):=by
 obtain ⟨ti,e,et⟩:∃ ti,E7.T 27=some ti∧ti.tk= .slice 69:=⟨_,rfl,rfl⟩
 obtain ⟨ei,e2,e3⟩:∃ ei,E7.T 69=some ei∧ei.size=6:=⟨_,rfl,rfl⟩
 have hn:nat? (.int .i64 (k:Int))=some k:=by simp [nat?]
 simp only [ZW,e,et,e2,e3,if_true,Xa,hn,if_pos h]
theorem Zol {id:Nat} (h:k≤n):ZW E7 27 (.own id 6 0 n) none (some (.int .i64 (k:Int))) none=some (.own id 6 0 k):=by
 obtain ⟨ti,e,et⟩:∃ ti,E7.T 27=some ti∧ti.tk= .slice 69:=⟨_,rfl,rfl⟩
 obtain ⟨ei,e2,e3⟩:∃ ei,E7.T 69=some ei∧ei.size=6:=⟨_,rfl,rfl⟩
 have hn:nat? (.int .i64 (k:Int))=some k:=by simp [nat?]
 simp only [ZW,e,et,e2,e3,if_true,Xa,hn,if_pos h,Nat.sub_zero]
theorem Zdt (h:L[j]? = some e):L.take (j+1)=L.take j++ [e]:=by
 rw [List.take_add_one,h]
 rfl
theorem ZtF (hK:∀ n,Yw n K=true) (hlen:L.length≤1000) (name:Bs):∃ r H',CallOk E7 Tryz.prog 120 [.own 2 6 0 L.length,.fn 122 [.ptr 1 1 0 0]] ⟨[K,Yg name,.cells 6 (enC L)],0,[],0⟩ r H'∧Zvp K name L r H':=by
 have hix:=ixE hK hlen name
 refine Z4 (own:=fun _=>false) WF fe120.ok ?_
 refine Wp.seq ?_
 rcases Zfj name L 0 with ⟨h1,h2⟩|⟨i0,h1,h2,h3⟩
 · rw [h1] at hix
   have hb0:ZP E7 .eql 3 (.int .i64 (-1)) (.int .i64 (-1))=some (.bool true):=rfl
   repeat' first|refine Jc hix ?_|refine Ji ?_|refine Jo ?_|fail
   all_goals exact RetR.ret rfl ⟨[],by rw [h2];rfl,by rw [h2];simp only [List.append_nil]⟩
 · rw [h2] at hix
   have hb0:ZP E7 .eql 3 (.int .i64 ((0+i0:Nat):Int)) (.int .i64 (-1))=some (.bool false):=Zn2 (by omega)
   repeat' first|refine Jc hix ?_|refine Ji ?_|refine Jo ?_|fail
   refine Wp.while (fun m tm H => ∃ (i j : Nat) (Y : List En) (base : TM), j + m = L.length ∧ i < j ∧ Y.length = L.length ∧ Y.take i = (L.take j).filter (Yq name) ∧ (∀ k, j ≤ k → Y[k]? = L[k]?) ∧
     tm=ovr base [(0,.own 2 6 0 L.length),(1,.fn 122 [.ptr 1 1 0 0]),(5,.int .i64 (i:Int)),(6,.int .i64 (j:Int))]∧H=⟨[K,Yg name,.cells 6 (enC Y)],0,[],0⟩)
    (fun m tm H hI=>Wp.drop ?_) (L.length-(i0+1)) _ _ ⟨i0,i0+1,L,_,by omega,by omega,rfl,h3.symm,fun _ _=>rfl,Zi ⟨rfl,rfl,Zj (by omega),Zj (by rw [show ((0+i0:Nat):Int)=(i0:Int) by omega];exact Zg (n:=i0+1) (by omega)),trivial⟩,rfl⟩
   clear hix hb0
   obtain ⟨i,j,Y,base,hi,hij,hY,hF,hD,rfl,rfl⟩:=hI
   have hnb:nth [K,Yg name,.cells 6 (enC Y)] 2=some (.cells 6 (enC Y)):=rfl
   by_cases hlt:j<L.length
   · obtain ⟨e, he⟩ : ∃ e, L[j]? = some e := ⟨L[j], by simp⟩
     have heY:Y[j]? = some e:=by rw [hD j (Nat.le_refl _),he]
     obtain ⟨u,hu⟩:∃ u,Y[i]? = some u:=⟨Y[i]'(by omega),by simp⟩
     have hlx:ZP E7 .lss 3 (.int .i64 (j:Int)) (.int .i64 (L.length:Int))=some (.bool true):=X3 (by omega)
     have hia:=Zir (id:=2) (ix:=0) hlt
     have hia2:=Zir (id:=2) (ix:=0) (len:=L.length) (j:=i) (by omega)
     have hld:YO E7 69 (.ptr 2 6 (0+j) 0) ⟨[K,Yg name,.cells 6 (enC Y)],0,[],0⟩=some (.agg e.cells):=by rw [Nat.zero_add];exact ZnJ hnb heY
     have hst:Heap.wr ⟨[K,Yg name,.cells 6 (enC Y),.cells 6 [e.cells]],0,[],0⟩ (.ptr 2 6 (0+i) 0) e.cells=some ⟨[K,Yg name,.cells 6 (enC (Y.set i e)),.cells 6 [e.cells]],0,[],0⟩:=by
      rw [Nat.zero_add,ZpT (L:=Y) rfl hu (Nat.zero_le _)]
      rfl
     have hc:=ZnS hK name e [.cells 6 (enC Y),.cells 6 [e.cells]]
     have hsn:(L.take (j+1)).filter (Yq name)=(L.take j).filter (Yq name)++if decide (e.name=name)=true then [] else [e]:=by
      rw [Zdt he,List.filter_append]
      congr 1
      by_cases q:e.name=name<;>simp [Yq,q]
     generalize decide (e.name=name)=D at hc hsn
     cases D with
     | true =>
       simp only [if_true,List.append_nil] at hsn
       obtain ⟨nm,⟨k',m',s',b',kz'⟩,x⟩:=e
       simp only [En.cells,Tm.cells,List.cons_append,List.nil_append] at hc hld
       repeat' first|refine Jc hc ?_|refine Ji ?_|refine JJ ?_|(apply qLd;rfl;rfl;rfl;assumption;exact IsV.any _)|refine Jt ?_|refine Jo ?_|fail
       exact DropQ.go [(0,.own 2 6 0 L.length),(1,.fn 122 [.ptr 1 1 0 0]),(5,.int .i64 (i:Int)),(6,.int .i64 ((j+1:Nat):Int))] ⟨rfl,rfl,rfl,Zj (Zg (n:=j+1) (by omega)),trivial⟩ rfl rfl (ZlO hK _ _ _) (LoopI.go (m-1) (by omega) ⟨i,j+1,Y,_,by omega,by omega,hY,by rw [hsn];exact hF,fun k hk=>hD k (by omega),rfl,rfl⟩)
     | false =>
       simp only [Bool.false_eq_true,if_false] at hsn
       have hF':(Y.set i e).take (i+1)=(L.take (j+1)).filter (Yq name):=by
        rw [hsn, ← hF,Zdt (e:=e) (by rw [List.getElem?_set];simp;omega),List.take_set_of_le (by omega)]
       have hD':∀ k,j+1≤k→(Y.set i e)[k]? = L[k]? :=fun k hk=>by
        rw [List.getElem?_set_ne (by omega)]
        exact hD k (by omega)
       have hY':(Y.set i e).length=L.length:=by rw [List.length_set,hY]
       generalize Y.set i e=Y' at hst hF' hD' hY'
       obtain ⟨nm,⟨k',m',s',b',kz'⟩,x⟩:=e
       simp only [En.cells,Tm.cells,List.cons_append,List.nil_append] at hc hld hst
       repeat' first|refine Jc hc ?_|refine Ji ?_|refine JJ ?_|(apply qLd;rfl;rfl;rfl;assumption;exact IsV.any _)|refine Jt ?_|refine Jo ?_|fail
       exact DropQ.go [(0,.own 2 6 0 L.length),(1,.fn 122 [.ptr 1 1 0 0]),(5,.int .i64 ((i+1:Nat):Int)),(6,.int .i64 ((j+1:Nat):Int))] ⟨rfl,rfl,Zj (Zg (n:=i+1) (by omega)),Zj (Zg (n:=j+1) (by omega)),trivial⟩ rfl rfl (ZlO hK _ _ _) (LoopI.go (m-1) (by omega) ⟨i+1,j+1,Y',_,by omega,by omega,hY',hF',hD',rfl,rfl⟩)
   · have e : j = L.length := by omega
     subst e
     have hlx:ZP E7 .lss 3 (.int .i64 (L.length:Int)) (.int .i64 (L.length:Int))=some (.bool false):=Xo (by omega)
     have hs1:=Zlz (id:=2) (k:=i) (n:=L.length) (by omega)
     have hs2:=Zol (id:=2) (k:=i) (n:=L.length) (by omega)
     rw [List.take_length] at hF
     have hclr:∃ D,QR E7 27 (.own 2 6 (0+i) (L.length-i)) ⟨[K,Yg name,.cells 6 (enC Y)],0,[],0⟩=some (.tup [],⟨[K,Yg name,.cells 6 (enC (L.filter (Yq name))++D)],0,[],0⟩):=by
      have h:=Zgo (E:=E7) (t:=27) (e:=69) (es:=6) (el:=enC Y) (ix:=0+i) (len:=L.length-i) (H:=⟨[K,Yg name,.cells 6 (enC Y)],0,[],0⟩) rfl rfl rfl rfl rfl (by decide) rfl hnb (Nat.zero_le _) (by rw [Yj];omega)
      have e:(enC Y).take (0+i)=enC (L.filter (Yq name)):=by
       rw [Nat.zero_add, ← hF]
       simp only [enC,List.map_take]
      rw [e] at h
      exact ⟨_,h⟩
     obtain ⟨D,hclr⟩:=hclr
     have hll:(L.filter (Yq name)).length=i:=by rw [← hF,List.length_take];omega
     repeat' first|refine JS ?_|refine Ji ?_|(apply Zsj;rfl;rfl;assumption)|refine Jo ?_|fail
     all_goals exact RetR.ret rfl ⟨D,by rw [hll];rfl,rfl⟩
end Go.Vm.Seat
namespace Go.Vm
theorem Zqo {E : Env} {P : Program} {own : Tmp → Bool} {n : Nat} {K : TM → Heap → Prop} {tm : TM} {H : Heap} {all r : List Oper} {d : Nat} {ty : TypeId} {pos : String} {aft : Array Edge} {grd : Option (Nat × Bool)} {t u : TypeId} {x y : Operand} {X Y p : PV} {H1 : Heap}
  (hw:Ze all tm ⟨some d,.call {callee:= .builtin .append,args:= #[x,y],argTypes:= #[t,u]},ty,pos,aft,grd⟩=some true) (hn:Nat.blt d n=true) (ho:own d=true) (hx:Zh E tm x=X) (hy:Zh E tm y=Y) (h:Z3 E t u X Y H=some (p,H1))
  (hr:RegQ E P own n all r K (ZX tm (some d) p) H1):RegQ E P own n all (⟨some d,.call {callee:= .builtin .append,args:= #[x,y],argTypes:= #[t,u]},ty,pos,aft,grd⟩::r) K tm H:=
 .op (p:=p) hw (by simp only [Wq,hn]) (by simp [aOp,Yt,ho,hx,hy,h]) hr
end Go.Vm
namespace Go.Vm.Seat
variable {L:List En} {K:Box}
open Go.Proofs
theorem Zqh (hL:L≠ []) (hl:L.length≤1000) (b:Bool) (H:Heap):Z3 E7 27 27 (.sl .full 6 []) (slV b 6 (enC L)) H=some (.own H.bx.length 6 0 L.length,H.push (.cells 6 (enC L))):=by
 have hx:ElV 6 (slV b 6 (enC L)) (enC L):= .slV b 6 _
 have hT:ApT E7 27 27 6 80:=⟨_,_,_,_,_,rfl,rfl,rfl,rfl,rfl,rfl,rfl,by decide,rfl⟩
 have hf:WG ([]:List (List PV)).length (enC L).length 80=true:=ZZ (by simp only [Yj,List.length_nil];omega) (by decide)
 have h1:=Y6 hT hx (ZaN L) (s:= .sl .full 6 []) rfl rfl H
 have hn:=Yj L
 cases hE:enC L with
 |nil=>rw [hE] at hn;exact absurd (List.length_eq_zero_iff.1 hn.symm) hL
 | cons y yr =>
   rw [hE] at hn hf h1
   simp only [Z3,h1,Xj,List.nil_append]
   rw [if_pos hf]
   simp only [List.length_nil,Nat.zero_add]
   rw [hn]
theorem ZoH (hL:L≠ []) (b:Bool):ZP E7 .eql 27 (slV b 6 (enC L)) .nils=some (.bool false):=by
 cases L with
 |nil=>exact absurd rfl hL
 |cons a r=>simp only [enC,List.map_cons,Zw];rfl
theorem ZnR (hL:L≠ []) (hl:L.length≤1000) (b:Bool) (name:Bs):∃ r H',CallOk E7 Tryz.prog 121 [slV b 6 (enC L)] ⟨[K,Yg name],0,[],0⟩ r H'∧(r= .own 2 6 0 L.length∧H'=⟨[K,Yg name,.cells 6 (enC L)],0,[],0⟩):=by
 have hne:=ZoH hL b
 have hap:=Zqh hL hl b ⟨[K,Yg name],0,[],0⟩
 refine Z4 (own:=fun d=>Nat.beq d 7) WF fe121.ok ?_
 refine Wp.seq ?_
 repeat' first|refine Js ?_|refine Ji ?_|refine Jo ?_|fail
 refine Zqo rfl rfl rfl rfl rfl hap ?_
 repeat' first|refine Jo ?_|fail
 all_goals exact RetR.ret rfl ⟨rfl,rfl⟩
def ZuC (K:Box) (M:List En) (r:PV) (H:Heap):Prop:=∃ A D,r= .own 2 6 0 M.length∧(∀ n,Yw n A=true)∧H=⟨[K,A,.cells 6 (enC M++D)],0,[],0⟩
theorem ZrV (hK:∀ n,Yw n K=true) (hL:L≠ []) (hl:L.length≤1000) (b:Bool) (name:Bs):∃ r H',CallOk E7 Tryz.prog 84 [slV b 6 (enC L),.str name] ⟨[K],0,[],0⟩ r H'∧ZuC K (L.filter (Yq name)) r H':=by
 obtain ⟨r1,H1,hcl,rfl,rfl⟩:=ZnR (K:=K) hL hl b name
 obtain ⟨r2,H2,hde,D,rfl,rfl⟩:=ZtF hK hl name
 refine Z4 (own:=fun _=>false) WF fe84.ok ?_
 refine Wp.seq ?_
 unfold Yg at hcl hde
 repeat' first|refine Jc hcl ?_|refine Jc hde ?_|refine Jo ?_|fail
 all_goals exact RetR.ret rfl ⟨_,D,rfl,fun n=>rfl,rfl⟩
