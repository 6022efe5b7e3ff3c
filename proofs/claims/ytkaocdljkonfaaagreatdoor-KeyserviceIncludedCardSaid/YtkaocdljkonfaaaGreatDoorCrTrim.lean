/-
  slices.Insert at entries, one entry ahead of others: what it gives in every world. The first dot of a string, the number of its dots, its parts. strin
-/
import Derived.Test.YtkaocdljkonfaaaGreatDoorAwOr
set_option maxHeartbeats 64000000
set_option maxRecDepth 100000
namespace Go.Vm.Seat
variable {el:List (List PV)} {i n:Nat} {x y:List PV} {s:Bs}
open Go.Proofs
theorem ZbW {g : Gh} {c : Array Value} (hw : ∀ i (hi : i < el.length), (el[i]).length = 6)
  (hv:∀ i (hi:i<el.length) j (hj:j<(el[i]).length),∃ v,c[i*6+j]? = some v∧V g ((el[i])[j]) v) (hc:el.all (fun x=>x.all Z3)=true) (hn:n=el.length*6) :
  ∀ v∈c.toList.take n,v.oneCell'=true:=by
 intro v h
 obtain ⟨k,hk,rfl⟩:=List.mem_iff_getElem.1 h
 have hk':k<el.length*6:=by simp at hk;omega
 have hi:k / 6<el.length:=by omega
 have hj:k % 6<6:=by omega
 obtain ⟨u,h1,h2⟩:=hv (k / 6) hi (k % 6) (by rw [hw _ hi];exact hj)
 rw [Nat.div_add_mod'] at h1
 have hkc:k<c.size:=by simp at hk;omega
 rw [Array.getElem?_eq_getElem hkc] at h1
 have e:(c.toList.take n)[k]=u:=by simpa using h1
 rw [e]
 exact X9 h2 (List.all_eq_true.1 (List.all_eq_true.1 hc _ (List.getElem_mem hi)) _ (List.getElem_mem _))
theorem ZpR {α:Type} {l:List α} (h:l.length=3):∃ a b c,l= [a,b,c]:=by
 match l,h with
 | [a,b,c],_=>exact ⟨a,b,c,rfl⟩
def VZ (el:List (List PV)) (i:Nat) (y:List PV):List (List PV):=el.take i++ [y]++el.drop i
theorem Zit (h:i≤el.length) (y:List PV):(VZ el i y).length=el.length+1:=by
 simp only [VZ,List.length_append,List.length_take,List.length_drop,List.length_singleton];omega
theorem ZdO (h:i≤el.length) (y:List PV) {k:Nat} (hx:(VZ el i y)[k]? = some x):(k<i∧el[k]? = some x)∨(k=i∧x=y)∨(i<k∧el[k-1]? = some x):=by
 unfold VZ at hx
 rcases Nat.lt_trichotomy k i with hk|rfl|hk
 · refine .inl ⟨hk, ?_⟩
   rw [List.append_assoc,List.getElem?_append_left (by simp;omega),List.getElem?_take,if_pos hk] at hx
   exact hx
 · refine .inr (.inl ⟨rfl, ?_⟩)
   rw [List.append_assoc,List.getElem?_append_right (by simp;omega)] at hx
   have e:k-(el.take k).length=0:=by simp;omega
   rw [e] at hx
   simpa using hx.symm
 · refine .inr (.inr ⟨hk, ?_⟩)
   rw [List.getElem?_append_right (by simp;omega)] at hx
   have e:k-(el.take i++ [y]).length=k-i-1:=by simp;omega
   rw [e,List.getElem?_drop] at hx
   rw [← hx]
   congr 1
   omega
theorem Xx (b:Nat):∀ (vs:List Value) (o:Nat) (w:World),(w.setCells b o vs).tape=w.tape∧(w.setCells b o vs).drawn=w.drawn
 | [],_,_=>⟨rfl,rfl⟩
 | v :: r, o, w => by
   rw [World.setCells]
   obtain ⟨h1,h2⟩:=Xx b r (o+1) (w.setCell ⟨b,o,none⟩ v)
   rw [h1,h2]
   exact ⟨rfl,rfl⟩
theorem Zmj {H : Heap} {id id2 : Nat} (hb1 : H.bx[id]? = some (.cells 6 el)) (hb2 : H.bx[id2]? = some (.cells 6 [y])) (hro : H.ro ≤ id) (hne : id ≠ id2) (hn : el.length = n) (hin : i < n) (hn2 : n ≤ 1000)
  (hc:el.all (fun x=>x.all Z3)=true) (hy:y.all Z3=true) :
  CallOk E0 Tryz.prog 139 [.own id 6 0 n,.int .i64 (i:Int),.own id2 6 0 1] H (.own H.bx.length 6 0 (n+1)) {H with bx:=H.bx.set id .dead++ [.cells 6 (VZ el i y)]}:=by
 intro g w vals hi hg hv
 obtain ⟨l,hv⟩:=hv
 obtain ⟨v0,v1,v2,hvals⟩:=ZpR (show vals.toList.length=3 by simpa using l)
 rw [hvals] at hv
 have a0:=hv 0 (by simp) (by simp)
 have a1:=hv 1 (by simp) (by simp)
 have a2:=hv 2 (by simp) (by simp)
 simp only [List.getElem_cons_succ,List.getElem_cons_zero] at a0 a1 a2
 obtain rfl:=a1.int_inv
 obtain ⟨b,cap,a,hσ,hcap,ha, -,⟨hk1,hk2⟩,rfl⟩:=a0.own_inv2
 obtain ⟨vb,vc,av,hσv,hvc,hav, -, -,rfl⟩:=a2.own_inv2
 obtain rfl:=ha (by omega)
 obtain rfl:=hav (by omega)
 obtain rfl:vals= #[.slice (some ⟨b,0*6,none⟩) n cap,.int .i64 (i:Int),.slice (some ⟨vb,0*6,none⟩) 1 vc]:=Array.toList_inj.1 (by simpa using hvals)
 obtain ⟨b',c,T,s1,s2,s3,s4,s5,s6⟩:=hi.bx _ _ _ hb1
 rw [hσ] at s1;cases s1
 obtain ⟨vb',c2,T2,t1,t2,t3,t4,t5,t6⟩:=hi.bx _ _ _ hb2
 rw [hσv] at t1;cases t1
 have hrm:=hi.rm id b c T _ ⟨_,hb1,trivial⟩ hσ s2
 have hvb:vb≠b:=fun e=>hne (hi.inj id id2 b ⟨_,hb1,trivial⟩ ⟨_,hb2,trivial⟩ hσ (e ▸ hσv))
 have s4':n*6≤c.size:=by rw [← hn];simpa using s4
 have t4':6≤c2.size:=by simpa using t4
 have hbw:=hi.sz _ _ hσ
 obtain ⟨cs,hcs⟩:∃ cs,cs=c.toList.take (n*6):=⟨_,rfl⟩
 obtain ⟨vs,hvs⟩:∃ vs,vs=c2.toList.take 6:=⟨_,rfl⟩
 have lcs:cs.length=n*6:=by rw [hcs];simp;omega
 have lvs:vs.length=6:=by rw [hvs];simp;omega
 have gcs:∀ j,j<n*6→cs[j]? = c[j]? :=fun j hj=>by rw [hcs];simp [hj]
 have gvs:∀ j,j<6→vs[j]? = c2[j]? :=fun j hj=>by rw [hvs];simp [hj]
 have kcs:∀ j v,cs[j]? = some v→w.cell? ⟨b,0+j,none⟩=some v:=fun j v e=>by
  have hj:j<n*6:=by have:=ZN e;omega
  rw [gcs j hj] at e
  simpa [World.cell?,s2] using e
 have kvs:∀ j v,vs[j]? = some v→w.cell? ⟨vb,0+j,none⟩=some v:=fun j v e=>by
  have hj:j<6:=by have:=ZN e;omega
  rw [gvs j hj] at e
  simpa [World.cell?,t2] using e
 have ocs:∀ v∈cs,v.oneCell'=true:=by
  rw [hcs]
  exact ZbW s3 s5 hc (by rw [hn])
 have ovs:∀ v∈vs,v.oneCell'=true:=by
  rw [hvs]
  exact ZbW t3 t5 (by simpa using hy) (by simp)
 have fr0:∀ o,w.frozen? ⟨b,o,none⟩=false:=fun o=>by simp [World.frozen?,s2]
 have fr1:∀ o,w.frozen? ⟨vb,o,none⟩=false:=fun o=>by simp [World.frozen?,t2]
 have hshA:w.shape? vb=some (T2,c2.size):=by simp [World.shape?,t2]
 have hshB:w.shape? b=some (T,c.size):=by simp [World.shape?,s2]
 have hpl:=Zit (el:=el) (i:=i) (by omega) y
 have wy:y.length=6:=t3 0 (by simp)
 have wel0:∀ (k:Nat) (x:List PV),(VZ el i y)[k]? = some x→x.length=6:=fun k x hx=>by
  rcases ZdO (by omega) y hx with ⟨_,e⟩|⟨_,rfl⟩|⟨_,e⟩
  · have hk := ZN e
    rw [← V5 e];exact s3 k hk
  · exact wy
  · have hk := ZN e
    rw [← V5 e];exact s3 _ hk
 have wel:∀ k (hk:k<(VZ el i y).length),((VZ el i y)[k]).length=6:=fun k hk=>wel0 k _ (List.getElem?_eq_getElem hk)
 have vel : ∀ F : Array Value, (∀ j, j < i * 6 → F[j]? = cs[j]?) → (∀ j, j < 6 → F[i * 6 + j]? = vs[j]?) → (∀ j, j < (n - i) * 6 → F[(i + 1) * 6 + j]? = cs[i * 6 + j]?) →
   ∀ k (hk:k<(VZ el i y).length) j (hj:j<((VZ el i y)[k]).length),∃ v,F[k*6+j]? = some v∧V g (((VZ el i y)[k])[j]) v:=by
  intro F hF1 hF2 hF3 k hk j hj
  have hj6:j<6:=by rw [wel k hk] at hj;exact hj
  have hx:=List.getElem?_eq_getElem hk
  generalize (VZ el i y)[k]=x at hx hj ⊢
  rcases ZdO (by omega) y hx with ⟨hki,e⟩|⟨rfl,rfl⟩|⟨hki,e⟩
  · obtain ⟨hk', rfl⟩ := List.getElem?_eq_some_iff.1 e
    obtain ⟨v,e1,e2⟩:=s5 k hk' j hj
    refine ⟨v,?_,e2⟩
    rw [hF1 _ (by omega),gcs _ (by omega)];exact e1
  · obtain ⟨v, e1, e2⟩ := t5 0 (by simp) j hj
    refine ⟨v,?_,e2⟩
    rw [hF2 _ hj6,gvs _ hj6];simpa using e1
  · obtain ⟨hk', rfl⟩ := List.getElem?_eq_some_iff.1 e
    obtain ⟨v,e1,e2⟩:=s5 (k-1) hk' j hj
    refine ⟨v,?_,e2⟩
    have q1:k*6+j=(i+1)*6+((k-1-i)*6+j):=by omega
    have q2:i*6+((k-1-i)*6+j)=(k-1)*6+j:=by omega
    rw [q1,hF3 _ (by omega),q2,gcs _ (by omega)];exact e1
 have hf:FnOk Tryz.prog 139 fe139.fn fe139.c:=fe139.ok
 rw [ZY hf]
 simp only [UponCall]
 have ldr:(cs.drop (i*6)).length=(n-i)*6:=by rw [List.length_drop,lcs, ← Nat.sub_mul]
 by_cases hroom:n+1≤cap
 · have hsz : (n + 1) * 6 ≤ c.size := by have := Nat.mul_le_mul_right 6 hroom; omega
   refine Calls.mono (Ziq b cap n i vb vc cs vs w hin hn2 hroom (by omega) hvb lcs lvs kcs (fun j hj=>by simp [World.cell?,s2];omega) (fun j _=>fr0 _) kvs ocs ovs T2 T c2.size c.size hshA hshB (by omega) (fr1 _) (fr1 _)) fun e w' ⟨he,hw'⟩=>?_
   subst he
   obtain ⟨c3,r1,r2,r3,r4,r5,r6,r7,r8⟩:=Wo (w:=w.drew) (b:=b) s2 (cs.drop (i*6)) ((i+1)*6) (by omega)
   obtain ⟨c4,z1,z2,z3,z4,z5,z6,z7,z8⟩:=Wo (w:=w.drew.setCells b ((i+1)*6) (cs.drop (i*6))) (b:=b) r1 vs (i*6) (by omega)
   rw [← hw'] at z1 z5 z6 z7 z8
   obtain ⟨q1,q2⟩:=Xx b vs (i*6) (w.drew.setCells b ((i+1)*6) (cs.drop (i*6)))
   obtain ⟨q3,q4⟩:=Xx b (cs.drop (i*6)) ((i+1)*6) w.drew
   rw [← hw',q3] at q1
   rw [← hw',q4] at q2
   have hso:SameOut g w w':=⟨z7.1.trans r7.1,z7.2.trans r7.2,q1,fun _=>by rw [q2];exact Nat.le_succ _⟩
   obtain ⟨j1,j2⟩:=Zfe hi (w':=w') hro hb1 trivial hσ s6 (fun k hk=>(z5 k hk).trans (r5 k hk)) (z6.trans r6) z1 (fun a=>(z8 a).trans (r8 a)) hso
    (es := 6) (el := VZ el i y) wel (by omega) (vel c4 (fun j hj => by
      rw [z4 j (.inl hj),r4 j (.inl (by omega)),gcs j (by omega)]) (fun j hj=>by
      rw [z3 j (by omega),List.getElem?_eq_getElem (by omega)]) (fun j hj=>by
      rw [z4 _ (.inr (by omega)),r3 j (by omega), ← List.getElem?_eq_getElem,List.getElem?_drop])) (g.κ id) (by omega)
   exact ⟨_,rfl,_,.own _ _ _ _ b cap _ (by simp [Gh.link]) hroom (fun _=>by simp) rfl ⟨by simpa [Gh.link] using hk1,hk2⟩,j1,j2⟩
 · refine Calls.mono (ZjH b cap n i vb vc cs vs w hin hn2 hcap (by omega) lcs lvs kcs kvs ocs ovs) fun e w' ⟨G, ROW, g1, g2, g3, g4, he, hw'⟩ => ?_
   subst he
   have hn0:((w.alloc (.cells ROW 60)).drew).heap[w.heap.size]? = some (.cells ROW 60 (0,0)):=Ym w _
   obtain ⟨c3,r1,r2,r3,r4,r5,r6,r7,r8⟩:=Wo hn0 vs (i*6) (by omega)
   have r1':(((w.alloc (.cells ROW 60)).drew.setCells w.heap.size (i*6) vs).drew).heap[w.heap.size]? = some (.cells c3 60 (0,0)):=r1
   obtain ⟨c4,z1,z2,z3,z4,z5,z6,z7,z8⟩:=Wo r1' (cs.drop (i*6)) ((i+1)*6) (by omega)
   rw [← hw'] at z1 z5 z6 z7 z8
   have hh:w'.heap=(w.alloc (.cells c4 60)).heap:=by
    refine Array.ext_getElem? fun k=>?_
    by_cases e:k=w.heap.size
    · subst e;rw [z1,Ym]
    · rw [z5 k e]
      refine (r5 k e).trans ?_
      rcases Nat.lt_or_ge k w.heap.size with h|h
      · exact (Zv w _ h).trans (Zv w _ h).symm
      · exact (UV w _ (by omega)).trans (UV w _ (by omega)).symm
   obtain ⟨q1,q2⟩:=Xx w.heap.size (cs.drop (i*6)) ((i+1)*6) (((w.alloc (.cells ROW 60)).drew.setCells w.heap.size (i*6) vs).drew)
   obtain ⟨q3,q4⟩:=Xx w.heap.size vs (i*6) ((w.alloc (.cells ROW 60)).drew)
   rw [← hw'] at q1 q2
   have hso:SameOut g w w':=⟨z7.1.trans r7.1,z7.2.trans r7.2,q1.trans q3,fun _=>by
    rw [q2]
    show w.drawn≤((w.alloc (.cells ROW 60)).drew.setCells w.heap.size (i*6) vs).drawn+1
    rw [q4]
    show w.drawn≤w.drawn+1+1
    omega⟩
   obtain ⟨j1, j2⟩ := ZgV hi (w' := w') hro hh hso (es := 6) (el := VZ el i y) wel (by omega) (vel c4 (fun j hj => by
     rw [z4 j (.inl (by omega)),r4 j (.inl hj),g4 j hj]) (fun j hj=>by
     rw [z4 _ (.inl (by omega)),r3 j (by omega),List.getElem?_eq_getElem (by omega)]) (fun j hj=>by
     rw [z3 j (by omega), ← List.getElem?_eq_getElem,List.getElem?_drop])) c4.size (Nat.le_refl _)
   exact ⟨_,rfl,_,.own _ _ _ _ w.heap.size G _ (by simp [Gh.link]) g1 (fun _=>by simp) rfl ⟨by simp [Gh.link];omega,g2⟩,j1,j2⟩
theorem Zjm (c:UInt8):((c.toNat:Int)=46)↔c=46:=by
 constructor
 · intro h
   apply UInt8.toNat_inj.1
   have:c.toNat=46:=by omega
   rw [this];rfl
 · rintro rfl;rfl
theorem ZiQ : ∀ (s : Bs) (k : Nat), (V3 s 46 k = -1 ∧ ZbN s 46 = 0 ∧ ZE s = [s]) ∨
  ∃ a b,s=a++46::b∧V3 s 46 k=((k+a.length:Nat):Int)∧ZE s=a::ZE b∧ZbN s 46=ZbN b 46+1
 | [],k=> .inl ⟨rfl,rfl,rfl⟩
 | c :: r, k => by
   by_cases h:c=46
   · subst h
     refine .inr ⟨[],r,rfl,?_,?_,?_⟩
     · simp [V3]
     · simp [ZE]
     · simp [ZbN]
   · have h1 : ¬ ((c.toNat : Int) = 46) := fun e => h ((Zjm c).1 e)
     have h2:(c==46)=false:=by simpa using h
     have e1:V3 (c::r) 46 k=V3 r 46 (k+1):=by simp [V3,h1]
     have e2:ZbN (c::r) 46=ZbN r 46:=by simp [ZbN,h1]
     rw [e1,e2]
     rcases ZiQ r (k+1) with ⟨q1,q2,q3⟩|⟨a,b,q1,q2,q3,q4⟩
     · exact .inl ⟨q1,q2,by simp only [ZE,h2,q3]⟩
     · refine .inr ⟨c :: a, b, by rw [q1]; rfl, ?_, by simp only [ZE, h2, q3], q4⟩
       rw [q2]
       simp
       omega
theorem Zdx (s : Bs) : (V3 s 46 0 = -1 ∧ ZbN s 46 = 0 ∧ ZE s = [s]) ∨
  ∃ a b,s=a++46::b∧V3 s 46 0=(a.length:Int)∧ZE s=a::ZE b∧ZbN s 46=ZbN b 46+1:=by
 have:=ZiQ s 0
 simpa using this
def ZlW:Bs→Nat
 | []=>0
 |b::r=>if b=46 then ZlW r+1 else ZlW r
theorem Wn:∀ s:Bs,ZbN s 46=(ZlW s:Int)
 | []=>rfl
 | b :: r => by
   simp only [ZbN,ZlW,Zjm]
   split
   · rw [Wn r];simp
   · exact Wn r
theorem Zic:∀ s:Bs,ZlW s≤s.length
 | []=>Nat.le_refl _
 | b :: r => by
   simp only [ZlW,List.length_cons]
   have:=Zic r
   split<;>omega
open Go.Proofs
theorem ZuA (s:Bs) (H:Heap):CallOk E0 Tryz.prog 242 [.str s,.int .u8 46] H (.int .i64 (V3 s 46 0)) H:=(ZpS [.str s,.int .u8 46] H _ _ rfl).1
theorem Zt4 (s:Bs) (H:Heap):CallOk E0 Tryz.prog 292 [.str s,.int .u8 46] H (.int .i64 (ZbN s 46)) H:=(Zsv [.str s,.int .u8 46] H _ _ rfl).1
theorem c210 (s:Bs):∀ H,CallOk E0 Tryz.prog 210 [.str s,.int .u8 46] H (.int .i64 (V3 s 46 0)) H:=by
 refine Jw tOk fe210.ok rfl ?_
 repeat' first|refine Jc (ZuA s _) ?_|refine Jo ?_|fail
 all_goals rfl
theorem Zur (s:Bs):∀ H,CallOk E0 Tryz.prog 169 [.str s,.str [46]] H (.int .i64 (V3 s 46 0)) H:=by
 refine Jw tOk fe169.ok rfl ?_
 repeat' first|refine Jc (c210 _ _) ?_|refine Jt ?_|refine Jb ?_ ?_|refine Jo ?_|intro hb
 · simp at hb
   subst hb
   rfl
 · rfl
theorem Zus (s:Bs):∀ H,CallOk E0 Tryz.prog 125 [.str s,.str [46]] H (.int .i64 (V3 s 46 0)) H:=by
 refine Jw tOk fe125.ok rfl ?_
 repeat' first|refine Jc (Zur _ _) ?_|refine Jo ?_|fail
 all_goals rfl
theorem Ztx (s:Bs):∀ H,CallOk E0 Tryz.prog 280 [.str s,.str [46]] H (.int .i64 (ZbN s 46)) H:=by
 refine Jw tOk fe280.ok rfl ?_
 repeat' first|refine Jc (Zt4 s _) ?_|refine Jt ?_|refine Jo ?_|fail
 all_goals rfl
def ZJ (l:List Bs):List (List PV):=l.map fun x=>[.str x]
theorem Za2:∀ l:List Bs,Xl (ZJ l)=some (ZJ l)
 | []=>rfl
 | x :: l => by
   have:=Za2 l
   unfold ZJ at this ⊢
   simp only [List.map_cons,Xl,Xm,frz1,this]
theorem ZlZ (H:Heap) (l:List Bs) (k:Nat) (hk:k=l.length) (hH:nth H.bx 0=some (.cells 1 (ZJ l))):frz3 0 H (.own 0 1 0 k)=some (.sl .none 1 (ZJ l)):=by
 have hl:(ZJ l).length=k:=by simp [ZJ,hk]
 have h1:((ZJ l).drop 0).take k=ZJ l:=by rw [List.drop_zero, ← hl,List.take_length]
 show frzC 0 H (.own 0 1 0 k)=_
 simp only [frzC,Nat.not_lt_zero,if_false,hH,true_and,Nat.zero_add,hl,Nat.le_refl,if_true,h1,Za2]
theorem ZoW {pre:List (List PV)} {r:List (List PV)} (hi:i=pre.length):(pre++x::r).set i y=pre++y::r:=by
 subst hi
 simp
theorem ZuB (hs:s.length≤100000):∀ H,CallOk E0 Tryz.prog 257 [.str s,.str [46],.int .i64 0,.int .i64 (-1)] H (.sl .none 1 (ZJ (ZE s))) H:=by
 have hfr:frz3 0 hNil (.sl .none 1 (ZJ (ZE s)))=some (.sl .none 1 (ZJ (ZE s))):=rfl
 refine Zr (own:=E0.own 257) tOk fe257.ok rfl hfr ?_
 have hc0:=Ztx s
 rw [Wn] at hc0
 have hN:=Zic s
 obtain ⟨N,hNe⟩:∃ N,N=ZlW s:=⟨_,rfl⟩
 rw [← hNe] at hc0 hN
 have hmin:Zc9 [.int .i64 (IntKind.i64.wrap (Int.ofNat s.length+1))] (.int .i64 (IntKind.i64.wrap ((N:Int)+1)))=some (.int .i64 ((N+1:Nat):Int)):=by
  have e1:IntKind.i64.wrap (Int.ofNat s.length+1)=((s.length+1:Nat):Int):=Ze (n:=s.length+1) (by omega)
  have e2:IntKind.i64.wrap ((N:Int)+1)=((N+1:Nat):Int):=Ze (n:=N+1) (by omega)
  rw [e1,e2]
  simp only [Zc9]
  rw [if_neg (by omega)]
 have hmk:XI E0 87 (.int .i64 ((N+1:Nat):Int)) (.int .i64 ((N+1:Nat):Int)) hNil=some (.own 0 1 0 (N+1),⟨[.cells 1 (List.replicate (N+1) [.str []])],0,[],0⟩):=by
  have e22:E0.T 87=some ⟨.slice 9,1,24,.nils⟩:=by kernel_rfl
  have e9:E0.T 9=some ⟨.string,1,16,.str []⟩:=by kernel_rfl
  have en:nat? (.int .i64 ((N+1:Nat):Int))=some (N+1):=rfl
  simp only [XI,e22,e9,en]
  rw [if_pos ⟨rfl,by decide,by omega,by omega⟩]
  simp [Heap.push,hNil,PV.cells]
 refine Wp.seq ?_
 repeat' first|refine Jc (hc0 _) ?_|(apply qMk;rfl;rfl;rfl;rfl;rfl;assumption)|(apply RegQ.rMin;rfl;rfl;rfl;rfl;assumption)|refine Jt ?_|refine Jo ?_|fail
 have e22:E0.T 87=some ⟨.slice 9,1,24,.nils⟩:=by kernel_rfl
 have e9:E0.T 9=some ⟨.string,1,16,.str []⟩:=by kernel_rfl
 have hia:∀ i:Nat,i<N+1→Zp E0 87 (.own 0 1 0 (N+1)) (.int .i64 (i:Int))=some (.ptr 0 1 (0+i) 0):=fun i hi=>by
  have en:nat? (.int .i64 (i:Int))=some i:=rfl
  simp only [Zp,e22,en,e9,if_true]
  rw [if_pos hi]
 have hwrG:∀ (pre:List Bs) (x:Bs) (r:List (List PV)),Heap.wr ⟨[.cells 1 (ZJ pre++ [.str []]::r)],0,[],0⟩ (.ptr 0 1 (0+pre.length) 0) [.str x]=some ⟨[.cells 1 (ZJ (pre++ [x])++r)],0,[],0⟩:=fun pre x r=>by
  have hl:(ZJ pre).length=pre.length:=by simp [ZJ]
  have hn:nth (ZJ pre++ [PV.str []]::r) (0+pre.length)=some [.str []]:=by
   rw [ZA,Nat.zero_add, ← hl]
   simp
  have hs:(ZJ pre++ [PV.str []]::r).set (0+pre.length) [.str x]=ZJ (pre++ [x])++r:=by
   rw [ZoW (by rw [hl,Nat.zero_add])]
   simp [ZJ]
  have h0:nth [Box.cells 1 (ZJ pre++ [PV.str []]::r)] 0=some (.cells 1 (ZJ pre++ [PV.str []]::r)):=rfl
  rw [Nat.zero_add] at hs hn
  simp only [Heap.wr,h0,if_true,Nat.zero_add,hn,List.length_cons,List.length_nil,Nat.le_refl,List.take_zero,List.nil_append,List.drop_one,List.tail_cons]
  simp only [Heap.put,Nat.not_lt_zero,if_false,List.append_nil,hs,List.set_cons_zero]
 refine Wp.while (fun m tm H => ∃ (i : Nat) (rest : Bs) (pre : List Bs) (base : TM), i + m = N ∧ pre.length = i ∧ ZE s = pre ++ ZE rest ∧ ZlW rest = m ∧ rest.length ≤ 100000 ∧
   tm=ovr base [(0,.str rest),(1,.str [46]),(2,.int .i64 0),(3,.int .i64 (N:Int)),(9,.own 0 1 0 (N+1)),(10,.int .i64 (i:Int))]∧H=⟨[.cells 1 (ZJ pre++List.replicate (m+1) [.str []])],0,[],0⟩)
  (fun m tm H hI => ?_) N _ _ ⟨0, s, [], _, by omega, rfl, by simp, hNe.symm, hs, Zi ⟨rfl, rfl, rfl, Zh (by
    have e:((N+1:Nat):Int)-1=(N:Int):=by omega
    show IntKind.i64.wrap (((N+1:Nat):Int)-1)=_
    rw [e]
    exact Ze (by omega)),rfl,rfl,trivial⟩,rfl⟩
 obtain ⟨i,rest,pre,base,hi,hpl,hsp,hcn,hrl,rfl,rfl⟩:=hI
 clear hmin hmk hc0
 have hc1:=Zus rest
 have hia1:=hia i (by omega)
 cases m with
 | zero =>
   have hio:i=N:=by omega
   subst hio
   rcases Zdx rest with ⟨q1,q2,q3⟩|⟨a,b,q1,q2,q3,q4⟩
   case inr=>rw [Wn,Wn,hcn] at q4;omega
   have hwr:Heap.wr ⟨[.cells 1 (ZJ pre++List.replicate (0+1) [.str []])],0,[],0⟩ (.ptr 0 1 (0+i) 0) [.str rest]=some ⟨[.cells 1 (ZJ (pre++ [rest]))],0,[],0⟩:=by
    have:=hwrG pre rest []
    rw [hpl] at this
    simpa using this
   have h65:Z4 E0 87 (.own 0 1 0 (i+1)) none (some (.int .i64 (IntKind.i64.wrap ((i:Int)+1)))) none=some (.own 0 1 0 (i+1)):=by
    have ew:IntKind.i64.wrap ((i:Int)+1)=((i+1:Nat):Int):=Ze (n:=i+1) (by omega)
    have en:nat? (.int .i64 ((i+1:Nat):Int))=some (i+1):=rfl
    rw [ew]
    simp only [Z4,e22,e9,if_true,Xb,en,Nat.le_refl,Nat.add_zero,Nat.sub_zero]
   repeat' first|refine JS ?_|refine JJ ?_|refine Jb ?_ ?_|refine Jo ?_|intro hb
   all_goals first
    | (exfalso;simp at hb;done)
    | skip
   refine ZlZ _ _ _ ?_ ?_
   · rw [hsp,q3];simp [hpl]
   · rw [hsp,q3];rfl
 | succ m =>
   rcases Zdx rest with ⟨q1,q2,q3⟩|⟨a,b,q1,q2,q3,q4⟩
   case inl=>rw [Wn,hcn] at q2;omega
   rw [q2] at hc1
   have hal:a.length≤100000:=by rw [q1] at hrl;simp at hrl;omega
   have h48:Z4 E0 9 (.str rest) none (some (.int .i64 (IntKind.i64.wrap ((a.length:Int)+0)))) none=some (.str a):=by
    have ew:IntKind.i64.wrap ((a.length:Int)+0)=(a.length:Int):=by rw [Int.add_zero];exact Ze (by omega)
    have en:nat? (.int .i64 (a.length:Int))=some a.length:=rfl
    rw [ew,q1]
    simp only [Z4,e9,Xb,en]
    rw [if_pos (by simp)]
    simp
   have h55:Z4 E0 9 (.str rest) (some (.int .i64 (IntKind.i64.wrap ((a.length:Int)+Int.ofNat [(46:UInt8)].length)))) none none=some (.str b):=by
    have ew:IntKind.i64.wrap ((a.length:Int)+Int.ofNat [(46:UInt8)].length)=((a.length+1:Nat):Int):=Ze (n:=a.length+1) (by omega)
    have en:nat? (.int .i64 ((a.length+1:Nat):Int))=some (a.length+1):=rfl
    rw [ew,q1]
    simp only [Z4,e9,Xb,en]
    rw [if_pos (by simp),List.take_length]
    have e:a++46::b=(a++ [46])++b:=by simp
    show some (PV.str (List.drop (a.length+1) (a++46::b)))=some (.str b)
    rw [e,List.drop_left' (by simp)]
   have hwr:Heap.wr ⟨[.cells 1 (ZJ pre++List.replicate (m+1+1) [.str []])],0,[],0⟩ (.ptr 0 1 (0+i) 0) [.str a]=some ⟨[.cells 1 (ZJ (pre++ [a])++List.replicate (m+1) [.str []])],0,[],0⟩:=by
    have:=hwrG pre a (List.replicate (m+1) [.str []])
    rw [hpl] at this
    exact this
   repeat' first|refine Jc (hc1 _) ?_|refine JS ?_|refine JJ ?_|refine Jt ?_|refine Jb ?_ ?_|refine Jo ?_|intro hb
   all_goals first
    | (exfalso;simp at hb;omega)
    | skip
   refine LoopI.go m (by omega) ⟨i+1,b,pre++ [a],_,by omega,by simp [hpl],by rw [hsp,q3];simp,?_,by rw [q1] at hrl;simp at hrl;omega,Zi ⟨rfl,rfl,rfl,rfl,rfl,Zh (Ze (n:=i+1) (by omega)),trivial⟩,rfl⟩
   rw [Wn,Wn,hcn] at q4
   omega
open Go.Proofs
def ZrA:Bs:=[97,98,99,100,101,102,103,104,105,106,107,108,109,110,111,112,113,114,115,116,117,118,119,120,121,122,48,49,50,51,52,53,54,55,56,57]
def alN (n:Nat):Bool:=(Nat.ble 97 n&&Nat.ble n 122)||(Nat.ble 48 n&&Nat.ble n 57)
def alB (c:UInt8):Bool:=alN c.toNat
def setC:List PV:=(List.range 256).map fun n=> .bool (alN n)
theorem Uz:setC.length=256:=by simp [setC]
theorem Zkh (h:n<256):setC[n]? = some (.bool (alN n)):=by
 simp [setC,h]
theorem Zpm:Qs E0 100 60 ⟨260,[.str ZrA],.tup [.agg setC,.bool true]⟩=true:=by kernel_rfl
theorem ZsI:E0.T 233=some ⟨.array 256 4,256,256,.agg (List.replicate 256 (.bool false))⟩:=by kernel_rfl
theorem e4:E0.T 4=some ⟨.bool,1,1,.bool false⟩:=by kernel_rfl
theorem e9s:E0.T 9=some ⟨.string,1,16,.str []⟩:=by kernel_rfl
theorem ZmQ:setC.all Z3=true:=by
 simp [setC,Z3]
attribute [irreducible] setC
abbrev Zjr (ro:Nat) (lv:List Nat) (nt:Nat):Heap:=⟨[.cells 256 [setC]],ro,lv,nt⟩
theorem ZrR (c:UInt8) (ro:Nat) (lv:List Nat) (nt:Nat):CallOk E0 Tryz.prog 281 [.ptr 0 256 0 0,.int .u8 (c.toNat:Int)] (Zjr ro lv nt) (.bool (alB c)) (Zjr ro lv nt):=by
 have hc:c.toNat<256:=c.toNat_lt
 have h1:Zp E0 233 (.ptr 0 256 0 0) (.int .u8 (c.toNat:Int))=some (.ptr 0 256 0 (0+c.toNat*1)):=by
  have en:nat? (.int .u8 (c.toNat:Int))=some c.toNat:=rfl
  simp only [Zp,ZsI,e4,en]
  rw [if_pos hc]
 have h2:YP E0 4 (.ptr 0 256 0 (0+c.toNat*1)) (Uw (Zjr ro lv nt))=some (.bool (alB c)):=by
  have hn:nth (Uw (Zjr ro lv nt)).bx 0=some (.cells 256 [setC]):=rfl
  have hm:nth [setC] 0=some setC:=rfl
  have hd:(setC.drop (0+c.toNat*1)).take 1= [.bool (alN c.toNat)]:=by
   have hl:c.toNat<setC.length:=by rw [Uz];exact hc
   rw [Nat.zero_add,Nat.mul_one,List.drop_eq_getElem_cons hl]
   have:=Zkh hc
   rw [List.getElem?_eq_getElem hl] at this
   simp only [Option.some.injEq] at this
   simp [this]
  simp only [YP,e4,Heap.rd,hn,if_true,hm,Qn,Bool.false_eq_true,if_false]
  rw [if_pos (by rw [Uz];omega),hd]
  rfl
 refine U5 (own:=fun _=>false) tOk fe281.ok ?_
 refine Wp.seq ?_
 repeat' first|refine JJ ?_|(apply qLd;rfl;rfl;rfl;assumption;exact IsV.any _)|refine Jt ?_|refine Jb ?_ ?_|refine Jo ?_|intro hb
 all_goals (rw [hb];rfl)
theorem Zo3 (c:UInt8) (r:Bs):Z4 E0 9 (.str (c::r)) (some (.int .i64 1)) none none=some (.str r):=by
 have en:nat? (.int .i64 1)=some 1:=rfl
 simp only [Z4,e9s,Xb,en]
 rw [if_pos (by simp),List.take_length]
 rfl
theorem Zs5 (s:Bs) (ro:Nat) (lv:List Nat) (nt:Nat):CallOk E0 Tryz.prog 261 [.str s,.ptr 0 256 0 0] (Zjr ro lv nt) (.str (s.dropWhile alB)) (Zjr ro lv nt):=by
 refine U5 (own:=fun _=>false) tOk fe261.ok ?_
 refine Wp.seq ?_
 repeat' first|refine Jo ?_|fail
 refine Wp.while (fun m tm H=>∃ (rest:Bs) (base:TM),rest.length=m∧s.dropWhile alB=rest.dropWhile alB∧tm=ovr base [(0,.str rest),(1,.ptr 0 256 0 0)]∧H=Uw (Zjr ro lv nt))
  (fun m tm H hI=>?_) s.length _ _ ⟨s,_,rfl,rfl,Zi ⟨rfl,rfl,trivial⟩,rfl⟩
 obtain ⟨rest,base,hl,hd,rfl,rfl⟩:=hI
 cases rest with
 | nil =>
   repeat' first|refine Jt ?_|refine Jo ?_|fail
   rw [hd];rfl
 | cons c r =>
   have hc:=ZrR c 1 [] nt
   have hs:=Zo3 c r
   repeat' first|refine Jc hc ?_|refine JS ?_|refine Jb ?_ ?_|refine Jo ?_|intro hb
   all_goals first
    | (exfalso;simp at hb;done)
    | (exfalso;simp at hb;omega)
    | skip
   · have hc0 : alB c = false := by simpa using hb
     rw [hd]
     simp only [List.dropWhile_cons,hc0,Bool.false_eq_true,if_false]
     rfl
   · have hc0 : alB c = true := by simpa using hb
     refine LoopI.go r.length (by simp at hl;omega) ⟨r,_,rfl,?_,Zi ⟨rfl,rfl,trivial⟩,rfl⟩
     rw [hd]
     simp only [List.dropWhile_cons,hc0,if_true]
def XW (s:Bs):Bs:=(s.reverse.dropWhile alB).reverse
theorem Qm (r:Bs) (c:UInt8):XW (r++ [c])=if alB c=true then XW r else r++ [c]:=by
 simp only [XW,List.reverse_append,List.reverse_cons,List.reverse_nil,List.nil_append,List.cons_append,List.dropWhile_cons]
 split
 · rfl
 · simp
theorem Zip (h:s≠ []):∃ r c,s=r++ [c]:=⟨s.dropLast,s.getLast h,(List.dropLast_concat_getLast h).symm⟩
theorem Zvn (s:Bs) (hs:s.length≤100000) (ro:Nat) (lv:List Nat) (nt:Nat):CallOk E0 Tryz.prog 262 [.str s,.ptr 0 256 0 0] (Zjr ro lv nt) (.str (XW s)) (Zjr ro lv nt):=by
 refine U5 (own:=fun _=>false) tOk fe262.ok ?_
 refine Wp.seq ?_
 repeat' first|refine Jo ?_|fail
 refine Wp.while (fun m tm H=>∃ (rest:Bs) (base:TM),rest.length=m∧rest.length≤100000∧XW s=XW rest∧tm=ovr base [(0,.str rest),(1,.ptr 0 256 0 0)]∧H=Uw (Zjr ro lv nt))
  (fun m tm H hI=>?_) s.length _ _ ⟨s,_,rfl,hs,rfl,Zi ⟨rfl,rfl,trivial⟩,rfl⟩
 obtain ⟨rest,base,hl,hrl,hd,rfl,rfl⟩:=hI
 by_cases hne:rest= []
 · subst hne
   repeat' first|refine Jt ?_|refine Jo ?_|fail
   rw [hd];rfl
 · obtain ⟨r, c, rfl⟩ := Zip hne
   have hc:=ZrR c 1 [] nt
   have hr1:r.length≤100000:=by simp at hrl;omega
   have ew:IntKind.i64.wrap (Int.ofNat (r++ [c]).length-1)=(r.length:Int):=by
    have e:Int.ofNat (r++ [c]).length-1=(r.length:Int):=by simp
    rw [e];exact Ze (by omega)
   have en:nat? (.int .i64 (r.length:Int))=some r.length:=rfl
   have hix:Vk E0 9 (.str (r++ [c])) (.int .i64 (IntKind.i64.wrap (Int.ofNat (r++ [c]).length-1)))=some (.int .u8 (c.toNat:Int)):=by
    rw [ew]
    have hn:nth (r++ [c]) r.length=some c:=by rw [ZA];simp
    simp only [Vk,e9s,en,hn]
    rfl
   have hsl:Z4 E0 9 (.str (r++ [c])) none (some (.int .i64 (IntKind.i64.wrap (Int.ofNat (r++ [c]).length-1)))) none=some (.str r):=by
    rw [ew]
    simp only [Z4,e9s,Xb,en]
    rw [if_pos (by simp)]
    simp
   repeat' first|refine Jc hc ?_|refine JS ?_|refine JX ?_|refine Jb ?_ ?_|refine Jo ?_|intro hb
   all_goals first
    | (exfalso;simp at hb;done)
    | (exfalso;simp at hb;omega)
    | skip
   · have hc0 : alB c = false := by simpa using hb
     rw [hd,Qm,if_neg (by simp [hc0])]
     rfl
   · have hc0 : alB c = true := by simpa using hb
     refine LoopI.go r.length (by simp at hl;omega) ⟨r,_,rfl,hr1,?_,Zi ⟨rfl,rfl,trivial⟩,rfl⟩
     rw [hd,Qm,if_pos hc0]
theorem ZtL:∀ H,CallOk E0 Tryz.prog 260 [.str ZrA] H (.tup [.agg setC,.bool true]) H:=Xn tOk follows fOk zOk Zpm
def Zmt (s:Bs):Bs:=(XW s).dropWhile alB
theorem ZkA:Heap.wr ⟨[.cells 256 [List.replicate 256 (.bool false)]],0,[],0⟩ (.ptr 0 256 0 0) setC=some (Zjr 0 [] 0):=by
 have h0:nth [Box.cells 256 [List.replicate 256 (PV.bool false)]] 0=some (.cells 256 [List.replicate 256 (PV.bool false)]):=rfl
 have h1:nth [List.replicate 256 (PV.bool false)] 0=some (List.replicate 256 (.bool false)):=rfl
 simp only [Heap.wr,h0,if_true,h1]
 rw [if_pos (by rw [Uz];simp)]
 simp [Heap.put,Uz]
theorem Zth (s:Bs) (hs:s.length≤100000):∀ H,CallOk E0 Tryz.prog 236 [.str s,.str ZrA] H (.str (Zmt s)) H:=by
 refine Jw tOk fe236.ok rfl ?_
 have hal:∀ ρ,aOp E0 false ρ (.alloc 233) hNil=some (.ptr 0 256 0 0,⟨[.cells 256 [List.replicate 256 (.bool false)]],0,[],0⟩):=fun ρ=>by
  simp only [aOp,ZsI]
  rw [if_pos ⟨by simp [PV.cells],by omega⟩]
  rfl
 have hl:(Nat.beq setC.length 256&&Nat.blt 0 256)=true:=by rw [Uz];rfl
 have hc:setC.all Z3=true:=ZmQ
 have hst:=ZkA
 have h1:=Zvn s hs 0 [] 0
 have h2:=Zs5 (XW s) 0 [] 0
 repeat' first|refine Jk ?_|(apply qCl;rfl;rfl;rfl;rfl;first|exact ZtL _|exact h1|exact h2)|(apply RegQ.rAl;rfl;rfl;assumption)|refine Jt ?_|refine Jb ?_ ?_|refine Jo ?_|intro hb
 · simp at hb
   subst hb
   rfl
 · rfl
theorem Vd:s.dropWhile alB= []↔s.all alB=true:=by
 induction s with
 |nil=>simp
 | cons c r ih =>
   simp only [List.dropWhile_cons,List.all_cons,Bool.and_eq_true]
   by_cases h:alB c=true
   · simp [h,ih]
   · simp [h]
theorem ZfO:Zmt s= []↔s.all alB=true:=by
 unfold Zmt
 rw [Vd]
 constructor
 · intro h
   by_cases hn:XW s= []
   · unfold XW at hn
     have h2:s.reverse.dropWhile alB= []:=by simpa using hn
     have:=Vd.1 h2
     simpa using this
   · exfalso
     obtain ⟨r,c,e⟩:=Zip hn
     have hc:alB c=true:=by
      rw [e] at h
      simp only [List.all_append,List.all_cons,List.all_nil,Bool.and_true,Bool.and_eq_true] at h
      exact h.2
     have h3:s.reverse.dropWhile alB=c::r.reverse:=by
      have:=congrArg List.reverse e
      simpa [XW] using this
     have h4:=List.head_dropWhile_not alB (l:=s.reverse) (by rw [h3];simp)
     simp only [h3,List.head_cons] at h4
     rw [hc] at h4
     cases h4
 · intro h
   have h2:s.reverse.dropWhile alB= []:=Vd.2 (by simpa using h)
   simp [XW,h2]
end Go.Vm.Seat
