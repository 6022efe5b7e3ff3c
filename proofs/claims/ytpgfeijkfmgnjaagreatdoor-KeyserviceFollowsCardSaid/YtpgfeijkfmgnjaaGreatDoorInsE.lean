/-
  slices.Insert at entries, one entry ahead of others: both roads.
-/
import Derived.Test.YtpgfeijkfmgnjaaGreatDoorId
import Derived.Shelf.Spec.SlicesInsertGrow
set_option maxHeartbeats 0
set_option maxRecDepth 100000
namespace Go.Vm.Seat
variable {l:List Tm} {a b:Tm}
open Go.Proofs
def Wa:Nat→List Tm→Nat→Bool→List Tm
 |0,_,_,_=>[]
 |f+1,l,n,w=>if n=l.length then (if w=true then [] else [Zr 33 l]) else if n≤Zd l.length then Wa f (l.take (Zd l.length)) n w++ [Zr 33 (l.drop (Zd l.length))] else Wa f (l.drop (Zd l.length)) (n-Zd l.length) false++ [Zr 33 (l.take (Zd l.length))]
theorem VT:∀ (f:Nat) (l:List Tm) (n:Nat) (w:Bool),(Wa f l n w).length≤f
 |0,_,_,_=>by simp [Wa]
 | f + 1, l, n, w => by
   have h1:=VT f (l.take (Zd l.length)) n w
   have h2:=VT f (l.drop (Zd l.length)) (n-Zd l.length) false
   simp only [Wa]
   split
   · split<;>simp
   · split<;>simp only [List.length_append,List.length_singleton]<;>omega
theorem Ze8 {S:Nat}:∀ (f:Nat) {l:List Tm} (n:Nat) (w:Bool),l.length≤12→(∀ t,t∈l→t.Ok∧t.size≤S)→∀ t,t∈Wa f l n w→t.Ok∧t.size≤12*(S+11)
 |0,l,n,w,_,_,t,ht=>by simp [Wa] at ht
 | f + 1, l, n, w, hl, h, t, ht => by
   have key:∀ m:List Tm,m.length≤12→(∀ t,t∈m→t.Ok∧t.size≤S)→(Zr 33 m).Ok∧(Zr 33 m).size≤12*(S+11):=fun m hm hh=>by
    obtain ⟨a,b⟩:=Xw (S:=S) 32 (l:=m) (by omega) hh
    have:=Nat.mul_le_mul_right (S+11) (show max m.length 1≤12 by omega)
    exact ⟨a,by show (Zr (32+1) m).size≤_;omega⟩
   simp only [Wa] at ht
   split at ht
   · split at ht
     · simp at ht
     · simp only [List.mem_singleton] at ht
       subst ht
       exact key _ hl h
   · split at ht
     · simp only [List.mem_append, List.mem_singleton] at ht
       rcases ht with ht|rfl
       · exact Ze8 f n w (by rw [List.length_take];omega) (fun t ht=>h t (List.mem_of_mem_take ht)) t ht
       · exact key _ (by rw [List.length_drop];omega) fun t ht=>h t (List.mem_of_mem_drop ht)
     · simp only [List.mem_append, List.mem_singleton] at ht
       rcases ht with ht|rfl
       · exact Ze8 f _ _ (by rw [List.length_drop];omega) (fun t ht=>h t (List.mem_of_mem_drop ht)) t ht
       · exact key _ (by rw [List.length_take];omega) fun t ht=>h t (List.mem_of_mem_take ht)
theorem Zcc {f:Nat} (h:2≤l.length):Zr (f+1) l=YL (Zr f (l.take (Zd l.length))) (Zr f (l.drop (Zd l.length))):=by
 match l,h with
 | [],h=>simp at h
 | [_],h=>simp at h
 |a::b::r,_=>rfl
theorem UE:∀ (f g:Nat) (l:List Tm),l.length≤f→l.length≤g→Zr (f+1) l=Zr (g+1) l
 |f,g,[],_,_=>rfl
 |f,g,[t],_,_=>rfl
 |0,g,a::b::r,h,_=>by simp at h
 |f+1,0,a::b::r,_,h=>by simp at h
 | f + 1, g + 1, a :: b :: r, h, h' => by
   have hl:2≤(a::b::r).length:=by simp
   have hh:=XG hl
   have hp:=Y8 (a::b::r).length
   rw [Zcc hl,Zcc hl,UE f g _ (by rw [List.length_take];omega) (by rw [List.length_take];omega),UE f g _ (by rw [List.length_drop];omega) (by rw [List.length_drop];omega)]
theorem ZaB (h:2≤l.length) (h32:l.length≤32):Zr 33 l=YL (Zr 33 (l.take (Zd l.length))) (Zr 33 (l.drop (Zd l.length))):=by
 have hh:=XG h
 have hp:=Y8 l.length
 rw [show Zr 33 l=Zr (32+1) l from rfl,Zcc h,show (32:Nat)=31+1 from rfl,UE 31 32 _ (by rw [List.length_take];omega) (by rw [List.length_take];omega),UE 31 32 (l.drop _) (by rw [List.length_drop];omega) (by rw [List.length_drop];omega)]
theorem Qb {c d:Tm} (h1:a.cl=c.cl) (h2:b.cl=d.cl):(YL a b).cl=(YL c d).cl:=by
 simp only [YL,Tm.cl,clL,h1,h2]
theorem Zkz (h:a.cl=b.cl):(X6 a).cl=(X6 b).cl:=by
 simp only [X6,Tm.cl,clL,h]
theorem UP {P L:List Tm} {x:Tm} (h:P.map Tm.cl=(L++ [x]).map Tm.cl):∃ P1 a,P=P1++ [a]∧P1.map Tm.cl=L.map Tm.cl∧a.cl=x.cl:=by
 have hne:P≠ []:=fun e=>by rw [e] at h;simp at h
 refine ⟨P.dropLast,P.getLast hne,(List.dropLast_concat_getLast hne).symm,?_,?_⟩
 · have := congrArg List.dropLast h
   simpa [List.map_append,List.map_dropLast] using this
 · have e := List.dropLast_concat_getLast hne
   rw [← e,List.map_append,List.map_append] at h
   have:=(List.append_inj' h rfl).2
   simpa using this
theorem Za1 : ∀ (f i : Nat) (l P Q : List Tm) (t u : Tm), l.length ≤ f → l.length ≤ 32 → l[i]? = some u → t.cl = u.cl → P.map Tm.cl = (WX f l i).map Tm.cl →
  (XU f l.length i t (P++Q)).2=(Q,true)∧(XU f l.length i t (P++Q)).1.cl=(Zr 33 l).cl
 | 0, i, l, P, Q, t, u, h, _, hu, _, _ => by
   have:=ZK hu
   omega
 | f + 1, i, l, P, Q, t, u, h, h32, hu, ht, hP => by
   have hi:=ZK hu
   by_cases h1:l.length=1
   · simp only [WX, if_pos h1, List.map_nil, List.map_eq_nil_iff] at hP
     subst hP
     simp only [XU,if_pos h1,List.nil_append,true_and]
     match l,h1 with
     | [v], _ =>
       have e:v=u:=by
        have:i=0:=by simp at hi;exact hi
        subst this
        simpa using hu
       subst e
       exact Zkz ht
   · have h2 : 2 ≤ l.length := by omega
     have hh:=XG h2
     have hp:=Y8 l.length
     have l1:(l.take (Zd l.length)).length=Zd l.length:=by rw [List.length_take];omega
     have l2:(l.drop (Zd l.length)).length=l.length-Zd l.length:=List.length_drop ..
     rw [ZaB h2 h32]
     by_cases hlt:i<Zd l.length
     · simp only [WX, if_neg h1, if_pos hlt] at hP
       obtain ⟨P1,a,rfl,p1,p2⟩:=UP hP
       obtain ⟨r1,r2⟩:=Za1 f i (l.take (Zd l.length)) P1 (a::Q) t u (by omega) (by omega) (by rw [List.getElem?_take_of_lt hlt];exact hu) ht p1
       rw [l1] at r1 r2
       simp only [XU,if_neg h1,if_pos hlt,List.append_assoc,List.singleton_append]
       have e1:=congrArg Prod.fst r1
       have e2:=congrArg Prod.snd r1
       simp only at e1 e2
       simp only [e1,e2,Bool.true_eq_false,if_false]
       exact ⟨trivial,Qb r2 p2⟩
     · simp only [WX, if_neg h1, if_neg hlt] at hP
       obtain ⟨P1,a,rfl,p1,p2⟩:=UP hP
       obtain ⟨r1,r2⟩:=Za1 f (i-Zd l.length) (l.drop (Zd l.length)) P1 (a::Q) t u (by omega) (by omega) (by rw [List.getElem?_drop,show Zd l.length+(i-Zd l.length)=i by omega];exact hu) ht p1
       rw [l2] at r1 r2
       simp only [XU,if_neg h1,if_neg hlt,List.append_assoc,List.singleton_append]
       have e1:=congrArg Prod.fst r1
       have e2:=congrArg Prod.snd r1
       simp only at e1 e2
       simp only [e1,e2,Bool.true_eq_false,if_false]
       exact ⟨trivial,Qb p2 r2⟩
theorem Zhw {n m:Nat} (h1:Zd n<m) (h2:m≤n) (h3:n≤32):Zd m=Zd n:=by
 unfold Zd at h1 ⊢
 (repeat' split at h1)<;>(repeat' split)<;>omega
theorem ZcF : ∀ (f m : Nat) (w : Bool) (l P Q : List Tm) (old : Tm), l.length ≤ f → l.length ≤ 32 → 1 ≤ m → m ≤ l.length → (w = true → old.cl = (Zr 33 (l.take m)).cl) → P.map Tm.cl = (Wa f l m w).map Tm.cl →
  (WI f old m l.length w (P++Q)).2=(Q,true)∧(WI f old m l.length w (P++Q)).1.1.cl=(Zr 33 (l.take m)).cl∧(WI f old m l.length w (P++Q)).1.2.cl=(Zr 33 l).cl
 |0,m,w,l,P,Q,old,h,_,hm,hml,_,_=>by omega
 | f + 1, m, w, l, P, Q, old, h, h32, hm, hml, ho, hP => by
   by_cases hmn:m=l.length
   · have ht : l.take m = l := by rw [hmn, List.take_length]
     rw [ht] at ho ⊢
     cases w with
     | true =>
       simp only [Wa,if_pos hmn,if_true,List.map_nil,List.map_eq_nil_iff] at hP
       subst hP
       simp only [WI,hmn,true_and,if_true,List.nil_append]
       exact ⟨ho rfl,ho rfl⟩
     | false =>
       simp only [Wa,if_pos hmn,Bool.false_eq_true,if_false] at hP
       obtain ⟨P1,a,rfl,p1,p2⟩:=UP (L:=[]) hP
       simp only [List.map_nil,List.map_eq_nil_iff] at p1
       subst p1
       simp only [WI,hmn,Bool.false_eq_true,and_false,if_false,if_true,List.nil_append,List.singleton_append,true_and]
       exact ⟨p2,p2⟩
   · have h2 : 2 ≤ l.length := by omega
     have hh:=XG h2
     have hp:=Y8 l.length
     have l1:(l.take (Zd l.length)).length=Zd l.length:=by rw [List.length_take];omega
     have l2:(l.drop (Zd l.length)).length=l.length-Zd l.length:=List.length_drop ..
     have hnw:¬ (m=l.length∧w=true):=fun e=>hmn e.1
     rw [ZaB h2 h32]
     by_cases hlt:m≤Zd l.length
     · simp only [Wa, if_neg hmn, if_pos hlt] at hP
       obtain ⟨P1,a,rfl,p1,p2⟩:=UP hP
       have htt:(l.take (Zd l.length)).take m=l.take m:=by rw [List.take_take,Nat.min_eq_left hlt]
       obtain ⟨r1,r2,r3⟩:=ZcF f m w (l.take (Zd l.length)) P1 (a::Q) old (by omega) (by omega) hm (by omega) (fun e=>by rw [htt];exact ho e) p1
       rw [l1,htt] at r2
       rw [l1] at r1 r3
       simp only [WI,if_neg hmn,if_neg hnw,if_pos hlt,List.append_assoc,List.singleton_append]
       have e1:=congrArg Prod.fst r1
       have e2:=congrArg Prod.snd r1
       simp only at e1 e2
       simp only [e1,e2,Bool.true_eq_false,if_false]
       exact ⟨trivial,r2,Qb r3 p2⟩
     · simp only [Wa, if_neg hmn, if_neg hlt] at hP
       obtain ⟨P1,a,rfl,p1,p2⟩:=UP hP
       obtain ⟨r1,r2,r3⟩:=ZcF f (m-Zd l.length) false (l.drop (Zd l.length)) P1 (a::Q) old (by omega) (by omega) (by omega) (by omega) (fun e=>by cases e) p1
       rw [l2] at r1 r2 r3
       simp only [WI,if_neg hmn,if_neg hnw,if_neg hlt,List.append_assoc,List.singleton_append]
       have e1:=congrArg Prod.fst r1
       have e2:=congrArg Prod.snd r1
       simp only at e1 e2
       simp only [e1,e2,Bool.true_eq_false,if_false]
       refine ⟨trivial,?_,Qb p2 r3⟩
       have lm:(l.take m).length=m:=by rw [List.length_take];omega
       have hs:=Zhw (n:=l.length) (m:=m) (by omega) hml h32
       rw [ZaB (l:=l.take m) (by omega) (by omega),lm,hs,List.take_take,Nat.min_eq_left (by omega),List.drop_take]
       exact Qb p2 r2
open Go.RowKit Go.Lib
theorem Zht (b c n i vb vc : Nat) (cs vs : List Value) (w : World) (hi : i < n) (hn : n ≤ 1000) (hroom : n + 1 ≤ c) (hc63 : c ≤ 9223372036854775807) (hvb : vb ≠ b)
  (hcl:cs.length=n*6) (hvl:vs.length=6)
  (hcs:∀ j v,cs[j]? = some v→w.cell? ⟨b,0+j,none⟩=some v) (hsp:∀ j,j<(n+1)*6→(w.cell? ⟨b,0+j,none⟩).isSome=true) (hfz:∀ j,j<(n+1)*6→w.frozen? ⟨b,0+j,none⟩=false)
  (hvs:∀ j v,vs[j]? = some v→w.cell? ⟨vb,0+j,none⟩=some v) (h1c:∀ v∈cs,v.oneCell'=true) (h1v:∀ v∈vs,v.oneCell'=true)
  (tA tB:TypeId) (kA kB:Nat) (hsa:w.shape? vb=some (tA,kA)) (hsb:w.shape? b=some (tB,kB)) (hkB:kB≠0) (hfa:w.frozen? ⟨vb,0,none⟩=false) (hfe:w.frozen? ⟨vb,kA,none⟩=false) :
  Calls Tryz.prog 125 #[.slice (some ⟨b,0,none⟩) n c,.int .i64 i,.slice (some ⟨vb,0,none⟩) 1 vc] w fun e w'=>
   e= .returned (.slice (some ⟨b,0,none⟩) (n+1) c)∧w'=(w.drew.setCells b ((i+1)*6) (cs.drop (i*6))).setCells b (i*6) vs:=by
 have hsz:(Tryz.prog.info? 69).map (·.size)=some 6:=by kernel_rfl
 have hz62:∀ w,(Go.sizeOf 69).run Tryz.prog w= .ok 6 w:=fun w=>by
  cases hq:Tryz.prog.info? 69 with
  | none=>simp [hq] at hsz
  | some i=>simp [hq] at hsz;simp [sizeOf,typeInfo,hq,hsz]
 have hov:∀ o lb cb,(callFunc 162 #[.slice (some ⟨vb,0,none⟩) 1 vc,.slice (some ⟨b,o,none⟩) lb cb]).run Tryz.prog w= .ok (.value (.bool false)) w:=fun o lb cb=>by
  rw [run_callFunc_extern Tryz.func162 (by kernel_rfl) (by kernel_rfl) (by kernel_rfl) (e:=Extern.SlicesOverlaps.overlaps #[27,27] #[4]) (by kernel_rfl),
   Lib.run_overlaps_apart w 27 4 69 Tryz.underlying27 6 hz62 ⟨vb,0,none⟩ ⟨b,o,none⟩ 1 vc lb cb hvb tA tB kA kB hsa hsb hkB hfa hfe]
  rfl
 have hdl:(cs.drop (i*6)).length=(n-i)*6:=by rw [List.length_drop,hcl, ← Nat.sub_mul]
 have mixed:=follows
 have hw1:IntKind.i64.wrap ((i:Int)+1)=(i:Int)+1:=by rw [IntKind.wrap_i64];omega
 have hw2:IntKind.i64.wrap ((n:Int)+1)=(n:Int)+1:=by rw [IntKind.wrap_i64];omega
 have hz2:¬ ((i:Int)=(n:Int)):=by omega
 have hb1:(0:Int)≤(i:Int)+1:=by omega
 have hin:i≤n:=by omega
 have htn:((i:Int)+1).toNat=i+1:=by omega
 have hb2:¬ (c=i+1):=by omega
 have hb3:(i:Int)≤(n:Int):=by omega
 have hb4:¬ (c=i):=by omega
 have hb5:¬ ((c:Int)<(n:Int)+1):=by omega
 have hb6:(i:Int)≤(n:Int)+1:=by omega
 have hcp1:∀ ty dc sc,(Builtin.copy_ #[27,27] ty #[.slice (some ⟨b,(i+1)*6,none⟩) (n-i) dc,.slice (some ⟨b,i*6,none⟩) (n+1-i) sc]).run Tryz.prog w.drew= .ok (goInt (Nat.min (n+1-i) (n-i))) (w.drew.setCells b ((i+1)*6) (cs.drop (i*6))):=fun ty dc sc=>
  X7 w.drew _ _ ty 69 6 b ((i+1)*6) (n-i) dc ⟨b,i*6,none⟩ (n+1-i) sc (cs.drop (i*6)) Tryz.underlying27 hsz (by rw [hdl];simp only [Nat.min_def];split<;>first|rfl|(congr 1;omega)|omega)
   (fun j v hj=>by rw [Addr.add_lit];have:=hcs (i*6+j) v (by rwa [List.getElem?_drop] at hj);simpa using this)
   (fun j hj=>by have:=hsp ((i+1)*6+j) (by omega);simpa using this) (fun j hj=>by have:=hfz ((i+1)*6+j) (by omega);simpa using this) (fun v hv=>h1c v (List.mem_of_mem_drop hv))
 obtain ⟨W1,hW1⟩:∃ W1,W1=w.drew.setCells b ((i+1)*6) (cs.drop (i*6)):=⟨_,rfl⟩
 have hsp1:∀ k,k<(n+1)*6→(W1.cell? ⟨b,0+k,none⟩).isSome=true:=fun k hk=>by
  rw [hW1]
  have:=isSome_setCells b (cs.drop (i*6)) ((i+1)*6) w.drew (fun j hj=>by have:=hsp ((i+1)*6+j) (by omega);simpa using this) k (by have:=hsp k hk;simpa using this)
  simpa using this
 have hcp2:∀ (W:World),(∀ x,W.cell? x=W1.cell? x)→(∀ x,W.frozen? x=W1.frozen? x)→∀ ty dc,(Builtin.copy_ #[27,27] ty #[.slice (some ⟨b,i*6,none⟩) (n+1-i) dc,.slice (some ⟨vb,0,none⟩) 1 vc]).run Tryz.prog W= .ok (goInt (Nat.min 1 (n+1-i))) (W.setCells b (i*6) vs):=fun W hWc hWf ty dc=>
  X7 W _ _ ty 69 6 b (i*6) (n+1-i) dc ⟨vb,0,none⟩ 1 vc vs Tryz.underlying27 hsz (by rw [hvl];simp only [Nat.min_def];split<;>omega)
   (fun j v hj => by
     rw [Addr.add_lit,hWc,hW1,World.cell?_setCells_out b _ _ _ _ (fun h _=>absurd h hvb)]
     exact hvs j v hj)
   (fun j hj=>by rw [hWc];have:=hsp1 (i*6+j) (by omega);simpa using this) (fun j hj=>by rw [hWf,hW1,World.frozen?_setCells];have:=hfz (i*6+j) (by omega);simpa using this) h1v
 rw [← hW1] at hcp1
 go_enter Tryz.func125,Tryz.ntmps125
 go_wp2_with (simp only [hov])
 go_region_law_o (refine step_copy_runI rfl _ _ 27 27 rfl _ _ (by simp [Act.eval,Act.put]) (by simp [Act.eval,Act.put]) (hcp1 _ _ _) ?_)
 go_wp2_with (at_builtin;refine wpList_copy_runI _ rfl _ _ 27 27 rfl _ _ rfl rfl (hcp2 _ (fun _=>rfl) (fun _=>rfl) _ _) ?_)
 go_ret
 first|exact ⟨rfl,rfl⟩|exact ⟨rfl,by rw [hW1]⟩
theorem ZhD (b c n i vb vc : Nat) (cs vs : List Value) (w : World) (hi : i < n) (hn : n ≤ 1000) (hnc : n ≤ c) (hroom : c < n + 1)
  (hcl:cs.length=n*6) (hvl:vs.length=6)
  (hcs:∀ j v,cs[j]? = some v→w.cell? ⟨b,0+j,none⟩=some v)
  (hvs:∀ j v,vs[j]? = some v→w.cell? ⟨vb,0+j,none⟩=some v) (h1c:∀ v∈cs,v.oneCell'=true) (h1v:∀ v∈vs,v.oneCell'=true) :
  Calls Tryz.prog 125 #[.slice (some ⟨b,0,none⟩) n c,.int .i64 i,.slice (some ⟨vb,0,none⟩) 1 vc] w fun e w'=>
   ∃ (G:Nat) (ROW:Array Value),n+1≤G∧G≤9223372036854775807∧ROW.size=G*6∧(∀ j,j<i*6→ROW[j]? = cs[j]?)∧e= .returned (.slice (some ⟨w.heap.size,0,none⟩) (n+1) G)∧
   w'=(((w.alloc (.cells ROW 69)).drew.setCells w.heap.size (i*6) vs).drew).setCells w.heap.size ((i+1)*6) (cs.drop (i*6)):=by
 have mixed:=follows
 have hsz:(Tryz.prog.info? 69).map (·.size)=some 6:=by kernel_rfl
 have hbz:(Tryz.prog.info? 69).map (fun i=>(Nat.ble i.bytes 1000,i.zero.isSome,(i.zero.map (·.cells.size))))=some (true,true,some 6):=by kernel_rfl
 obtain ⟨i0,hi0⟩:∃ i,Tryz.prog.info? 69=some i:=by
  cases hq:Tryz.prog.info? 69 with
  | none=>simp [hq] at hsz
  | some i=>exact ⟨i,rfl⟩
 have hzs:i0.size=6:=by simpa [hi0] using hsz
 simp only [hi0,Option.map_some,Option.some.injEq,Prod.mk.injEq] at hbz
 obtain ⟨hb0,hz0,hz7⟩:=hbz
 obtain ⟨z,hz0⟩:=Option.isSome_iff_exists.1 hz0
 have hz7:z.cells.size=6:=by simpa [hz0] using hz7
 have hbytes:i0.bytes≤1000:=Nat.le_of_ble_eq_true hb0
 have hbig:(n+1)*i0.bytes≤1001000:=Nat.le_trans (Nat.mul_le_mul (show n+1≤1001 by omega) hbytes) (by decide)
 have hbw:b<w.heap.size:=block_lt_of_cell (hcs 0 _ (List.getElem?_eq_getElem (by omega)))
 have hvw:vb<w.heap.size:=block_lt_of_cell (hvs 0 _ (List.getElem?_eq_getElem (by omega)))
 have hkk:(n:Int)+1-(i:Int)=((n+1-i:Nat):Int):=by omega
 have hik:i+(n+1-i)=n+1:=by omega
 have hold:(Builtin.firstCells i0.size i (.slice (some ⟨b,0,none⟩) i c)).run Tryz.prog w.drew= .ok (cs.take (i*6)).toArray w.drew:=by
  rw [hzs]
  exact run_firstCells_some w.drew 6 i ⟨b,0,none⟩ i c (cs.take (i*6)) (by rw [List.length_take];omega) (fun j v hj=>by
   rw [Addr.add_lit]
   rw [List.getElem?_take] at hj
   split at hj
   · exact hcs j v hj
   · cases hj)
 have hrz : ∀ ty, (Builtin.append_ #[27, 3] ty #[.slice (some ⟨b, 0, none⟩) i c, .int .i64 ((n : Int) + 1 - (i : Int))]).run Tryz.prog w =
   .ok (.slice (some ⟨w.heap.size,0,none⟩) (n+1) (grownCap w (n+1) c 69)) (w.drew.alloc (.cells ((cs.take (i*6)).toArray++Builtin.zeroCells z.cells (n+1-i)++Builtin.zeroCells z.cells (grownCap w (n+1) c 69-(n+1))) 69)):=fun ty=>by
  have hfit:Builtin.nextslicecap (i+(n+1-i)) c*i0.bytes≤281474976710656:=by
   rw [hik]
   exact growslice_fits (by omega) (by omega)
  have h:=Lib.run_append_grow_zeros w 27 3 ty 69 i0 _ .i64 .i64 Tryz.underlying27 Tryz.underlying3 hi0 hz0 (some ⟨b,0,none⟩) i c (cs.take (i*6)) hold (n+1-i) (by omega) (by omega) (by omega) (by omega) (Nat.le_trans (Nat.mul_le_mul_right _ (show n+1-i≤n+1 by omega)) (by omega)) hfit
  rw [hik] at h
  rw [hkk]
  exact h
 obtain ⟨G,hG⟩:∃ G,G=grownCap w (n+1) c 69:=⟨_,rfl⟩
 obtain ⟨ROW,hROW⟩:∃ ROW:Array Value,ROW=(cs.take (i*6)).toArray++Builtin.zeroCells z.cells (n+1-i)++Builtin.zeroCells z.cells (G-(n+1)):=⟨_,rfl⟩
 rw [← hG] at hrz
 rw [← hROW] at hrz
 have hGn:n+1≤G:=by rw [hG];exact grownCap_ge w _ _ _
 have hRs:ROW.size=G*6:=by
  rw [hROW]
  simp [Builtin.zeroCells,hz7,hcl]
  omega
 have hRl:(n+1)*6≤ROW.size:=by omega
 have hRc:∀ j,j<i*6→ROW[j]? = cs[j]? :=fun j hj=>by
  rw [hROW,Array.append_assoc,Array.getElem?_append_left (by simp [hcl];omega)]
  simp [hj]
 obtain ⟨W1,hW1⟩:∃ W1,W1=w.drew.alloc (.cells ROW 69):=⟨_,rfl⟩
 rw [← hW1] at hrz
 have hN:∀ j,j<(n+1)*6→(W1.cell? ⟨w.heap.size,j,none⟩).isSome=true:=fun j hj=>by
  rw [hW1,World.cell?_alloc_at (w:=w.drew) ROW _ w.heap.size j rfl,Array.getElem?_eq_getElem (by omega)];rfl
 have hNf:∀ j,W1.frozen? ⟨w.heap.size,j,none⟩=false:=fun j=>by rw [hW1];exact World.frozen?_alloc_at (w:=w.drew) ROW _ w.heap.size j rfl
 have hOb:∀ j v,w.cell? ⟨b,j,none⟩=some v→W1.cell? ⟨b,j,none⟩=some v:=fun j v h=>by rw [hW1,World.cell?_alloc_past (w:=w.drew) _ b j hbw];exact h
 have hOv:∀ j v,w.cell? ⟨vb,j,none⟩=some v→W1.cell? ⟨vb,j,none⟩=some v:=fun j v h=>by rw [hW1,World.cell?_alloc_past (w:=w.drew) _ vb j hvw];exact h
 have hcpA:∀ (W:World),(∀ x,W.cell? x=W1.cell? x)→(∀ x,W.frozen? x=W1.frozen? x)→∀ ty dc,(Builtin.copy_ #[27,27] ty #[.slice (some ⟨w.heap.size,i*6,none⟩) (n+1-i) dc,.slice (some ⟨vb,0,none⟩) 1 vc]).run Tryz.prog W= .ok (goInt (Nat.min 1 (n+1-i))) (W.setCells w.heap.size (i*6) vs):=fun W hWc hWf ty dc=>
  X7 W _ _ ty 69 6 w.heap.size (i*6) (n+1-i) dc ⟨vb,0,none⟩ 1 vc vs Tryz.underlying27 hsz (by rw [hvl];simp only [Nat.min_def];split<;>omega)
   (fun j v hj=>by rw [Addr.add_lit,hWc];exact hOv _ v (hvs j v hj))
   (fun j hj=>by rw [hWc];exact hN _ (by omega)) (fun j hj=>by rw [hWf];exact hNf _) h1v
 have hG63:G≤9223372036854775807:=by
  have:=grownCap_le_maxLen w (n+1) c 69 (by unfold maxLen;omega)
  rw [← hG] at this
  unfold maxLen at this
  omega
 have hGi:¬ (G=i):=by omega
 have hGim:¬ (G=i+1):=by omega
 have hci:¬ (c=i):=by omega
 have hbN:b≠w.heap.size:=by omega
 have hdl:(cs.drop (i*6)).length=(n-i)*6:=by rw [List.length_drop,hcl, ← Nat.sub_mul]
 have hcpB:∀ (W:World),(∀ x,W.cell? x=(W1.setCells w.heap.size (i*6) vs).cell? x)→(∀ x,W.frozen? x=(W1.setCells w.heap.size (i*6) vs).frozen? x)→∀ ty dc sc,(Builtin.copy_ #[27,27] ty #[.slice (some ⟨w.heap.size,(i+1)*6,none⟩) (n-i) dc,.slice (some ⟨b,i*6,none⟩) (n-i) sc]).run Tryz.prog W= .ok (goInt (Nat.min (n-i) (n-i))) (W.setCells w.heap.size ((i+1)*6) (cs.drop (i*6))):=fun W hWc hWf ty dc sc=>
  X7 W _ _ ty 69 6 w.heap.size ((i+1)*6) (n-i) dc ⟨b,i*6,none⟩ (n-i) sc (cs.drop (i*6)) Tryz.underlying27 hsz (by rw [hdl];simp only [Nat.min_def];split<;>first|rfl|(congr 1;omega)|omega)
   (fun j v hj => by
     rw [Addr.add_lit,hWc,World.cell?_setCells_out _ _ _ _ _ (fun h _=>absurd h hbN)]
     have:=hcs (i*6+j) v (by rwa [List.getElem?_drop] at hj)
     exact hOb _ v (by simpa using this))
   (fun j hj=>by rw [hWc];exact isSome_setCells _ _ _ _ (fun t ht=>hN _ (by omega)) _ (hN _ (by omega)))
   (fun j hj=>by rw [hWf,World.frozen?_setCells];exact hNf _) (fun v hv=>h1c v (List.mem_of_mem_drop hv))
 subst hW1
 have hE1:∀ x,((w.alloc (.cells ROW 69)).drew).cell? x=(w.drew.alloc (.cells ROW 69)).cell? x:=fun x=>rfl
 have hE2:∀ x,((w.alloc (.cells ROW 69)).drew).frozen? x=(w.drew.alloc (.cells ROW 69)).frozen? x:=fun x=>rfl
 have hF1:∀ x,(((w.alloc (.cells ROW 69)).drew.setCells w.heap.size (i*6) vs).drew).cell? x=((w.drew.alloc (.cells ROW 69)).setCells w.heap.size (i*6) vs).cell? x:=fun x=>rfl
 have hF2:∀ x,(((w.alloc (.cells ROW 69)).drew.setCells w.heap.size (i*6) vs).drew).frozen? x=((w.drew.alloc (.cells ROW 69)).setCells w.heap.size (i*6) vs).frozen? x:=fun x=>rfl
 have hw1:IntKind.i64.wrap ((i:Int)+1)=(i:Int)+1:=by rw [IntKind.wrap_i64];omega
 have hw2:IntKind.i64.wrap ((n:Int)+1)=(n:Int)+1:=by rw [IntKind.wrap_i64];omega
 have hw3:IntKind.i64.wrap ((n:Int)+1-(i:Int))=(n:Int)+1-(i:Int):=by rw [IntKind.wrap_i64];omega
 have hz2:¬ ((i:Int)=(n:Int)):=by omega
 have hb1:(0:Int)≤(i:Int)+1:=by omega
 have hin:i≤n:=by omega
 have htn:((i:Int)+1).toNat=i+1:=by omega
 have hb3:(i:Int)≤(n:Int):=by omega
 have hb5:(c:Int)<(n:Int)+1:=by omega
 have hb6:(i:Int)≤(n:Int)+1:=by omega
 clear hkk hik hold hROW hG hRl
 go_enter Tryz.func125,Tryz.ntmps125
 go_wp2_with (first
  | (at_builtin;refine Lib.wpList_append_run _ rfl _ _ _ _ rfl _ _ rfl rfl _ _ (hrz _) ?_)
  | (at_builtin;refine wpList_copy_runI _ rfl _ _ 27 27 rfl _ _ rfl rfl (hcpA _ hE1 hE2 _ _) ?_)
  | (at_builtin;refine wpList_copy_runI _ rfl _ _ 27 27 rfl _ _ rfl rfl (hcpB _ (fun _=>rfl) (fun _=>rfl) _ _ _) ?_))
 go_region_law_o (refine step_copy_runI rfl _ _ 27 27 rfl (.slice (some ⟨w.heap.size,(i+1)*6,none⟩) (n-i) (G-(i+1))) (.slice (some ⟨b,i*6,none⟩) (n-i) (c-i)) (by simp [Act.eval,Act.put]) (by simp [Act.eval,Act.put]) (hcpB _ hF1 hF2 3 (G-(i+1)) (c-i)) ?_)
 go_wp2
 go_ret
 exact ⟨G,ROW,hGn,hG63,hRs,hRc,rfl,rfl⟩
