/-
  slices.Insert at steps, two steps ahead of others: both roads.
-/
import Derived.Test.YtgnklbkmfeafaaaGreatDoorStSize
import Derived.Test.YtgnklbkmfeafaaaGreatDoorFh
import Derived.Shelf.Spec.SlicesInsertGrow
set_option maxHeartbeats 0
set_option maxRecDepth 100000
namespace Go.Vm.Seat
open Go.Proofs Go.RowKit Go.Lib
theorem Zdz (b c n i vb vc : Nat) (cs vs : List Value) (w : World) (hi : i < n) (hn : n ≤ 1000) (hroom : n + 2 ≤ c) (hc63 : c ≤ 9223372036854775807) (hvb : vb ≠ b)
  (hcl:cs.length=n*7) (hvl:vs.length=14)
  (hcs:∀ j v,cs[j]? = some v→w.cell? ⟨b,0+j,none⟩=some v) (hsp:∀ j,j<(n+2)*7→(w.cell? ⟨b,0+j,none⟩).isSome=true) (hfz:∀ j,j<(n+2)*7→w.frozen? ⟨b,0+j,none⟩=false)
  (hvs:∀ j v,vs[j]? = some v→w.cell? ⟨vb,0+j,none⟩=some v) (h1c:∀ v∈cs,v.oneCell'=true) (h1v:∀ v∈vs,v.oneCell'=true)
  (tA tB:TypeId) (kA kB:Nat) (hsa:w.shape? vb=some (tA,kA)) (hsb:w.shape? b=some (tB,kB)) (hkB:kB≠0) (hfa:w.frozen? ⟨vb,0,none⟩=false) (hfe:w.frozen? ⟨vb,kA,none⟩=false) :
  Calls Tryz.prog 40 #[.slice (some ⟨b,0,none⟩) n c,.int .i64 i,.slice (some ⟨vb,0,none⟩) 2 vc] w fun e w'=>
   e= .returned (.slice (some ⟨b,0,none⟩) (n+2) c)∧w'=(w.drew.setCells b ((i+2)*7) (cs.drop (i*7))).setCells b (i*7) vs:=by
 have hsz:(Tryz.prog.info? 51).map (·.size)=some 7:=by kernel_rfl
 have hz62:∀ w,(Go.sizeOf 51).run Tryz.prog w= .ok 7 w:=fun w=>by
  cases hq:Tryz.prog.info? 51 with
  | none=>simp [hq] at hsz
  | some i=>simp [hq] at hsz;simp [sizeOf,typeInfo,hq,hsz]
 have hov:∀ o lb cb,(callFunc 77 #[.slice (some ⟨vb,0,none⟩) 2 vc,.slice (some ⟨b,o,none⟩) lb cb]).run Tryz.prog w= .ok (.value (.bool false)) w:=fun o lb cb=>by
  rw [run_callFunc_extern Tryz.func77 (by kernel_rfl) (by kernel_rfl) (by kernel_rfl) (e:=Extern.SlicesOverlaps.overlaps #[24,24] #[4]) (by kernel_rfl),
   Lib.run_overlaps_apart w 24 4 51 Tryz.underlying24 7 hz62 ⟨vb,0,none⟩ ⟨b,o,none⟩ 2 vc lb cb hvb tA tB kA kB hsa hsb hkB hfa hfe]
  rfl
 have hdl:(cs.drop (i*7)).length=(n-i)*7:=by rw [List.length_drop,hcl, ← Nat.sub_mul]
 have mixed:=follows
 have hw1:IntKind.i64.wrap ((i:Int)+2)=(i:Int)+2:=by rw [IntKind.wrap_i64];omega
 have hw2:IntKind.i64.wrap ((n:Int)+2)=(n:Int)+2:=by rw [IntKind.wrap_i64];omega
 have hz2:¬ ((i:Int)=(n:Int)):=by omega
 have hb1:(0:Int)≤(i:Int)+2:=by omega
 have hin:i≤n:=by omega
 have htn:((i:Int)+2).toNat=i+2:=by omega
 have hb2:¬ (c=i+2):=by omega
 have hb3:(i:Int)≤(n:Int):=by omega
 have hb4:¬ (c=i):=by omega
 have hb5:¬ ((c:Int)<(n:Int)+2):=by omega
 have hb6:(i:Int)≤(n:Int)+2:=by omega
 have hcp1:∀ ty dc sc,(Builtin.copy_ #[24,24] ty #[.slice (some ⟨b,(i+2)*7,none⟩) (n-i) dc,.slice (some ⟨b,i*7,none⟩) (n+2-i) sc]).run Tryz.prog w.drew= .ok (goInt (Nat.min (n+2-i) (n-i))) (w.drew.setCells b ((i+2)*7) (cs.drop (i*7))):=fun ty dc sc=>
  Y7 w.drew _ _ ty 51 7 b ((i+2)*7) (n-i) dc ⟨b,i*7,none⟩ (n+2-i) sc (cs.drop (i*7)) Tryz.underlying24 hsz (by rw [hdl];simp only [Nat.min_def];split<;>first|rfl|(congr 1;omega)|omega)
   (fun j v hj=>by rw [Addr.add_lit];have:=hcs (i*7+j) v (by rwa [List.getElem?_drop] at hj);simpa using this)
   (fun j hj=>by have:=hsp ((i+2)*7+j) (by omega);simpa using this) (fun j hj=>by have:=hfz ((i+2)*7+j) (by omega);simpa using this) (fun v hv=>h1c v (List.mem_of_mem_drop hv))
 obtain ⟨W1,hW1⟩:∃ W1,W1=w.drew.setCells b ((i+2)*7) (cs.drop (i*7)):=⟨_,rfl⟩
 have hsp1:∀ k,k<(n+2)*7→(W1.cell? ⟨b,0+k,none⟩).isSome=true:=fun k hk=>by
  rw [hW1]
  have:=isSome_setCells b (cs.drop (i*7)) ((i+2)*7) w.drew (fun j hj=>by have:=hsp ((i+2)*7+j) (by omega);simpa using this) k (by have:=hsp k hk;simpa using this)
  simpa using this
 have hcp2:∀ (W:World),(∀ x,W.cell? x=W1.cell? x)→(∀ x,W.frozen? x=W1.frozen? x)→∀ ty dc,(Builtin.copy_ #[24,24] ty #[.slice (some ⟨b,i*7,none⟩) (n+2-i) dc,.slice (some ⟨vb,0,none⟩) 2 vc]).run Tryz.prog W= .ok (goInt (Nat.min 2 (n+2-i))) (W.setCells b (i*7) vs):=fun W hWc hWf ty dc=>
  Y7 W _ _ ty 51 7 b (i*7) (n+2-i) dc ⟨vb,0,none⟩ 2 vc vs Tryz.underlying24 hsz (by rw [hvl];simp only [Nat.min_def];split<;>omega)
   (fun j v hj => by
     rw [Addr.add_lit,hWc,hW1,World.cell?_setCells_out b _ _ _ _ (fun h _=>absurd h hvb)]
     exact hvs j v hj)
   (fun j hj=>by rw [hWc];have:=hsp1 (i*7+j) (by omega);simpa using this) (fun j hj=>by rw [hWf,hW1,World.frozen?_setCells];have:=hfz (i*7+j) (by omega);simpa using this) h1v
 rw [← hW1] at hcp1
 go_enter Tryz.func40,Tryz.ntmps40
 go_wp2_with (simp only [hov])
 go_region_law_o (refine step_copy_runI rfl _ _ 24 24 rfl _ _ (by simp [Act.eval,Act.put]) (by simp [Act.eval,Act.put]) (hcp1 _ _ _) ?_)
 go_wp2_with (at_builtin;refine wpList_copy_runI _ rfl _ _ 24 24 rfl _ _ rfl rfl (hcp2 _ (fun _=>rfl) (fun _=>rfl) _ _) ?_)
 go_ret
 first|exact ⟨rfl,rfl⟩|exact ⟨rfl,by rw [hW1]⟩
theorem Zdf (b c n i vb vc : Nat) (cs vs : List Value) (w : World) (hi : i < n) (hn : n ≤ 1000) (hnc : n ≤ c) (hroom : c < n + 2)
  (hcl:cs.length=n*7) (hvl:vs.length=14)
  (hcs:∀ j v,cs[j]? = some v→w.cell? ⟨b,0+j,none⟩=some v)
  (hvs:∀ j v,vs[j]? = some v→w.cell? ⟨vb,0+j,none⟩=some v) (h1c:∀ v∈cs,v.oneCell'=true) (h1v:∀ v∈vs,v.oneCell'=true) :
  Calls Tryz.prog 40 #[.slice (some ⟨b,0,none⟩) n c,.int .i64 i,.slice (some ⟨vb,0,none⟩) 2 vc] w fun e w'=>
   ∃ (G:Nat) (ROW:Array Value),n+2≤G∧G≤9223372036854775807∧ROW.size=G*7∧(∀ j,j<i*7→ROW[j]? = cs[j]?)∧e= .returned (.slice (some ⟨w.heap.size,0,none⟩) (n+2) G)∧
   w'=(((w.alloc (.cells ROW 51)).drew.setCells w.heap.size (i*7) vs).drew).setCells w.heap.size ((i+2)*7) (cs.drop (i*7)):=by
 have mixed:=follows
 have hsz:(Tryz.prog.info? 51).map (·.size)=some 7:=by kernel_rfl
 have hbz:(Tryz.prog.info? 51).map (fun i=>(Nat.ble i.bytes 1000,i.zero.isSome,(i.zero.map (·.cells.size))))=some (true,true,some 7):=by kernel_rfl
 obtain ⟨i0,hi0⟩:∃ i,Tryz.prog.info? 51=some i:=by
  cases hq:Tryz.prog.info? 51 with
  | none=>simp [hq] at hsz
  | some i=>exact ⟨i,rfl⟩
 have hzs:i0.size=7:=by simpa [hi0] using hsz
 simp only [hi0,Option.map_some,Option.some.injEq,Prod.mk.injEq] at hbz
 obtain ⟨hb0,hz0,hz7⟩:=hbz
 obtain ⟨z,hz0⟩:=Option.isSome_iff_exists.1 hz0
 have hz7:z.cells.size=7:=by simpa [hz0] using hz7
 have hbytes:i0.bytes≤1000:=Nat.le_of_ble_eq_true hb0
 have hbig:(n+2)*i0.bytes≤1002000:=Nat.le_trans (Nat.mul_le_mul (show n+2≤1002 by omega) hbytes) (by decide)
 have hbw:b<w.heap.size:=block_lt_of_cell (hcs 0 _ (List.getElem?_eq_getElem (by omega)))
 have hvw:vb<w.heap.size:=block_lt_of_cell (hvs 0 _ (List.getElem?_eq_getElem (by omega)))
 have hkk:(n:Int)+2-(i:Int)=((n+2-i:Nat):Int):=by omega
 have hik:i+(n+2-i)=n+2:=by omega
 have hold:(Builtin.firstCells i0.size i (.slice (some ⟨b,0,none⟩) i c)).run Tryz.prog w.drew= .ok (cs.take (i*7)).toArray w.drew:=by
  rw [hzs]
  exact run_firstCells_some w.drew 7 i ⟨b,0,none⟩ i c (cs.take (i*7)) (by rw [List.length_take];omega) (fun j v hj=>by
   rw [Addr.add_lit]
   rw [List.getElem?_take] at hj
   split at hj
   · exact hcs j v hj
   · cases hj)
 have hrz : ∀ ty, (Builtin.append_ #[24, 3] ty #[.slice (some ⟨b, 0, none⟩) i c, .int .i64 ((n : Int) + 2 - (i : Int))]).run Tryz.prog w =
   .ok (.slice (some ⟨w.heap.size,0,none⟩) (n+2) (grownCap w (n+2) c 51)) (w.drew.alloc (.cells ((cs.take (i*7)).toArray++Builtin.zeroCells z.cells (n+2-i)++Builtin.zeroCells z.cells (grownCap w (n+2) c 51-(n+2))) 51)):=fun ty=>by
  have hfit:Builtin.nextslicecap (i+(n+2-i)) c*i0.bytes≤281474976710656:=by
   rw [hik]
   exact growslice_fits (by omega) (by omega)
  have h:=Lib.run_append_grow_zeros w 24 3 ty 51 i0 _ .i64 .i64 Tryz.underlying24 Tryz.underlying3 hi0 hz0 (some ⟨b,0,none⟩) i c (cs.take (i*7)) hold (n+2-i) (by omega) (by omega) (by omega) (by omega) (Nat.le_trans (Nat.mul_le_mul_right _ (show n+2-i≤n+2 by omega)) (by omega)) hfit
  rw [hik] at h
  rw [hkk]
  exact h
 obtain ⟨G,hG⟩:∃ G,G=grownCap w (n+2) c 51:=⟨_,rfl⟩
 obtain ⟨ROW,hROW⟩:∃ ROW:Array Value,ROW=(cs.take (i*7)).toArray++Builtin.zeroCells z.cells (n+2-i)++Builtin.zeroCells z.cells (G-(n+2)):=⟨_,rfl⟩
 rw [← hG] at hrz
 rw [← hROW] at hrz
 have hGn:n+2≤G:=by rw [hG];exact grownCap_ge w _ _ _
 have hRs:ROW.size=G*7:=by
  rw [hROW]
  simp [Builtin.zeroCells,hz7,hcl]
  omega
 have hRl:(n+2)*7≤ROW.size:=by omega
 have hRc:∀ j,j<i*7→ROW[j]? = cs[j]? :=fun j hj=>by
  rw [hROW,Array.append_assoc,Array.getElem?_append_left (by simp [hcl];omega)]
  simp [hj]
 obtain ⟨W1,hW1⟩:∃ W1,W1=w.drew.alloc (.cells ROW 51):=⟨_,rfl⟩
 rw [← hW1] at hrz
 have hN:∀ j,j<(n+2)*7→(W1.cell? ⟨w.heap.size,j,none⟩).isSome=true:=fun j hj=>by
  rw [hW1,World.cell?_alloc_at (w:=w.drew) ROW _ w.heap.size j rfl,Array.getElem?_eq_getElem (by omega)];rfl
 have hNf:∀ j,W1.frozen? ⟨w.heap.size,j,none⟩=false:=fun j=>by rw [hW1];exact World.frozen?_alloc_at (w:=w.drew) ROW _ w.heap.size j rfl
 have hOb:∀ j v,w.cell? ⟨b,j,none⟩=some v→W1.cell? ⟨b,j,none⟩=some v:=fun j v h=>by rw [hW1,World.cell?_alloc_past (w:=w.drew) _ b j hbw];exact h
 have hOv:∀ j v,w.cell? ⟨vb,j,none⟩=some v→W1.cell? ⟨vb,j,none⟩=some v:=fun j v h=>by rw [hW1,World.cell?_alloc_past (w:=w.drew) _ vb j hvw];exact h
 have hcpA:∀ (W:World),(∀ x,W.cell? x=W1.cell? x)→(∀ x,W.frozen? x=W1.frozen? x)→∀ ty dc,(Builtin.copy_ #[24,24] ty #[.slice (some ⟨w.heap.size,i*7,none⟩) (n+2-i) dc,.slice (some ⟨vb,0,none⟩) 2 vc]).run Tryz.prog W= .ok (goInt (Nat.min 2 (n+2-i))) (W.setCells w.heap.size (i*7) vs):=fun W hWc hWf ty dc=>
  Y7 W _ _ ty 51 7 w.heap.size (i*7) (n+2-i) dc ⟨vb,0,none⟩ 2 vc vs Tryz.underlying24 hsz (by rw [hvl];simp only [Nat.min_def];split<;>omega)
   (fun j v hj=>by rw [Addr.add_lit,hWc];exact hOv _ v (hvs j v hj))
   (fun j hj=>by rw [hWc];exact hN _ (by omega)) (fun j hj=>by rw [hWf];exact hNf _) h1v
 have hG63:G≤9223372036854775807:=by
  have:=grownCap_le_maxLen w (n+2) c 51 (by unfold maxLen;omega)
  rw [← hG] at this
  unfold maxLen at this
  omega
 have hGi:¬ (G=i):=by omega
 have hGim:¬ (G=i+2):=by omega
 have hci:¬ (c=i):=by omega
 have hbN:b≠w.heap.size:=by omega
 have hdl:(cs.drop (i*7)).length=(n-i)*7:=by rw [List.length_drop,hcl, ← Nat.sub_mul]
 have hcpB:∀ (W:World),(∀ x,W.cell? x=(W1.setCells w.heap.size (i*7) vs).cell? x)→(∀ x,W.frozen? x=(W1.setCells w.heap.size (i*7) vs).frozen? x)→∀ ty dc sc,(Builtin.copy_ #[24,24] ty #[.slice (some ⟨w.heap.size,(i+2)*7,none⟩) (n-i) dc,.slice (some ⟨b,i*7,none⟩) (n-i) sc]).run Tryz.prog W= .ok (goInt (Nat.min (n-i) (n-i))) (W.setCells w.heap.size ((i+2)*7) (cs.drop (i*7))):=fun W hWc hWf ty dc sc=>
  Y7 W _ _ ty 51 7 w.heap.size ((i+2)*7) (n-i) dc ⟨b,i*7,none⟩ (n-i) sc (cs.drop (i*7)) Tryz.underlying24 hsz (by rw [hdl];simp only [Nat.min_def];split<;>first|rfl|(congr 1;omega)|omega)
   (fun j v hj => by
     rw [Addr.add_lit,hWc,World.cell?_setCells_out _ _ _ _ _ (fun h _=>absurd h hbN)]
     have:=hcs (i*7+j) v (by rwa [List.getElem?_drop] at hj)
     exact hOb _ v (by simpa using this))
   (fun j hj=>by rw [hWc];exact isSome_setCells _ _ _ _ (fun t ht=>hN _ (by omega)) _ (hN _ (by omega)))
   (fun j hj=>by rw [hWf,World.frozen?_setCells];exact hNf _) (fun v hv=>h1c v (List.mem_of_mem_drop hv))
 subst hW1
 have hE1:∀ x,((w.alloc (.cells ROW 51)).drew).cell? x=(w.drew.alloc (.cells ROW 51)).cell? x:=fun x=>rfl
 have hE2:∀ x,((w.alloc (.cells ROW 51)).drew).frozen? x=(w.drew.alloc (.cells ROW 51)).frozen? x:=fun x=>rfl
 have hF1:∀ x,(((w.alloc (.cells ROW 51)).drew.setCells w.heap.size (i*7) vs).drew).cell? x=((w.drew.alloc (.cells ROW 51)).setCells w.heap.size (i*7) vs).cell? x:=fun x=>rfl
 have hF2:∀ x,(((w.alloc (.cells ROW 51)).drew.setCells w.heap.size (i*7) vs).drew).frozen? x=((w.drew.alloc (.cells ROW 51)).setCells w.heap.size (i*7) vs).frozen? x:=fun x=>rfl
 have hw1:IntKind.i64.wrap ((i:Int)+2)=(i:Int)+2:=by rw [IntKind.wrap_i64];omega
 have hw2:IntKind.i64.wrap ((n:Int)+2)=(n:Int)+2:=by rw [IntKind.wrap_i64];omega
 have hw3:IntKind.i64.wrap ((n:Int)+2-(i:Int))=(n:Int)+2-(i:Int):=by rw [IntKind.wrap_i64];omega
 have hz2:¬ ((i:Int)=(n:Int)):=by omega
 have hb1:(0:Int)≤(i:Int)+2:=by omega
 have hin:i≤n:=by omega
 have htn:((i:Int)+2).toNat=i+2:=by omega
 have hb3:(i:Int)≤(n:Int):=by omega
 have hb5:(c:Int)<(n:Int)+2:=by omega
 have hb6:(i:Int)≤(n:Int)+2:=by omega
 clear hkk hik hold hROW hG hRl
 go_enter Tryz.func40,Tryz.ntmps40
 go_wp2_with (first
  | (at_builtin;refine Lib.wpList_append_run _ rfl _ _ _ _ rfl _ _ rfl rfl _ _ (hrz _) ?_)
  | (at_builtin;refine wpList_copy_runI _ rfl _ _ 24 24 rfl _ _ rfl rfl (hcpA _ hE1 hE2 _ _) ?_)
  | (at_builtin;refine wpList_copy_runI _ rfl _ _ 24 24 rfl _ _ rfl rfl (hcpB _ (fun _=>rfl) (fun _=>rfl) _ _ _) ?_))
 go_region_law_o (refine step_copy_runI rfl _ _ 24 24 rfl (.slice (some ⟨w.heap.size,(i+2)*7,none⟩) (n-i) (G-(i+2))) (.slice (some ⟨b,i*7,none⟩) (n-i) (c-i)) (by simp [Act.eval,Act.put]) (by simp [Act.eval,Act.put]) (hcpB _ hF1 hF2 3 (G-(i+2)) (c-i)) ?_)
 go_wp2
 go_ret
 exact ⟨G,ROW,hGn,hG63,hRs,hRc,rfl,rfl⟩
