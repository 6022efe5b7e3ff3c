/-
  The oracles of this seat.
-/
import Derived.Test.YtcopccjkfbmpcaaGreatDoorAwEnv
import Derived.Shelf.Spec.SlicesInsertGrow
import Derived.Shelf.Strings.OnBuilder
import Derived.Shelf.Strconv.Itoa0
import Derived.Shelf.Strconv.Itoa1
import Derived.Shelf.LaysM
import Derived.Shelf.Strconv.Itoa2
import Derived.Test.YtcopccjkfbmpcaaGreatDoorProg
set_option maxHeartbeats 0
set_option maxRecDepth 100000
namespace Go.Vm.Seat
open Go.Proofs Go.RowKit Go.Lib
theorem Zjy (b c n i vb vc : Nat) (cs vs : List Value) (w : World) (hi : i < n) (hn : n ≤ 1000) (hroom : n + 1 ≤ c) (hc63 : c ≤ 9223372036854775807) (hvb : vb ≠ b)
  (hcl:cs.length=n*5) (hvl:vs.length=5)
  (hcs:∀ j v,cs[j]? = some v→w.cell? ⟨b,0+j,none⟩=some v) (hsp:∀ j,j<(n+1)*5→(w.cell? ⟨b,0+j,none⟩).isSome=true) (hfz:∀ j,j<(n+1)*5→w.frozen? ⟨b,0+j,none⟩=false)
  (hvs:∀ j v,vs[j]? = some v→w.cell? ⟨vb,0+j,none⟩=some v) (h1c:∀ v∈cs,v.oneCell'=true) (h1v:∀ v∈vs,v.oneCell'=true)
  (tA tB:TypeId) (kA kB:Nat) (hsa:w.shape? vb=some (tA,kA)) (hsb:w.shape? b=some (tB,kB)) (hkB:kB≠0) (hfa:w.frozen? ⟨vb,0,none⟩=false) (hfe:w.frozen? ⟨vb,kA,none⟩=false) :
  Calls Tryz.prog 233 #[.slice (some ⟨b,0,none⟩) n c,.int .i64 i,.slice (some ⟨vb,0,none⟩) 1 vc] w fun e w'=>
   e= .returned (.slice (some ⟨b,0,none⟩) (n+1) c)∧w'=(w.drew.setCells b ((i+1)*5) (cs.drop (i*5))).setCells b (i*5) vs:=by
 have hsz:(Tryz.prog.info? 193).map (·.size)=some 5:=by kernel_rfl
 have hz62:∀ w,(Go.sizeOf 193).run Tryz.prog w= .ok 5 w:=fun w=>by
  cases hq:Tryz.prog.info? 193 with
  | none=>simp [hq] at hsz
  | some i=>simp [hq] at hsz;simp [sizeOf,typeInfo,hq,hsz]
 have hov:∀ o lb cb,(callFunc 237 #[.slice (some ⟨vb,0,none⟩) 1 vc,.slice (some ⟨b,o,none⟩) lb cb]).run Tryz.prog w= .ok (.value (.bool false)) w:=fun o lb cb=>by
  rw [run_callFunc_extern Tryz.func237 (by kernel_rfl) (by kernel_rfl) (by kernel_rfl) (e:=Extern.SlicesOverlaps.overlaps #[178,178] #[4]) (by kernel_rfl),
   Lib.run_overlaps_apart w 178 4 193 Tryz.underlying178 5 hz62 ⟨vb,0,none⟩ ⟨b,o,none⟩ 1 vc lb cb hvb tA tB kA kB hsa hsb hkB hfa hfe]
  rfl
 have hdl:(cs.drop (i*5)).length=(n-i)*5:=by rw [List.length_drop,hcl, ← Nat.sub_mul]
 have mixed:=follows
 have hw1:IntKind.i64.wrap ((i:Int)+1)=(i:Int)+1:=by rw [IntKind.wrap_i64];omega
 have hw2:IntKind.i64.wrap ((n:Int)+1)=(n:Int)+1:=by rw [IntKind.wrap_i64];omega
 have hz2:¬ ((i:Int)=(n:Int)):=by omega
 have hb1:(0:Int)≤(i:Int)+1:=by omega
 have hin:i≤n:=by omega
 have htn:((i:Int)+1).toNat=i+1:=by omega
 have hb2:¬ (c=i+1):=by omega
 have hb3:(i:Int)≤(n:Int):=by omega
 have hb4:¬ (c=i):=by omega
 have hb5:¬ ((c:Int)<(n:Int)+1):=by omega
 have hb6:(i:Int)≤(n:Int)+1:=by omega
 have hcp1:∀ ty dc sc,(Builtin.copy_ #[178,178] ty #[.slice (some ⟨b,(i+1)*5,none⟩) (n-i) dc,.slice (some ⟨b,i*5,none⟩) (n+1-i) sc]).run Tryz.prog w.drew= .ok (goInt (Nat.min (n+1-i) (n-i))) (w.drew.setCells b ((i+1)*5) (cs.drop (i*5))):=fun ty dc sc=>
  XP w.drew _ _ ty 193 5 b ((i+1)*5) (n-i) dc ⟨b,i*5,none⟩ (n+1-i) sc (cs.drop (i*5)) Tryz.underlying178 hsz (by rw [hdl];simp only [Nat.min_def];split<;>first|rfl|(congr 1;omega)|omega)
   (fun j v hj=>by rw [Addr.add_lit];have:=hcs (i*5+j) v (by rwa [List.getElem?_drop] at hj);simpa using this)
   (fun j hj=>by have:=hsp ((i+1)*5+j) (by omega);simpa using this) (fun j hj=>by have:=hfz ((i+1)*5+j) (by omega);simpa using this) (fun v hv=>h1c v (List.mem_of_mem_drop hv))
 obtain ⟨W1,hW1⟩:∃ W1,W1=w.drew.setCells b ((i+1)*5) (cs.drop (i*5)):=⟨_,rfl⟩
 have hsp1:∀ k,k<(n+1)*5→(W1.cell? ⟨b,0+k,none⟩).isSome=true:=fun k hk=>by
  rw [hW1]
  have:=isSome_setCells b (cs.drop (i*5)) ((i+1)*5) w.drew (fun j hj=>by have:=hsp ((i+1)*5+j) (by omega);simpa using this) k (by have:=hsp k hk;simpa using this)
  simpa using this
 have hcp2:∀ (W:World),(∀ x,W.cell? x=W1.cell? x)→(∀ x,W.frozen? x=W1.frozen? x)→∀ ty dc,(Builtin.copy_ #[178,178] ty #[.slice (some ⟨b,i*5,none⟩) (n+1-i) dc,.slice (some ⟨vb,0,none⟩) 1 vc]).run Tryz.prog W= .ok (goInt (Nat.min 1 (n+1-i))) (W.setCells b (i*5) vs):=fun W hWc hWf ty dc=>
  XP W _ _ ty 193 5 b (i*5) (n+1-i) dc ⟨vb,0,none⟩ 1 vc vs Tryz.underlying178 hsz (by rw [hvl];simp only [Nat.min_def];split<;>omega)
   (fun j v hj => by
     rw [Addr.add_lit,hWc,hW1,World.cell?_setCells_out b _ _ _ _ (fun h _=>absurd h hvb)]
     exact hvs j v hj)
   (fun j hj=>by rw [hWc];have:=hsp1 (i*5+j) (by omega);simpa using this) (fun j hj=>by rw [hWf,hW1,World.frozen?_setCells];have:=hfz (i*5+j) (by omega);simpa using this) h1v
 rw [← hW1] at hcp1
 go_enter Tryz.func233,Tryz.ntmps233
 go_wp2_with (simp only [hov])
 go_region_law_o (refine step_copy_runI rfl _ _ 178 178 rfl _ _ (by simp [Act.eval,Act.put]) (by simp [Act.eval,Act.put]) (hcp1 _ _ _) ?_)
 go_wp2_with (at_builtin;refine wpList_copy_runI _ rfl _ _ 178 178 rfl _ _ rfl rfl (hcp2 _ (fun _=>rfl) (fun _=>rfl) _ _) ?_)
 go_ret
 first|exact ⟨rfl,rfl⟩|exact ⟨rfl,by rw [hW1]⟩
theorem ZjP (b c n i vb vc : Nat) (cs vs : List Value) (w : World) (hi : i < n) (hn : n ≤ 1000) (hnc : n ≤ c) (hroom : c < n + 1)
  (hcl:cs.length=n*5) (hvl:vs.length=5)
  (hcs:∀ j v,cs[j]? = some v→w.cell? ⟨b,0+j,none⟩=some v)
  (hvs:∀ j v,vs[j]? = some v→w.cell? ⟨vb,0+j,none⟩=some v) (h1c:∀ v∈cs,v.oneCell'=true) (h1v:∀ v∈vs,v.oneCell'=true) :
  Calls Tryz.prog 233 #[.slice (some ⟨b,0,none⟩) n c,.int .i64 i,.slice (some ⟨vb,0,none⟩) 1 vc] w fun e w'=>
   ∃ (G:Nat) (ROW:Array Value),n+1≤G∧G≤9223372036854775807∧ROW.size=G*5∧(∀ j,j<i*5→ROW[j]? = cs[j]?)∧e= .returned (.slice (some ⟨w.heap.size,0,none⟩) (n+1) G)∧
   w'=(((w.alloc (.cells ROW 193)).drew.setCells w.heap.size (i*5) vs).drew).setCells w.heap.size ((i+1)*5) (cs.drop (i*5)):=by
 have mixed:=follows
 have hsz:(Tryz.prog.info? 193).map (·.size)=some 5:=by kernel_rfl
 have hbz:(Tryz.prog.info? 193).map (fun i=>(Nat.ble i.bytes 1000,i.zero.isSome,(i.zero.map (·.cells.size))))=some (true,true,some 5):=by kernel_rfl
 obtain ⟨i0,hi0⟩:∃ i,Tryz.prog.info? 193=some i:=by
  cases hq:Tryz.prog.info? 193 with
  | none=>simp [hq] at hsz
  | some i=>exact ⟨i,rfl⟩
 have hzs:i0.size=5:=by simpa [hi0] using hsz
 simp only [hi0,Option.map_some,Option.some.injEq,Prod.mk.injEq] at hbz
 obtain ⟨hb0,hz0,hz7⟩:=hbz
 obtain ⟨z,hz0⟩:=Option.isSome_iff_exists.1 hz0
 have hz7:z.cells.size=5:=by simpa [hz0] using hz7
 have hbytes:i0.bytes≤1000:=Nat.le_of_ble_eq_true hb0
 have hbig:(n+1)*i0.bytes≤1001000:=Nat.le_trans (Nat.mul_le_mul (show n+1≤1001 by omega) hbytes) (by decide)
 have hbw:b<w.heap.size:=block_lt_of_cell (hcs 0 _ (List.getElem?_eq_getElem (by omega)))
 have hvw:vb<w.heap.size:=block_lt_of_cell (hvs 0 _ (List.getElem?_eq_getElem (by omega)))
 have hkk:(n:Int)+1-(i:Int)=((n+1-i:Nat):Int):=by omega
 have hik:i+(n+1-i)=n+1:=by omega
 have hold:(Builtin.firstCells i0.size i (.slice (some ⟨b,0,none⟩) i c)).run Tryz.prog w.drew= .ok (cs.take (i*5)).toArray w.drew:=by
  rw [hzs]
  exact run_firstCells_some w.drew 5 i ⟨b,0,none⟩ i c (cs.take (i*5)) (by rw [List.length_take];omega) (fun j v hj=>by
   rw [Addr.add_lit]
   rw [List.getElem?_take] at hj
   split at hj
   · exact hcs j v hj
   · cases hj)
 have hrz : ∀ ty, (Builtin.append_ #[178, 3] ty #[.slice (some ⟨b, 0, none⟩) i c, .int .i64 ((n : Int) + 1 - (i : Int))]).run Tryz.prog w =
   .ok (.slice (some ⟨w.heap.size,0,none⟩) (n+1) (grownCap w (n+1) c 193)) (w.drew.alloc (.cells ((cs.take (i*5)).toArray++Builtin.zeroCells z.cells (n+1-i)++Builtin.zeroCells z.cells (grownCap w (n+1) c 193-(n+1))) 193)):=fun ty=>by
  have hfit:Builtin.nextslicecap (i+(n+1-i)) c*i0.bytes≤281474976710656:=by
   rw [hik]
   exact growslice_fits (by omega) (by omega)
  have h:=Lib.run_append_grow_zeros w 178 3 ty 193 i0 _ .i64 .i64 Tryz.underlying178 Tryz.underlying3 hi0 hz0 (some ⟨b,0,none⟩) i c (cs.take (i*5)) hold (n+1-i) (by omega) (by omega) (by omega) (by omega) (Nat.le_trans (Nat.mul_le_mul_right _ (show n+1-i≤n+1 by omega)) (by omega)) hfit
  rw [hik] at h
  rw [hkk]
  exact h
 obtain ⟨G,hG⟩:∃ G,G=grownCap w (n+1) c 193:=⟨_,rfl⟩
 obtain ⟨ROW,hROW⟩:∃ ROW:Array Value,ROW=(cs.take (i*5)).toArray++Builtin.zeroCells z.cells (n+1-i)++Builtin.zeroCells z.cells (G-(n+1)):=⟨_,rfl⟩
 rw [← hG] at hrz
 rw [← hROW] at hrz
 have hGn:n+1≤G:=by rw [hG];exact grownCap_ge w _ _ _
 have hRs:ROW.size=G*5:=by
  rw [hROW]
  simp [Builtin.zeroCells,hz7,hcl]
  omega
 have hRl:(n+1)*5≤ROW.size:=by omega
 have hRc:∀ j,j<i*5→ROW[j]? = cs[j]? :=fun j hj=>by
  rw [hROW,Array.append_assoc,Array.getElem?_append_left (by simp [hcl];omega)]
  simp [hj]
 obtain ⟨W1,hW1⟩:∃ W1,W1=w.drew.alloc (.cells ROW 193):=⟨_,rfl⟩
 rw [← hW1] at hrz
 have hN:∀ j,j<(n+1)*5→(W1.cell? ⟨w.heap.size,j,none⟩).isSome=true:=fun j hj=>by
  rw [hW1,World.cell?_alloc_at (w:=w.drew) ROW _ w.heap.size j rfl,Array.getElem?_eq_getElem (by omega)];rfl
 have hNf:∀ j,W1.frozen? ⟨w.heap.size,j,none⟩=false:=fun j=>by rw [hW1];exact World.frozen?_alloc_at (w:=w.drew) ROW _ w.heap.size j rfl
 have hOb:∀ j v,w.cell? ⟨b,j,none⟩=some v→W1.cell? ⟨b,j,none⟩=some v:=fun j v h=>by rw [hW1,World.cell?_alloc_past (w:=w.drew) _ b j hbw];exact h
 have hOv:∀ j v,w.cell? ⟨vb,j,none⟩=some v→W1.cell? ⟨vb,j,none⟩=some v:=fun j v h=>by rw [hW1,World.cell?_alloc_past (w:=w.drew) _ vb j hvw];exact h
 have hcpA:∀ (W:World),(∀ x,W.cell? x=W1.cell? x)→(∀ x,W.frozen? x=W1.frozen? x)→∀ ty dc,(Builtin.copy_ #[178,178] ty #[.slice (some ⟨w.heap.size,i*5,none⟩) (n+1-i) dc,.slice (some ⟨vb,0,none⟩) 1 vc]).run Tryz.prog W= .ok (goInt (Nat.min 1 (n+1-i))) (W.setCells w.heap.size (i*5) vs):=fun W hWc hWf ty dc=>
  XP W _ _ ty 193 5 w.heap.size (i*5) (n+1-i) dc ⟨vb,0,none⟩ 1 vc vs Tryz.underlying178 hsz (by rw [hvl];simp only [Nat.min_def];split<;>omega)
   (fun j v hj=>by rw [Addr.add_lit,hWc];exact hOv _ v (hvs j v hj))
   (fun j hj=>by rw [hWc];exact hN _ (by omega)) (fun j hj=>by rw [hWf];exact hNf _) h1v
 have hG63:G≤9223372036854775807:=by
  have:=grownCap_le_maxLen w (n+1) c 193 (by unfold maxLen;omega)
  rw [← hG] at this
  unfold maxLen at this
  omega
 have hGi:¬ (G=i):=by omega
 have hGim:¬ (G=i+1):=by omega
 have hci:¬ (c=i):=by omega
 have hbN:b≠w.heap.size:=by omega
 have hdl:(cs.drop (i*5)).length=(n-i)*5:=by rw [List.length_drop,hcl, ← Nat.sub_mul]
 have hcpB:∀ (W:World),(∀ x,W.cell? x=(W1.setCells w.heap.size (i*5) vs).cell? x)→(∀ x,W.frozen? x=(W1.setCells w.heap.size (i*5) vs).frozen? x)→∀ ty dc sc,(Builtin.copy_ #[178,178] ty #[.slice (some ⟨w.heap.size,(i+1)*5,none⟩) (n-i) dc,.slice (some ⟨b,i*5,none⟩) (n-i) sc]).run Tryz.prog W= .ok (goInt (Nat.min (n-i) (n-i))) (W.setCells w.heap.size ((i+1)*5) (cs.drop (i*5))):=fun W hWc hWf ty dc sc=>
  XP W _ _ ty 193 5 w.heap.size ((i+1)*5) (n-i) dc ⟨b,i*5,none⟩ (n-i) sc (cs.drop (i*5)) Tryz.underlying178 hsz (by rw [hdl];simp only [Nat.min_def];split<;>first|rfl|(congr 1;omega)|omega)
   (fun j v hj => by
     rw [Addr.add_lit,hWc,World.cell?_setCells_out _ _ _ _ _ (fun h _=>absurd h hbN)]
     have:=hcs (i*5+j) v (by rwa [List.getElem?_drop] at hj)
     exact hOb _ v (by simpa using this))
   (fun j hj=>by rw [hWc];exact isSome_setCells _ _ _ _ (fun t ht=>hN _ (by omega)) _ (hN _ (by omega)))
   (fun j hj=>by rw [hWf,World.frozen?_setCells];exact hNf _) (fun v hv=>h1c v (List.mem_of_mem_drop hv))
 subst hW1
 have hE1:∀ x,((w.alloc (.cells ROW 193)).drew).cell? x=(w.drew.alloc (.cells ROW 193)).cell? x:=fun x=>rfl
 have hE2:∀ x,((w.alloc (.cells ROW 193)).drew).frozen? x=(w.drew.alloc (.cells ROW 193)).frozen? x:=fun x=>rfl
 have hF1:∀ x,(((w.alloc (.cells ROW 193)).drew.setCells w.heap.size (i*5) vs).drew).cell? x=((w.drew.alloc (.cells ROW 193)).setCells w.heap.size (i*5) vs).cell? x:=fun x=>rfl
 have hF2:∀ x,(((w.alloc (.cells ROW 193)).drew.setCells w.heap.size (i*5) vs).drew).frozen? x=((w.drew.alloc (.cells ROW 193)).setCells w.heap.size (i*5) vs).frozen? x:=fun x=>rfl
 have hw1:IntKind.i64.wrap ((i:Int)+1)=(i:Int)+1:=by rw [IntKind.wrap_i64];omega
 have hw2:IntKind.i64.wrap ((n:Int)+1)=(n:Int)+1:=by rw [IntKind.wrap_i64];omega
 have hw3:IntKind.i64.wrap ((n:Int)+1-(i:Int))=(n:Int)+1-(i:Int):=by rw [IntKind.wrap_i64];omega
 have hz2:¬ ((i:Int)=(n:Int)):=by omega
 have hb1:(0:Int)≤(i:Int)+1:=by omega
 have hin:i≤n:=by omega
 have htn:((i:Int)+1).toNat=i+1:=by omega
 have hb3:(i:Int)≤(n:Int):=by omega
 have hb5:(c:Int)<(n:Int)+1:=by omega
 have hb6:(i:Int)≤(n:Int)+1:=by omega
 clear hkk hik hold hROW hG hRl
 go_enter Tryz.func233,Tryz.ntmps233
 go_wp2_with (first
  | (at_builtin;refine Lib.wpList_append_run _ rfl _ _ _ _ rfl _ _ rfl rfl _ _ (hrz _) ?_)
  | (at_builtin;refine wpList_copy_runI _ rfl _ _ 178 178 rfl _ _ rfl rfl (hcpA _ hE1 hE2 _ _) ?_)
  | (at_builtin;refine wpList_copy_runI _ rfl _ _ 178 178 rfl _ _ rfl rfl (hcpB _ (fun _=>rfl) (fun _=>rfl) _ _ _) ?_))
 go_region_law_o (refine step_copy_runI rfl _ _ 178 178 rfl (.slice (some ⟨w.heap.size,(i+1)*5,none⟩) (n-i) (G-(i+1))) (.slice (some ⟨b,i*5,none⟩) (n-i) (c-i)) (by simp [Act.eval,Act.put]) (by simp [Act.eval,Act.put]) (hcpB _ hF1 hF2 3 (G-(i+1)) (c-i)) ?_)
 go_wp2
 go_ret
 exact ⟨G,ROW,hGn,hG63,hRs,hRc,rfl,rfl⟩
end Go.Vm.Seat
namespace Go.Proofs
open Go.Shelf Go.RowKit Go.Sort Go.Lib
def Tryz.lays156_ren:Go.Shelf.Ren:=⟨fun|156=>74|165=>111|166=>40|169=>42|240=>70|241=>138|276=>108|277=>162|n=>n,fun|31=>22|9=>9|3=>3|4=>4|0=>0|20=>20|72=>69|76=>72|70=>67|37=>40|75=>71|127=>106|164=>134|5=>5|80=>75|n=>n,fun|n=>n⟩
theorem Tryz.lays156:Go.Proofs.Lays.n156 Tryz.prog Tryz.lays156_ren:={
 mixed:=by kernel_rfl
 f156:=Tryz.func74.trans (congrArg some (by kernel_rfl))
 f165:=Tryz.func111.trans (congrArg some (by kernel_rfl))
 f166:=Tryz.func40.trans (congrArg some (by kernel_rfl))
 f169:=Tryz.func42.trans (congrArg some (by kernel_rfl))
 f240:=Tryz.func70.trans (congrArg some (by kernel_rfl))
 f241:=Tryz.func138.trans (congrArg some (by kernel_rfl))
 f276:=Tryz.func108.trans (congrArg some (by kernel_rfl))
 f277:=Tryz.func162.trans (congrArg some (by kernel_rfl))
 t0:=Tryz.underlying0
 a0:=Tryz.isAgg0
 z0:=Tryz.sizeOf0
 v0:=Tryz.zeroValue0
 t3:=Tryz.underlying3
 a3:=Tryz.isAgg3
 z3:=Tryz.sizeOf3
 v3:=Tryz.zeroValue3
 t4:=Tryz.underlying4
 a4:=Tryz.isAgg4
 z4:=Tryz.sizeOf4
 v4:=Tryz.zeroValue4
 t9:=Tryz.underlying9
 a9:=Tryz.isAgg9
 z9:=Tryz.sizeOf9
 v9:=Tryz.zeroValue9
 t20:=Tryz.underlying20
 a20:=Tryz.isAgg20
 z20:=Tryz.sizeOf20
 v20:=Tryz.zeroValue20
 t31:=Tryz.underlying22
 a31:=Tryz.isAgg22
 z31:=Tryz.sizeOf22
 v31:=Tryz.zeroValue22
 t37:=Tryz.underlying40
 a37:=Tryz.isAgg40
 z37:=Tryz.sizeOf40
 v37:=Tryz.zeroValue40
 t70:=Tryz.underlying67
 a70:=Tryz.isAgg67
 z70:=Tryz.sizeOf67
 v70:=Tryz.zeroValue67
 t72:=Tryz.underlying69
 a72:=Tryz.isAgg69
 z72:=Tryz.sizeOf69
 v72:=Tryz.zeroValue69
 t75:=Tryz.underlying71
 a75:=Tryz.isAgg71
 z75:=Tryz.sizeOf71
 v75:=Tryz.zeroValue71
 t76:=Tryz.underlying72
 a76:=Tryz.isAgg72
 z76:=Tryz.sizeOf72
 v76:=Tryz.zeroValue72
 t127:=Tryz.underlying106
 a127:=Tryz.isAgg106
 z127:=Tryz.sizeOf106
 v127:=Tryz.zeroValue106
 t164:=Tryz.underlying134
 a164:=Tryz.isAgg134
 z164:=Tryz.sizeOf134
 v164:=Tryz.zeroValue134}
theorem Tryz.Builder_Extra_156:Builder.Extra Tryz.prog Tryz.lays156_ren:={
 sizeBuilder:=by kernel_rfl
 liesBuilder:=by kernel_rfl
 t5:=Tryz.underlying5
 a5:=Tryz.isAgg5
 z5:=Tryz.sizeOf5
 v5:=Tryz.zeroValue5
 infoByte:=by kernel_rfl
 cellsByte:=by kernel_rfl
 sizeByte:=by kernel_rfl
 neB5:=by decide}
theorem Tryz.strings_Join_none (a : Option Addr) (c : Nat) (sep : ByteArray) (w : World) :
  Calls Tryz.prog 74 #[.slice a 0 c,.string sep] w fun e w'=>e= .returned (.string ⟨#[]⟩)∧w'=w:=Any.strings_Join_none Tryz.lays156 Tryz.Builder_Extra_156 a c sep w
theorem Tryz.strings_Join (bk o c : Nat) (xs : List ByteArray) (sep : ByteArray) (w : World) (hcells : ∀ (j : Nat) x, xs[j]? = some x → w.cell? ⟨bk, o + j, none⟩ = some (.string x)) (hbk : bk < w.heap.size) (hN : xs.length ≤ 140737488355328) (hcap : xs.length ≤ c) (hlen : (Lib.join (xs.map (·.data.toList)) sep.data.toList).length ≤ 140737488355328) :
  Calls Tryz.prog 74 #[.slice (some ⟨bk,o,none⟩) xs.length c,.string sep] w fun e w'=>e= .returned (.string ⟨(Lib.join (xs.map (·.data.toList)) sep.data.toList).toArray⟩)∧Below w.heap.size w w':=Any.strings_Join Tryz.lays156 Tryz.Builder_Extra_156 bk o c xs sep w hcells hbk hN hcap hlen
end Go.Proofs
namespace Go.Vm.Seat
open Go.Proofs Go.RowKit Go.Lib
theorem ZtQ:ZOk E0 Tryz.prog (170,Zrw):=ZpM Tryz.func170 (by kernel_rfl) (by kernel_rfl) (by kernel_rfl) (by kernel_rfl)
theorem z74:ZOk E0 Tryz.prog (74,Zhu):=Zn4 fe74.ok rfl (fun a c sep w=>Tryz.strings_Join_none a c sep w) fun bk o c xs sep w h1 h2 h3 h4 h5=>Tryz.strings_Join bk o c xs sep w h1 h2 h3 h4 h5
theorem z70:ZOk E0 Tryz.prog (70,ccZ 69):=ZsB fe70.ok (fun b w h0 h1 h2=>Any.Builder_copyCheck_fresh {Tryz.lays156 with} Tryz.Builder_Extra_156.toX72 b w h0 h1 h2) (fun b w h0=>Any.Builder_copyCheck_used {Tryz.lays156 with} Tryz.Builder_Extra_156.toX72 b w h0) (by kernel_rfl)
theorem Zms (b : Nat) (p : Value) (w : World) (hbk : w.heap[b]? = some (.cells #[p, .slice none 0 0] 69 (0, 0))) :
  Calls Tryz.prog 42 #[.pointer (some ⟨b,0,none⟩)] w fun e w'=>e= .returned (.string ⟨#[]⟩)∧w'=w.drew:=by
 have hUS:∀ pt it ty W,(Builtin.unsafeString_ #[pt,it] ty #[.pointer none,.int .i64 0]).run Tryz.prog W= .ok (.string .empty) W:=fun pt it ty W=>Lib.run_unsafeString_none W _ _ _ none
 have c1:w.drew.cell? ⟨b,1,none⟩=some (.slice none 0 0):=by
  have:w.drew.heap[b]? = some (.cells #[p,.slice none 0 0] 69 (0,0)):=hbk
  rw [Lib.cell_of_heap this];rfl
 have hSD:∀ ts ty,(Builtin.unsafeSliceData_ ts ty #[.slice none 0 0]).run Tryz.prog w.drew= .ok (.pointer none) w.drew:=fun _ _=>rfl
 have mixed:=follows
 go_enter Tryz.func42,Tryz.ntmps42
 go_wp2
 go_region_o
 all_goals (go_wp2;go_ret;exact ⟨rfl,rfl⟩)
theorem Zif (b : Nat) (p : Value) (bb o cap : Nat) (cur : Array Value) (l : List UInt8) (w : World) (hbk : w.heap[b]? = some (.cells #[p, .slice (some ⟨bb, o, none⟩) l.length cap] 69 (0, 0))) (hg : w.heap[bb]? = some (.cells cur 5 (0, 0))) (h0 : l ≠ []) (hn : l.length ≤ cap) (hcs : o + cap ≤ cur.size) (hm : l.length ≤ 1000000)
  (hcell:∀ j x,l[j]? = some x→w.cell? ⟨bb,o+j,none⟩=some (.int .u8 x.toNat)) :
  Calls Tryz.prog 42 #[.pointer (some ⟨b,0,none⟩)] w fun e w'=>e= .returned (.string ⟨l.toArray⟩)∧w'=w.drew.freeze ⟨bb,o,none⟩ l.length:=by
 have hl0:l.length≠0:=by simpa using h0
 have c1:w.drew.cell? ⟨b,1,none⟩=some (.slice (some ⟨bb,o,none⟩) l.length cap):=by
  have:w.drew.heap[b]? = some (.cells #[p,.slice (some ⟨bb,o,none⟩) l.length cap] 69 (0,0)):=hbk
  rw [Lib.cell_of_heap this];rfl
 have hc5:Tryz.prog.cellsOf 5=1:=by kernel_rfl
 have hSD:∀ ts ty,(Builtin.unsafeSliceData_ ts ty #[.slice (some ⟨bb,o,none⟩) l.length cap]).run Tryz.prog w.drew= .ok (.pointer (some ⟨bb,o,none⟩)) w.drew:=fun _ _=>
  Lib.run_unsafeSliceData_row _ _ _ _ _ _ (by omega)
 have hUS:∀ it ty,(Builtin.unsafeString_ #[106,it] ty #[.pointer (some ⟨bb,o,none⟩),.int .i64 l.length]).run Tryz.prog w.drew= .ok (.string ⟨l.toArray⟩) (w.drew.freeze ⟨bb,o,none⟩ l.length):=fun it ty=>
  Ut w.drew _ it ty 5 Tryz.underlying106 hc5 bb o cur.size (by have hg':w.drew.heap[bb]? = some (.cells cur 5 (0,0)):=hg;simp [World.shape?,hg']) l h0 (by omega) (by omega) (fun j x hj=>by
   have:=hcell j x hj
   rw [Z1]
   exact this)
 clear hbk hg hn hcs hm hcell h0
 have mixed:=follows
 go_enter Tryz.func42,Tryz.ntmps42
 go_wp2
 go_region_o
 all_goals (go_wp2;go_ret;exact ⟨rfl,rfl⟩)
theorem z42:ZOk E0 Tryz.prog (42,ZhI 69):=Zoz fe42.ok Zms Zif (by kernel_rfl)
theorem Zvx:ZOk E0 Tryz.prog (126,Zrn):=ZnB Tryz.func126 (by kernel_rfl) (by kernel_rfl) (by kernel_rfl) (by kernel_rfl)
theorem ZpQ:ZOk E1 Tryz.prog (126,Zrn):=ZnB Tryz.func126 (by kernel_rfl) (by kernel_rfl) (by kernel_rfl) (by kernel_rfl)
theorem zOk:YU E0 Tryz.prog E0.Z:=Zf5 (UE ZtQ (UE z74 (UE z70 (UE z42 (UE Zvx Zok)))))
