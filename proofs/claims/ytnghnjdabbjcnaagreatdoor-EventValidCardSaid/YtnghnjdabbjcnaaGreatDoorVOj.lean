/-
  slices.Insert at powers, one power ahead of others: what it gives in every world
-/
import Derived.Shelf.Spec.SlicesInsertGrow
import Derived.Test.YtnghnjdabbjcnaaGreatDoorVTv3
set_option maxHeartbeats 0
set_option maxRecDepth 100000
namespace Go.Vm.Seat
variable {el:List (List PV)} {i n:Nat}
open Go.Proofs Go.RowKit Go.Lib
theorem Zhz (b c n i vb vc : Nat) (cs vs : List Value) (w : World) (hi : i < n) (hn : n ≤ 1000) (hroom : n + 1 ≤ c) (hc63 : c ≤ 9223372036854775807) (hvb : vb ≠ b)
  (hcl:cs.length=n*5) (hvl:vs.length=5)
  (hcs:∀j v,cs[j]? = some v→w.cell? ⟨b,0+j,none⟩=some v) (hsp:∀j,j<(n+1)*5→(w.cell? ⟨b,0+j,none⟩).isSome=true) (hfz:∀j,j<(n+1)*5→w.frozen? ⟨b,0+j,none⟩=false)
  (hvs:∀j v,vs[j]? = some v→w.cell? ⟨vb,0+j,none⟩=some v) (h1c:∀v∈cs,v.oneCell'=true) (h1v:∀v∈vs,v.oneCell'=true)
  (tA tB:TypeId) (kA kB:Nat) (hsa:w.shape? vb=some (tA,kA)) (hsb:w.shape? b=some (tB,kB)) (hkB:kB≠0) (hfa:w.frozen? ⟨vb,0,none⟩=false) (hfe:w.frozen? ⟨vb,kA,none⟩=false) :
  Calls Tryz.prog 254 #[.slice (some ⟨b,0,none⟩) n c,.int .i64 i,.slice (some ⟨vb,0,none⟩) 1 vc] w fun e w'=>
   e= .returned (.slice (some ⟨b,0,none⟩) (n+1) c)∧w'=(w.drew.setCells b ((i+1)*5) (cs.drop (i*5))).setCells b (i*5) vs:=by
 have hsz:(Tryz.prog.info? 227).map (·.size)=some 5:=by kernel_rfl
 have hz62:∀w,(Go.sizeOf 227).run Tryz.prog w= .ok 5 w:=fun w=>by
  cases hq:Tryz.prog.info? 227 with
  | none=>simp[hq]at hsz
  | some i=>simp[hq]at hsz;simp[sizeOf,typeInfo,hq,hsz]
 have hov:∀o lb cb,(callFunc 260 #[.slice (some ⟨vb,0,none⟩) 1 vc,.slice (some ⟨b,o,none⟩) lb cb]).run Tryz.prog w= .ok (.value (.bool false)) w:=fun o lb cb=>by
  rw[run_callFunc_extern Tryz.func260 (by kernel_rfl) (by kernel_rfl) (by kernel_rfl) (e:=Extern.SlicesOverlaps.overlaps #[207,207] #[4]) (by kernel_rfl),
   Lib.run_overlaps_apart w 207 4 227 Tryz.underlying207 5 hz62 ⟨vb,0,none⟩ ⟨b,o,none⟩ 1 vc lb cb hvb tA tB kA kB hsa hsb hkB hfa hfe]
  rfl
 have hdl:(cs.drop (i*5)).length=(n-i)*5:=by rw[List.length_drop,hcl, ← Nat.sub_mul]
 have mixed:=follows
 have hw1:IntKind.i64.wrap ((i:Int)+1)=(i:Int)+1:=by rw[IntKind.wrap_i64];omega
 have hw2:IntKind.i64.wrap ((n:Int)+1)=(n:Int)+1:=by rw[IntKind.wrap_i64];omega
 have hz2:¬ ((i:Int)=(n:Int)):=by omega
 have hb1:(0:Int)≤(i:Int)+1:=by omega
 have hin:i≤n:=by omega
 have htn:((i:Int)+1).toNat=i+1:=by omega
 have hb2:¬ (c=i+1):=by omega
 have hb3:(i:Int)≤(n:Int):=by omega
 have hb4:¬ (c=i):=by omega
 have hb5:¬ ((c:Int)<(n:Int)+1):=by omega
 have hb6:(i:Int)≤(n:Int)+1:=by omega
 have hcp1:∀ty dc sc,(Builtin.copy_ #[207,207] ty #[.slice (some ⟨b,(i+1)*5,none⟩) (n-i) dc,.slice (some ⟨b,i*5,none⟩) (n+1-i) sc]).run Tryz.prog w.drew= .ok (goInt (Nat.min (n+1-i) (n-i))) (w.drew.setCells b ((i+1)*5) (cs.drop (i*5))):=fun ty dc sc=>
  XN w.drew _ _ ty 227 5 b ((i+1)*5) (n-i) dc ⟨b,i*5,none⟩ (n+1-i) sc (cs.drop (i*5)) Tryz.underlying207 hsz (by rw[hdl];simp only[Nat.min_def];split<;>first|rfl|(congr 1;omega)|omega)
   (fun j v hj=>by rw[Addr.add_lit];have:=hcs (i*5+j) v (by rwa [List.getElem?_drop]at hj);simpa using this)
   (fun j hj=>by have:=hsp ((i+1)*5+j) (by omega);simpa using this) (fun j hj=>by have:=hfz ((i+1)*5+j) (by omega);simpa using this) (fun v hv=>h1c v (List.mem_of_mem_drop hv))
 obtain⟨W1,hW1⟩:∃W1,W1=w.drew.setCells b ((i+1)*5) (cs.drop (i*5)):=⟨_,rfl⟩
 have hsp1:∀k,k<(n+1)*5→(W1.cell? ⟨b,0+k,none⟩).isSome=true:=fun k hk=>by
  rw[hW1]
  have:=isSome_setCells b (cs.drop (i*5)) ((i+1)*5) w.drew (fun j hj=>by have:=hsp ((i+1)*5+j) (by omega);simpa using this) k (by have:=hsp k hk;simpa using this)
  simpa using this
 have hcp2:∀(W:World),(∀x,W.cell? x=W1.cell? x)→(∀x,W.frozen? x=W1.frozen? x)→∀ty dc,(Builtin.copy_ #[207,207] ty #[.slice (some ⟨b,i*5,none⟩) (n+1-i) dc,.slice (some ⟨vb,0,none⟩) 1 vc]).run Tryz.prog W= .ok (goInt (Nat.min 1 (n+1-i))) (W.setCells b (i*5) vs):=fun W hWc hWf ty dc=>
  XN W _ _ ty 227 5 b (i*5) (n+1-i) dc ⟨vb,0,none⟩ 1 vc vs Tryz.underlying207 hsz (by rw[hvl];simp only[Nat.min_def];split<;>omega)
   (fun j v hj => by
     rw[Addr.add_lit,hWc,hW1,World.cell?_setCells_out b _ _ _ _ (fun h _=>absurd h hvb)]
     exact hvs j v hj)
   (fun j hj=>by rw[hWc];have:=hsp1 (i*5+j) (by omega);simpa using this) (fun j hj=>by rw[hWf,hW1,World.frozen?_setCells];have:=hfz (i*5+j) (by omega);simpa using this) h1v
 rw[← hW1]at hcp1
 go_enter Tryz.func254,Tryz.ntmps254
 go_wp2_with (simp only[hov])
 go_region_law_o (refine step_copy_runI rfl _ _ 207 207 rfl _ _ (by simp[Act.eval,Act.put]) (by simp[Act.eval,Act.put]) (hcp1 _ _ _) ?_)
 go_wp2_with (at_builtin;refine wpList_copy_runI _ rfl _ _ 207 207 rfl _ _ rfl rfl (hcp2 _ (fun _=>rfl) (fun _=>rfl) _ _) ?_)
 go_ret
 first|exact⟨rfl,rfl⟩|exact⟨rfl,by rw[hW1]⟩
theorem ZhK (b c n i vb vc : Nat) (cs vs : List Value) (w : World) (hi : i < n) (hn : n ≤ 1000) (hnc : n ≤ c) (hroom : c < n + 1)
  (hcl:cs.length=n*5) (hvl:vs.length=5)
  (hcs:∀j v,cs[j]? = some v→w.cell? ⟨b,0+j,none⟩=some v)
  (hvs:∀j v,vs[j]? = some v→w.cell? ⟨vb,0+j,none⟩=some v) (h1c:∀v∈cs,v.oneCell'=true) (h1v:∀v∈vs,v.oneCell'=true) :
  Calls Tryz.prog 254 #[.slice (some ⟨b,0,none⟩) n c,.int .i64 i,.slice (some ⟨vb,0,none⟩) 1 vc] w fun e w'=>
   ∃(G:Nat) (ROW:Array Value),n+1≤G∧G≤9223372036854775807∧ROW.size=G*5∧(∀j,j<i*5→ROW[j]? = cs[j]?)∧e= .returned (.slice (some ⟨w.heap.size,0,none⟩) (n+1) G)∧
   w'=(((w.alloc (.cells ROW 227)).drew.setCells w.heap.size (i*5) vs).drew).setCells w.heap.size ((i+1)*5) (cs.drop (i*5)):=by
 have mixed:=follows
 have hsz:(Tryz.prog.info? 227).map (·.size)=some 5:=by kernel_rfl
 have hbz:(Tryz.prog.info? 227).map (fun i=>(Nat.ble i.bytes 1000,i.zero.isSome,(i.zero.map (·.cells.size))))=some (true,true,some 5):=by kernel_rfl
 obtain⟨i0,hi0⟩:∃i,Tryz.prog.info? 227=some i:=by
  cases hq:Tryz.prog.info? 227 with
  | none=>simp[hq]at hsz
  | some i=>exact⟨i,rfl⟩
 have hzs:i0.size=5:=by simpa[hi0] using hsz
 simp only[hi0,Option.map_some,Option.some.injEq,Prod.mk.injEq]at hbz
 obtain⟨hb0,hz0,hz7⟩:=hbz
 obtain⟨z,hz0⟩:=Option.isSome_iff_exists.1 hz0
 have hz7:z.cells.size=5:=by simpa[hz0] using hz7
 have hbytes:i0.bytes≤1000:=Nat.le_of_ble_eq_true hb0
 have hbig:(n+1)*i0.bytes≤1001000:=Nat.le_trans (Nat.mul_le_mul (show n+1≤1001 by omega) hbytes) (by decide)
 have hbw:b<w.heap.size:=block_lt_of_cell (hcs 0 _ (List.getElem?_eq_getElem (by omega)))
 have hvw:vb<w.heap.size:=block_lt_of_cell (hvs 0 _ (List.getElem?_eq_getElem (by omega)))
 have hkk:(n:Int)+1-(i:Int)=((n+1-i:Nat):Int):=by omega
 have hik:i+(n+1-i)=n+1:=by omega
 have hold:(Builtin.firstCells i0.size i (.slice (some ⟨b,0,none⟩) i c)).run Tryz.prog w.drew= .ok (cs.take (i*5)).toArray w.drew:=by
  rw[hzs]
  exact run_firstCells_some w.drew 5 i ⟨b,0,none⟩ i c (cs.take (i*5)) (by rw[List.length_take];omega) (fun j v hj=>by
   rw[Addr.add_lit]
   rw[List.getElem?_take]at hj
   split at hj
   · exact hcs j v hj
   · cases hj)
 have hrz : ∀ty, (Builtin.append_ #[207, 3] ty #[.slice (some ⟨b, 0, none⟩) i c, .int .i64 ((n : Int) + 1 - (i : Int))]).run Tryz.prog w =
   .ok (.slice (some ⟨w.heap.size,0,none⟩) (n+1) (grownCap w (n+1) c 227)) (w.drew.alloc (.cells ((cs.take (i*5)).toArray++Builtin.zeroCells z.cells (n+1-i)++Builtin.zeroCells z.cells (grownCap w (n+1) c 227-(n+1))) 227)):=fun ty=>by
  have hfit:Builtin.nextslicecap (i+(n+1-i)) c*i0.bytes≤281474976710656:=by
   rw[hik]
   exact growslice_fits (by omega) (by omega)
  have h:=Lib.run_append_grow_zeros w 207 3 ty 227 i0 _ .i64 .i64 Tryz.underlying207 Tryz.underlying3 hi0 hz0 (some ⟨b,0,none⟩) i c (cs.take (i*5)) hold (n+1-i) (by omega) (by omega) (by omega) (by omega) (Nat.le_trans (Nat.mul_le_mul_right _ (show n+1-i≤n+1 by omega)) (by omega)) hfit
  rw[hik]at h
  rw[hkk]
  exact h
 obtain⟨G,hG⟩:∃G,G=grownCap w (n+1) c 227:=⟨_,rfl⟩
 obtain⟨ROW,hROW⟩:∃ROW:Array Value,ROW=(cs.take (i*5)).toArray++Builtin.zeroCells z.cells (n+1-i)++Builtin.zeroCells z.cells (G-(n+1)):=⟨_,rfl⟩
 rw[← hG]at hrz
 rw[← hROW]at hrz
 have hGn:n+1≤G:=by rw[hG];exact grownCap_ge w _ _ _
 have hRs:ROW.size=G*5:=by
  rw[hROW]
  simp[Builtin.zeroCells,hz7,hcl]
  omega
 have hRl:(n+1)*5≤ROW.size:=by omega
 have hRc:∀j,j<i*5→ROW[j]? = cs[j]? :=fun j hj=>by
  rw[hROW,Array.append_assoc,Array.getElem?_append_left (by simp[hcl];omega)]
  simp[hj]
 obtain⟨W1,hW1⟩:∃W1,W1=w.drew.alloc (.cells ROW 227):=⟨_,rfl⟩
 rw[← hW1]at hrz
 have hN:∀j,j<(n+1)*5→(W1.cell? ⟨w.heap.size,j,none⟩).isSome=true:=fun j hj=>by
  rw[hW1,World.cell?_alloc_at (w:=w.drew) ROW _ w.heap.size j rfl,Array.getElem?_eq_getElem (by omega)];rfl
 have hNf:∀j,W1.frozen? ⟨w.heap.size,j,none⟩=false:=fun j=>by rw[hW1];exact World.frozen?_alloc_at (w:=w.drew) ROW _ w.heap.size j rfl
 have hOb:∀j v,w.cell? ⟨b,j,none⟩=some v→W1.cell? ⟨b,j,none⟩=some v:=fun j v h=>by rw[hW1,World.cell?_alloc_past (w:=w.drew) _ b j hbw];exact h
 have hOv:∀j v,w.cell? ⟨vb,j,none⟩=some v→W1.cell? ⟨vb,j,none⟩=some v:=fun j v h=>by rw[hW1,World.cell?_alloc_past (w:=w.drew) _ vb j hvw];exact h
 have hcpA:∀(W:World),(∀x,W.cell? x=W1.cell? x)→(∀x,W.frozen? x=W1.frozen? x)→∀ty dc,(Builtin.copy_ #[207,207] ty #[.slice (some ⟨w.heap.size,i*5,none⟩) (n+1-i) dc,.slice (some ⟨vb,0,none⟩) 1 vc]).run Tryz.prog W= .ok (goInt (Nat.min 1 (n+1-i))) (W.setCells w.heap.size (i*5) vs):=fun W hWc hWf ty dc=>
  XN W _ _ ty 227 5 w.heap.size (i*5) (n+1-i) dc ⟨vb,0,none⟩ 1 vc vs Tryz.underlying207 hsz (by rw[hvl];simp only[Nat.min_def];split<;>omega)
   (fun j v hj=>by rw[Addr.add_lit,hWc];exact hOv _ v (hvs j v hj))
   (fun j hj=>by rw[hWc];exact hN _ (by omega)) (fun j hj=>by rw[hWf];exact hNf _) h1v
 have hG63:G≤9223372036854775807:=by
  have:=grownCap_le_maxLen w (n+1) c 227 (by unfold maxLen;omega)
  rw[← hG]at this
  unfold maxLen at this
  omega
 have hGi:¬ (G=i):=by omega
 have hGim:¬ (G=i+1):=by omega
 have hci:¬ (c=i):=by omega
 have hbN:b≠w.heap.size:=by omega
 have hdl:(cs.drop (i*5)).length=(n-i)*5:=by rw[List.length_drop,hcl, ← Nat.sub_mul]
 have hcpB:∀(W:World),(∀x,W.cell? x=(W1.setCells w.heap.size (i*5) vs).cell? x)→(∀x,W.frozen? x=(W1.setCells w.heap.size (i*5) vs).frozen? x)→∀ty dc sc,(Builtin.copy_ #[207,207] ty #[.slice (some ⟨w.heap.size,(i+1)*5,none⟩) (n-i) dc,.slice (some ⟨b,i*5,none⟩) (n-i) sc]).run Tryz.prog W= .ok (goInt (Nat.min (n-i) (n-i))) (W.setCells w.heap.size ((i+1)*5) (cs.drop (i*5))):=fun W hWc hWf ty dc sc=>
  XN W _ _ ty 227 5 w.heap.size ((i+1)*5) (n-i) dc ⟨b,i*5,none⟩ (n-i) sc (cs.drop (i*5)) Tryz.underlying207 hsz (by rw[hdl];simp only[Nat.min_def];split<;>first|rfl|(congr 1;omega)|omega)
   (fun j v hj => by
     rw[Addr.add_lit,hWc,World.cell?_setCells_out _ _ _ _ _ (fun h _=>absurd h hbN)]
     have:=hcs (i*5+j) v (by rwa [List.getElem?_drop]at hj)
     exact hOb _ v (by simpa using this))
   (fun j hj=>by rw[hWc];exact isSome_setCells _ _ _ _ (fun t ht=>hN _ (by omega)) _ (hN _ (by omega)))
   (fun j hj=>by rw[hWf,World.frozen?_setCells];exact hNf _) (fun v hv=>h1c v (List.mem_of_mem_drop hv))
 subst hW1
 have hE1:∀x,((w.alloc (.cells ROW 227)).drew).cell? x=(w.drew.alloc (.cells ROW 227)).cell? x:=fun x=>rfl
 have hE2:∀x,((w.alloc (.cells ROW 227)).drew).frozen? x=(w.drew.alloc (.cells ROW 227)).frozen? x:=fun x=>rfl
 have hF1:∀x,(((w.alloc (.cells ROW 227)).drew.setCells w.heap.size (i*5) vs).drew).cell? x=((w.drew.alloc (.cells ROW 227)).setCells w.heap.size (i*5) vs).cell? x:=fun x=>rfl
 have hF2:∀x,(((w.alloc (.cells ROW 227)).drew.setCells w.heap.size (i*5) vs).drew).frozen? x=((w.drew.alloc (.cells ROW 227)).setCells w.heap.size (i*5) vs).frozen? x:=fun x=>rfl
 have hw1:IntKind.i64.wrap ((i:Int)+1)=(i:Int)+1:=by rw[IntKind.wrap_i64];omega
 have hw2:IntKind.i64.wrap ((n:Int)+1)=(n:Int)+1:=by rw[IntKind.wrap_i64];omega
 have hw3:IntKind.i64.wrap ((n:Int)+1-(i:Int))=(n:Int)+1-(i:Int):=by rw[IntKind.wrap_i64];omega
 have hz2:¬ ((i:Int)=(n:Int)):=by omega
 have hb1:(0:Int)≤(i:Int)+1:=by omega
 have hin:i≤n:=by omega
 have htn:((i:Int)+1).toNat=i+1:=by omega
 have hb3:(i:Int)≤(n:Int):=by omega
 have hb5:(c:Int)<(n:Int)+1:=by omega
 have hb6:(i:Int)≤(n:Int)+1:=by omega
 clear hkk hik hold hROW hG hRl
 go_enter Tryz.func254,Tryz.ntmps254
 go_wp2_with (first
  | (at_builtin;refine Lib.wpList_append_run _ rfl _ _ _ _ rfl _ _ rfl rfl _ _ (hrz _) ?_)
  | (at_builtin;refine wpList_copy_runI _ rfl _ _ 207 207 rfl _ _ rfl rfl (hcpA _ hE1 hE2 _ _) ?_)
  | (at_builtin;refine wpList_copy_runI _ rfl _ _ 207 207 rfl _ _ rfl rfl (hcpB _ (fun _=>rfl) (fun _=>rfl) _ _ _) ?_))
 go_region_law_o (refine step_copy_runI rfl _ _ 207 207 rfl (.slice (some ⟨w.heap.size,(i+1)*5,none⟩) (n-i) (G-(i+1))) (.slice (some ⟨b,i*5,none⟩) (n-i) (c-i)) (by simp[Act.eval,Act.put]) (by simp[Act.eval,Act.put]) (hcpB _ hF1 hF2 3 (G-(i+1)) (c-i)) ?_)
 go_wp2
 go_ret
 exact⟨G,ROW,hGn,hG63,hRs,hRc,rfl,rfl⟩
theorem Qg {g:Gh} {c:Array Value} (hw:∀i (hi:i<el.length),(el[i]).length=5) (hv:∀i (hi:i<el.length) j (hj:j<(el[i]).length),∃v,c[i*5+j]? = some v∧V g ((el[i])[j]) v) (hc:el.all (fun x=>x.all ZL)=true) (hn:n=el.length*5):∀v∈c.toList.take n,v.oneCell'=true:=by
 intro v h;obtain⟨k,hk,rfl⟩:=List.mem_iff_getElem.1 h;have hk':k<el.length*5:=by simp at hk;omega
 have hi:k / 5<el.length:=by omega
 have hj:k % 5<5:=by omega
 obtain⟨u,h1,h2⟩:=hv (k / 5) hi (k % 5) (by rw[hw _ hi];exact hj);rw[Nat.div_add_mod']at h1;have hkc:k<c.size:=by simp at hk;omega
 rw[Array.getElem?_eq_getElem hkc]at h1;have e:(c.toList.take n)[k]=u:=by simpa using h1
 rw[e];exact XR h2 (List.all_eq_true.1 (List.all_eq_true.1 hc _ (List.getElem_mem hi)) _ (List.getElem_mem _))
theorem Zpx {α:Type} {l:List α} (h:l.length=3):∃a b c,l= [a,b,c]:=by
 match l,h with
 | [a,b,c],_=>exact⟨a,b,c,rfl⟩
def VO (el:List (List PV)) (i:Nat) (y:List PV):List (List PV):=el.take i++ [y]++el.drop i
theorem Zhq (h:i≤el.length) (y:List PV):(VO el i y).length=el.length+1:=by simp only[VO,List.length_append,List.length_take,List.length_drop,List.length_singleton];omega
theorem Zc5 (h:i≤el.length) (y:List PV) {k:Nat} {x:List PV} (hx:(VO el i y)[k]? = some x):(k<i∧el[k]? = some x)∨(k=i∧x=y)∨(i<k∧el[k-1]? = some x):=by
 unfold VO at hx;rcases Nat.lt_trichotomy k i with hk|rfl|hk;{refine .inl ⟨hk,?_⟩;rw[List.append_assoc,List.getElem?_append_left (by simp;omega),List.getElem?_take,if_pos hk]at hx;exact hx}
 ·refine .inr (.inl ⟨rfl,?_⟩);rw[List.append_assoc,List.getElem?_append_right (by simp;omega)]at hx;have e:k-(el.take k).length=0:=by simp;omega
  rw[e]at hx;simpa using hx.symm
 ·refine .inr (.inr ⟨hk,?_⟩);rw[List.getElem?_append_right (by simp;omega)]at hx;have e:k-(el.take i++ [y]).length=k-i-1:=by simp;omega
  rw[e,List.getElem?_drop]at hx;rw[← hx];congr 1;omega
theorem Yw (b:Nat):∀(vs:List Value) (o:Nat) (w:World),(w.setCells b o vs).tape=w.tape∧(w.setCells b o vs).drawn=w.drawn
 | [],_,_=>⟨rfl,rfl⟩
 |v::r,o,w=>by rw[World.setCells];obtain⟨h1,h2⟩:=Yw b r (o+1) (w.setCell ⟨b,o,none⟩ v);rw[h1,h2];exact⟨rfl,rfl⟩
theorem Zoi {H:Heap} {id id2:Nat} {y:List PV} (hb1:H.bx[id]? = some (.cells 5 el)) (hb2:H.bx[id2]? = some (.cells 5 [y])) (hro:H.ro≤id) (hne:id≠id2) (hn:el.length=n) (hin:i<n) (hn2:n≤1000) (hc:el.all (fun x=>x.all ZL)=true) (hy:y.all ZL=true):CO 254 [.own id 5 0 n,.int .i64 (i:Int),.own id2 5 0 1] H (.own H.bx.length 5 0 (n+1)) {H with bx:=H.bx.set id .dead++ [.cells 5 (VO el i y)]}:=by
 intro g w vals hi hg hv;obtain⟨l,hv⟩:=hv;obtain⟨v0,v1,v2,hvals⟩:=Zpx (show vals.toList.length=3 by simpa using l);rw[hvals]at hv;have a0:=hv 0 (by simp) (by simp);have a1:=hv 1 (by simp) (by simp);have a2:=hv 2 (by simp) (by simp);simp only[List.getElem_cons_succ,List.getElem_cons_zero]at a0 a1 a2;obtain rfl:=a1.int_inv;obtain⟨b,cap,a,hσ,hcap,ha, -,⟨hk1,hk2⟩,rfl⟩:=a0.own_inv2;obtain⟨vb,vc,av,hσv,hvc,hav, -, -,rfl⟩:=a2.own_inv2;obtain rfl:=ha (by omega);obtain rfl:=hav (by omega);obtain rfl:vals= #[.slice (some ⟨b,0*5,none⟩) n cap,.int .i64 (i:Int),.slice (some ⟨vb,0*5,none⟩) 1 vc]:=Array.toList_inj.1 (by simpa using hvals);obtain⟨b',c,T,s1,s2,s3,s4,s5,s6⟩:=hi.bx _ _ _ hb1;rw[hσ]at s1;cases s1;obtain⟨vb',c2,T2,t1,t2,t3,t4,t5,t6⟩:=hi.bx _ _ _ hb2;rw[hσv]at t1;cases t1;have hrm:=hi.rm id b c T _ ⟨_,hb1,trivial⟩ hσ s2;have hvb:vb≠b:=fun e=>hne (hi.inj id id2 b ⟨_,hb1,trivial⟩ ⟨_,hb2,trivial⟩ hσ (e ▸ hσv));have s4':n*5≤c.size:=by rw[← hn];simpa using s4
 have t4':5≤c2.size:=by simpa using t4
 have hbw:=hi.sz _ _ hσ;obtain⟨cs,hcs⟩:∃cs,cs=c.toList.take (n*5):=⟨_,rfl⟩;obtain⟨vs,hvs⟩:∃vs,vs=c2.toList.take 5:=⟨_,rfl⟩;have lcs:cs.length=n*5:=by rw[hcs];simp;omega
 have lvs:vs.length=5:=by rw[hvs];simp;omega
 have gcs:∀j,j<n*5→cs[j]? = c[j]? :=fun j hj=>by rw[hcs];simp[hj]
 have gvs:∀j,j<5→vs[j]? = c2[j]? :=fun j hj=>by rw[hvs];simp[hj]
 have kcs:∀j v,cs[j]? = some v→w.cell? ⟨b,0+j,none⟩=some v:=fun j v e=>by
  have hj:j<n*5:=by have:=Zz e;omega
  rw[gcs j hj]at e;simpa[World.cell?,s2] using e
 have kvs:∀j v,vs[j]? = some v→w.cell? ⟨vb,0+j,none⟩=some v:=fun j v e=>by
  have hj:j<5:=by have:=Zz e;omega
  rw[gvs j hj]at e;simpa[World.cell?,t2] using e
 have ocs:∀v∈cs,v.oneCell'=true:=by rw[hcs];exact Qg s3 s5 hc (by rw[hn])
 have ovs:∀v∈vs,v.oneCell'=true:=by rw[hvs];exact Qg t3 t5 (by simpa using hy) (by simp)
 have fr0:∀o,w.frozen? ⟨b,o,none⟩=false:=fun o=>by simp[World.frozen?,s2]
 have fr1:∀o,w.frozen? ⟨vb,o,none⟩=false:=fun o=>by simp[World.frozen?,t2]
 have hshA:w.shape? vb=some (T2,c2.size):=by simp[World.shape?,t2]
 have hshB:w.shape? b=some (T,c.size):=by simp[World.shape?,s2]
 have hpl:=Zhq (el:=el) (i:=i) (by omega) y;have wy:y.length=5:=t3 0 (by simp);have wel0:∀(k:Nat) (x:List PV),(VO el i y)[k]? = some x→x.length=5:=fun k x hx=>by rcases Zc5 (by omega) y hx with⟨_,e⟩|⟨_,rfl⟩|⟨_,e⟩;{have hk:=Zz e;rw[← VV e];exact s3 k hk};{exact wy};{have hk:=Zz e;rw[← VV e];exact s3 _ hk}
 have wel:∀k (hk:k<(VO el i y).length),((VO el i y)[k]).length=5:=fun k hk=>wel0 k _ (List.getElem?_eq_getElem hk);have vel : ∀F : Array Value, (∀j, j < i * 5 → F[j]? = cs[j]?) → (∀j, j < 5 → F[i * 5 + j]? = vs[j]?) → (∀j, j < (n - i) * 5 → F[(i + 1) * 5 + j]? = cs[i * 5 + j]?) →
   ∀k (hk:k<(VO el i y).length) j (hj:j<((VO el i y)[k]).length),∃v,F[k*5+j]? = some v∧V g (((VO el i y)[k])[j]) v:=by
  intro F hF1 hF2 hF3 k hk j hj
  have hj5:j<5:=by rw[wel k hk]at hj;exact hj
  have hx:=List.getElem?_eq_getElem hk
  generalize (VO el i y)[k]=x at hx hj ⊢
  rcases Zc5 (by omega) y hx with⟨hki,e⟩|⟨rfl,rfl⟩|⟨hki,e⟩
  · obtain⟨hk', rfl⟩ := List.getElem?_eq_some_iff.1 e
    obtain⟨v,e1,e2⟩:=s5 k hk' j hj
    refine⟨v,?_,e2⟩
    rw[hF1 _ (by omega),gcs _ (by omega)];exact e1
  · obtain⟨v, e1, e2⟩ := t5 0 (by simp) j hj
    refine⟨v,?_,e2⟩
    rw[hF2 _ hj5,gvs _ hj5];simpa using e1
  · obtain⟨hk', rfl⟩ := List.getElem?_eq_some_iff.1 e
    obtain⟨v,e1,e2⟩:=s5 (k-1) hk' j hj
    refine⟨v,?_,e2⟩
    have q1:k*5+j=(i+1)*5+((k-1-i)*5+j):=by omega
    have q2:i*5+((k-1-i)*5+j)=(k-1)*5+j:=by omega
    rw[q1,hF3 _ (by omega),q2,gcs _ (by omega)];exact e1
 have hf:FnOk Tryz.prog 254 fe254.fn fe254.c:=fe254.ok;rw[Zv hf];simp only[UponCall];have ldr:(cs.drop (i*5)).length=(n-i)*5:=by rw[List.length_drop,lcs, ← Nat.sub_mul]
 by_cases hroom:n+1≤cap
 ·have hsz:(n+1)*5≤c.size:=by have:=Nat.mul_le_mul_right 5 hroom;omega
  refine Calls.mono (Zhz b cap n i vb vc cs vs w hin hn2 hroom (by omega) hvb lcs lvs kcs (fun j hj=>by simp[World.cell?,s2];omega) (fun j _=>fr0 _) kvs ocs ovs T2 T c2.size c.size hshA hshB (by omega) (fr1 _) (fr1 _)) fun e w' ⟨he,hw'⟩=>?_;subst he;obtain⟨c3,r1,r2,r3,r4,r5,r6,r7,r8⟩:=Y5 (w:=w.drew) (b:=b) s2 (cs.drop (i*5)) ((i+1)*5) (by omega);obtain⟨c4,z1,z2,z3,z4,z5,z6,z7,z8⟩:=Y5 (w:=w.drew.setCells b ((i+1)*5) (cs.drop (i*5))) (b:=b) r1 vs (i*5) (by omega);rw[← hw']at z1 z5 z6 z7 z8;obtain⟨q1,q2⟩:=Yw b vs (i*5) (w.drew.setCells b ((i+1)*5) (cs.drop (i*5)));obtain⟨q3,q4⟩:=Yw b (cs.drop (i*5)) ((i+1)*5) w.drew;rw[← hw',q3]at q1;rw[← hw',q4]at q2;have hso:SameOut g w w':=⟨z7.1.trans r7.1,z7.2.trans r7.2,q1,fun _=>by rw[q2];exact Nat.le_succ _⟩;obtain⟨j1,j2⟩:=ZfB hi (w':=w') hro hb1 trivial hσ s6 (fun k hk=>(z5 k hk).trans (r5 k hk)) (z6.trans r6) z1 (fun a=>(z8 a).trans (r8 a)) hso
   (es := 5) (el := VO el i y) wel (by omega) (vel c4 (fun j hj => by
     rw[z4 j (.inl hj),r4 j (.inl (by omega)),gcs j (by omega)]) (fun j hj=>by
     rw[z3 j (by omega),List.getElem?_eq_getElem (by omega)]) (fun j hj=>by
     rw[z4 _ (.inr (by omega)),r3 j (by omega), ← List.getElem?_eq_getElem,List.getElem?_drop])) (g.κ id) (by omega)
  exact⟨_,rfl,_,.own _ _ _ _ b cap _ (by simp[Gh.link]) hroom (fun _=>by simp) rfl ⟨by simpa[Gh.link] using hk1,hk2⟩,j1,j2⟩
 ·refine Calls.mono (ZhK b cap n i vb vc cs vs w hin hn2 hcap (by omega) lcs lvs kcs kvs ocs ovs) fun e w' ⟨G,ROW,g1,g2,g3,g4,he,hw'⟩=>?_;subst he;have hn0:((w.alloc (.cells ROW 227)).drew).heap[w.heap.size]? = some (.cells ROW 227 (0,0)):=Z5 w _;obtain⟨c3,r1,r2,r3,r4,r5,r6,r7,r8⟩:=Y5 hn0 vs (i*5) (by omega);have r1':(((w.alloc (.cells ROW 227)).drew.setCells w.heap.size (i*5) vs).drew).heap[w.heap.size]? = some (.cells c3 227 (0,0)):=r1;obtain⟨c4,z1,z2,z3,z4,z5,z6,z7,z8⟩:=Y5 r1' (cs.drop (i*5)) ((i+1)*5) (by omega);rw[← hw']at z1 z5 z6 z7 z8;have hh:w'.heap=(w.alloc (.cells c4 227)).heap:=by refine Array.ext_getElem? fun k=>?_;by_cases e:k=w.heap.size;{subst e;rw[z1,Z5]};{rw[z5 k e];refine(r5 k e).trans ?_;rcases Nat.lt_or_ge k w.heap.size with h|h;{exact(Zq w _ h).trans (Zq w _ h).symm};{exact(UY w _ (by omega)).trans (UY w _ (by omega)).symm}}
  obtain⟨q1,q2⟩:=Yw w.heap.size (cs.drop (i*5)) ((i+1)*5) (((w.alloc (.cells ROW 227)).drew.setCells w.heap.size (i*5) vs).drew);obtain⟨q3,q4⟩:=Yw w.heap.size vs (i*5) ((w.alloc (.cells ROW 227)).drew);rw[← hw']at q1 q2;have hso:SameOut g w w':=⟨z7.1.trans r7.1,z7.2.trans r7.2,q1.trans q3,fun _=>by
   rw[q2]
   show w.drawn≤((w.alloc (.cells ROW 227)).drew.setCells w.heap.size (i*5) vs).drawn+1
   rw[q4]
   show w.drawn≤w.drawn+1+1
   omega⟩
  obtain⟨j1, j2⟩ := ZgG hi (w' := w') hro hh hso (es := 5) (el := VO el i y) wel (by omega) (vel c4 (fun j hj => by
    rw[z4 j (.inl (by omega)),r4 j (.inl hj),g4 j hj]) (fun j hj=>by
    rw[z4 _ (.inl (by omega)),r3 j (by omega),List.getElem?_eq_getElem (by omega)]) (fun j hj=>by
    rw[z3 j (by omega), ← List.getElem?_eq_getElem,List.getElem?_drop])) c4.size (Nat.le_refl _)
  exact⟨_,rfl,_,.own _ _ _ _ w.heap.size G _ (by simp[Gh.link]) g1 (fun _=>by simp) rfl ⟨by simp[Gh.link];omega,g2⟩,j1,j2⟩
