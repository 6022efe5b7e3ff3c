/-
  The ledger of the program: the reading of proofs of inclusion.
-/
import Derived.Test.YtjokjgoppbmaiaaGreatDoorEg
set_option maxHeartbeats 64000000
set_option maxRecDepth 100000
namespace Go.Vm.Seat
open Go.Proofs
noncomputable def E7:Env:={E0 with
 eff:=fun f=>E0.eff f || [141,142,208,207,212,206,139,140].any (Nat.beq f)
 own:=fun f d=>E0.own f d || [(70,5042),(70,5039),(208,7)].any fun x=>Nat.beq f x.1 && Nat.beq d x.2}
theorem tOk7:TOk E7 Tryz.prog:=⟨fun _ _ h=>getT_ok h⟩
theorem to07 {f:FuncId} {args:List PV} {H H':Heap} {r:PV} (h:CallOk E0 Tryz.prog f args H r H'):CallOk E7 Tryz.prog f args H r H':=h.env rfl
theorem to70 {f:FuncId} {args:List PV} {H H':Heap} {r:PV} (h:CallOk E7 Tryz.prog f args H r H'):CallOk E0 Tryz.prog f args H r H':=h.env rfl
theorem to70s {f:FuncId} {args:List PV} {r:PV} (h:∀ H,CallOk E7 Tryz.prog f args H r H):∀ H,CallOk E0 Tryz.prog f args H r H:=fun H=>to70 (h H)
theorem c132 (nm:Bs):∀ H,CallOk E0 Tryz.prog 132 [.str nm] H (.agg (tagT nm).cells) H:=by
 unfold tagT
 simp only [Tm.cells,cellsL,slV_nil_true]
 refine κw tOk fe132.ok rfl ?_
 repeat' first | refine κn ?_ | refine κg ?_ | refine κa ?_ | refine κf ?_ | fail
 all_goals rfl
theorem c131 (nm:Bs) (c:List PV) (L:List (List PV)):∀ H,CallOk E0 Tryz.prog 131 [.str nm,.sl .none 4 (c :: L)] H (.agg [.int .i64 3,.str nm,.int .i64 0,.sl .none 4 (c :: L)]) H:=by
 refine κw tOk fe131.ok rfl ?_
 repeat' first | refine κn ?_ | refine κg ?_ | refine κa ?_ | refine κf ?_ | fail
 all_goals rfl
theorem cells1 (nm:Bs) (x:Tm):(Tm.mk 3 nm 0 true [x]).cells= [.int .i64 3,.str nm,.int .i64 0,.sl .none 4 [x.cells]]:=by simp only [Tm.cells,cellsL,slV_cons]
theorem cells2 (nm:Bs) (x y:Tm):(Tm.mk 3 nm 0 true [x,y]).cells= [.int .i64 3,.str nm,.int .i64 0,.sl .none 4 [x.cells,y.cells]]:=by simp only [Tm.cells,cellsL,slV_cons]
theorem app1 (nm:Bs) (x:Tm):∀ H,CallOk E0 Tryz.prog 131 [.str nm,.sl .full 4 [x.cells]] H (.agg (Tm.mk 3 nm 0 true [x]).cells) H:=fun H=>by
 rw [cells1]
 exact callOk_frz (c131 nm _ _ H) rfl
theorem app2 (nm:Bs) (x y:Tm):∀ H,CallOk E0 Tryz.prog 131 [.str nm,.sl .full 4 [x.cells,y.cells]] H (.agg (Tm.mk 3 nm 0 true [x,y]).cells) H:=fun H=>by
 rw [cells2]
 exact callOk_frz (c131 nm _ _ H) rfl
theorem c199 (t:Tm):∀ H,CallOk E0 Tryz.prog 199 [.agg t.cells] H (.agg (leafT t).cells) H:=by
 have h1:=c132 leafN
 have h2:=app2 pairN (tagT leafN) t
 have h3:=app1 hashN (Tm.mk 3 pairN 0 true [tagT leafN,t])
 have hfr:=frz3_cells 0 hNil (leafT t)
 unfold leafT at hfr ⊢
 generalize Tm.mk 3 hashN 0 true [Tm.mk 3 pairN 0 true [tagT leafN,t]]=R at h3 hfr ⊢
 generalize Tm.mk 3 pairN 0 true [tagT leafN,t]=Q at h2 h3
 generalize tagT leafN=G at h1 h2
 obtain ⟨k,nm,s,b,kids⟩:=t
 obtain ⟨k1,nm1,s1,b1,kids1⟩:=R
 obtain ⟨k2,nm2,s2,b2,kids2⟩:=Q
 obtain ⟨k3,nm3,s3,b3,kids3⟩:=G
 simp only [Tm.cells] at h1 h2 h3 hfr ⊢
 refine κw tOk fe199.ok hfr ?_
 repeat' first | refine κn ?_ | refine κg ?_ | (apply dCl;rfl;rfl;rfl;rfl;rfl;first | exact h1 _ | exact h2 _ | exact h3 _) | refine κB ?_ | refine κh ?_ | refine κa ?_ | (apply Wp.drawS tOk follows;kernel_rfl;rfl) | refine κf ?_ | fail
 all_goals exact frz3_tm _ _ _ _ _ _ _
theorem c200 (x y:Tm):∀ H,CallOk E0 Tryz.prog 200 [.agg x.cells,.agg y.cells] H (.agg (nodeT x y).cells) H:=by
 have h1:=c132 nodeN
 have h2:=app2 pairN x y
 have h3:=app2 pairN (tagT nodeN) (Tm.mk 3 pairN 0 true [x,y])
 have h4:=app1 hashN (Tm.mk 3 pairN 0 true [tagT nodeN,Tm.mk 3 pairN 0 true [x,y]])
 have hfr:=frz3_cells 0 hNil (nodeT x y)
 unfold nodeT at hfr ⊢
 generalize Tm.mk 3 hashN 0 true [Tm.mk 3 pairN 0 true [tagT nodeN,Tm.mk 3 pairN 0 true [x,y]]]=R at h4 hfr ⊢
 generalize Tm.mk 3 pairN 0 true [tagT nodeN,Tm.mk 3 pairN 0 true [x,y]]=S at h3 h4
 generalize Tm.mk 3 pairN 0 true [x,y]=Q at h2 h3
 generalize tagT nodeN=G at h1 h3
 obtain ⟨k,nm,s,b,kids⟩:=x
 obtain ⟨k1,nm1,s1,b1,kids1⟩:=R
 obtain ⟨k2,nm2,s2,b2,kids2⟩:=Q
 obtain ⟨k3,nm3,s3,b3,kids3⟩:=G
 obtain ⟨k4,nm4,s4,b4,kids4⟩:=y
 obtain ⟨k5,nm5,s5,b5,kids5⟩:=S
 simp only [Tm.cells] at h1 h2 h3 h4 hfr ⊢
 refine κw tOk fe200.ok hfr ?_
 repeat' first | refine κn ?_ | refine κg ?_ | (apply dCl;rfl;rfl;rfl;rfl;rfl;first | exact h1 _ | exact h2 _ | exact h3 _ | exact h4 _) | refine κB ?_ | refine κh ?_ | refine κa ?_ | (apply Wp.drawS tOk follows;kernel_rfl;rfl) | refine κf ?_ | fail
 all_goals exact frz3_tm _ _ _ _ _ _ _
theorem halfAll:((List.range 33).all fun n=>okFact E0 100 60 ⟨133,[.int .i64 (n:Int)],.int .i64 (halfN n:Int)⟩)=true:=by kernel_rfl
theorem c133 {n:Nat} (h:n≤32):∀ H,CallOk E0 Tryz.prog 133 [.int .i64 (n:Int)] H (.int .i64 (halfN n:Int)) H:=
 okFact_ok tOk follows fOk zOk (List.all_eq_true.1 halfAll n (List.mem_range.2 (by omega)))
def prB (b:Bool) (l:List Tm) (f:Bool):Box:= .cells 2 [[slV b 4 (cellsL l),.bool f]]
theorem prB_u (n:Nat) (b:Bool) (l:List Tm) (f:Bool):boxU n (prB b l f)=true:=by simp [prB,boxU,underL,under,under_slV]
theorem next_nil (b f:Bool) {A B:Box} (hA:boxU 3 A=true) (hB:boxU 3 B=true):CallOk E7 Tryz.prog 206 [.ptr 2 2 0 0] ⟨[A,B,prB b [] f],0,[],0⟩ (.agg Tm.zero.cells) ⟨[A,B,prB b [] true],0,[],0⟩:=by
 refine shed3 ?_ (under_tm _ _) hA hB (prB_u _ _ _ _)
 rw [zero_cells]
 unfold prB
 simp only [cellsL]
 refine callOk_wpR (own:=fun _=>false) tOk7 fe206.ok ?_
 refine Wp.seq ?_
 repeat' first | refine κn ?_ | refine κl ?_ | refine κt ?_ | refine κg ?_ | refine κa ?_ | fail
 · exact RetR.ret rfl ⟨rfl,_,rfl⟩
theorem next_cons (b f:Bool) (t:Tm) (r:List Tm) {A B:Box} (hA:boxU 3 A=true) (hB:boxU 3 B=true):CallOk E7 Tryz.prog 206 [.ptr 2 2 0 0] ⟨[A,B,prB b (t :: r) f],0,[],0⟩ (.agg t.cells) ⟨[A,B,prB false r f],0,[],0⟩:=by
 refine shed3 ?_ (under_tm _ _) hA hB (prB_u _ _ _ _)
 have hj:(cellsL (t :: r))[0]? = some t.cells:=by simp only [cellsL];rfl
 have ht:=tailT b t r
 have hcl:(cellsL (t :: r)).length=r.length+1:=by simp [cellsL_length]
 have hr:slV false 4 (cellsL r)= .sl .none 4 (cellsL r):=slV_false _ _
 unfold prB
 rw [hr]
 generalize cellsL (t :: r)=L at hj ht hcl ⊢
 obtain ⟨k,nm,s,tb,kids⟩:=t
 simp only [Tm.cells] at hj ⊢
 refine callOk_wpR (own:=fun _=>false) tOk7 fe206.ok ?_
 refine Wp.seq ?_
 repeat' first | refine κn ?_ | refine κS ?_ | refine κl ?_ | refine κx ?_ | refine κb ?_ ?_ | refine κg ?_ | refine κa ?_ | intro hb
 · exfalso;rw [hcl] at hb;simp at hb;omega
 · exact RetR.ret rfl ⟨rfl,_,rfl⟩
theorem next_ok (b:Bool) (p:List Tm×Bool):∃ b',∀ A B,boxU 3 A=true→boxU 3 B=true→CallOk E7 Tryz.prog 206 [.ptr 2 2 0 0] ⟨[A,B,prB b p.1 p.2],0,[],0⟩ (.agg (nextT p).1.cells) ⟨[A,B,prB b' (nextT p).2.1 (nextT p).2.2],0,[],0⟩:=by
 obtain ⟨l,f⟩:=p
 cases l with
 | nil=>exact ⟨b,fun A B hA hB=>next_nil b f hA hB⟩
 | cons t r=>exact ⟨false,fun A B hA hB=>next_cons b f t r hA hB⟩
theorem uT (n i:Int) (t:Tm):underL 3 [.ptr 2 2 0 0,.int .i64 n,.int .i64 i,.agg t.cells]=true:=by
 have:=under_tm 3 t
 simp only [underL,under,Bool.and_true] at this ⊢
 simpa using this
theorem c139 : ∀ (m : Nat) {n : Nat}, n ≤ m → 1 ≤ n → n ≤ 32 → ∀ (i : Nat), i < n → ∀ (t : Tm) (p : List Tm × Bool) (b : Bool), ∃ b', ∀ A B, boxU 3 A = true → boxU 3 B = true →
  CallOk E7 Tryz.prog 139 [.ptr 2 2 0 0,.int .i64 (n:Int),.int .i64 (i:Int),.agg t.cells] ⟨[A,B,prB b p.1 p.2],0,[],0⟩ (.agg (incT m n i t p).1.cells) ⟨[A,B,prB b' (incT m n i t p).2.1 (incT m n i t p).2.2],0,[],0⟩
 | 0,n,h,h1,_=>by omega
 | m + 1, n, hm, h1, h32 => by
   intro i hi t p b
   have hcl:=fun H=>to07 (c199 t H)
   have hch:=fun H=>to07 (c133 h32 H)
   have hhp:=half_pos n
   by_cases hn1:n=1
   · refine ⟨b, fun A B hA hB => shed3 ?_ (under_tm _ _) hA hB (prB_u _ _ _ _)⟩
     simp only [incT,if_pos hn1]
     subst hn1
     generalize leafT t=R at hcl ⊢
     obtain ⟨k,nm,s,tb,kids⟩:=t
     obtain ⟨k1,nm1,s1,tb1,kids1⟩:=R
     simp only [Tm.cells] at hcl ⊢
     refine callOk_wpR (own:=(fun d=>[29999,6028,6040,50009,50017,50034,40208,40210,40328,40330].any (Nat.beq d))) tOk7 fe139.ok ?_
     refine Wp.seq ?_
     repeat' first | refine κn ?_ | refine κc (hcl _) ?_ | refine κt ?_ | refine κg ?_ | refine κa ?_ | fail
     · exact RetR.ret rfl ⟨rfl,_,rfl⟩
     all_goals (exfalso;simp at hb)
   · have hhl := half_lt (n := n) (by omega)
     have hnb:((n:Int) == 1)=false:=by simp;omega
     by_cases hlt:i < halfN n
     · obtain ⟨b1, hr⟩ := c139 m (n := halfN n) (by omega) hhp (by omega) i hlt t p b
       obtain ⟨b2,hx⟩:=next_ok b1 (incT m (halfN n) i t p).2
       have hN:=fun H=>to07 (c200 (incT m (halfN n) i t p).1 (nextT (incT m (halfN n) i t p).2).1 H)
       refine ⟨b2,fun A B hA hB=>shed3 ?_ (under_tm _ _) hA hB (prB_u _ _ _ _)⟩
       have hr:=hr A B hA hB
       simp only [incT,if_neg hn1,if_pos hlt]
       generalize incT m (halfN n) i t p=Q at hr hx hN ⊢
       obtain ⟨x,q⟩:=Q
       simp only [] at hr hx hN ⊢
       generalize nextT q=Q2 at hx hN ⊢
       obtain ⟨y,q2⟩:=Q2
       simp only [] at hr hx hN ⊢
       have hs:=storeC3 hx rfl (prB_u 3 b1 q.1 q.2) (by simp [prB]) hA hB [.cells 4 [t.cells],.cells 4 [Tm.zero.cells],.cells 4 [x.cells]]
       have hr:=hr.ext (ext:=[.cells 4 [t.cells],.cells 4 [Tm.zero.cells]]) rfl (uT _ _ t) (by simp [hA,hB,prB_u]) (Nat.zero_le _)
       have hbl:decide ((i:Int) < (halfN n:Int))=true:=by simp;omega
       rw [zero_cells] at hs hr
       generalize nodeT x y=R at hN ⊢
       generalize prB b p.1 p.2=X0 at hr ⊢
       generalize prB b1 q.1 q.2=X1 at hr hs
       generalize prB b2 q2.1 q2.2=X2 at hs ⊢
       obtain ⟨k,nm,s,tb,kids⟩:=t
       obtain ⟨k1,nm1,s1,tb1,kids1⟩:=R
       obtain ⟨k2,nm2,s2,tb2,kids2⟩:=x
       obtain ⟨k3,nm3,s3,tb3,kids3⟩:=y
       simp only [Tm.cells] at hr hs hN ⊢
       refine callOk_wpR (own:=(fun d=>[29999,6028,6040,50009,50017,50034,40208,40210,40328,40330].any (Nat.beq d))) tOk7 fe139.ok ?_
       refine Wp.seq ?_
       repeat' first | refine κn ?_ | refine κc (hch _) ?_ | refine κc hr ?_ | refine κb ?_ ?_ | refine κg ?_ | refine κd (hN _) ?_ | (apply dCs;rfl;rfl;rfl;rfl;rfl;exact hs;exact IsH.mkN;rfl;rfl) | refine κh ?_ | refine κa ?_ | (apply Wp.drawS tOk7 follows;kernel_rfl;rfl) | intro hb
       all_goals first
        | exact RetR.ret rfl ⟨rfl,_,rfl⟩
        | (exfalso;rw [hnb] at hb;cases hb;done)
        | (exfalso;rw [hbl] at hb;cases hb;done)
     · obtain ⟨b1, hr⟩ := c139 m (n := n - halfN n) (by omega) (by omega) (by omega) (i - halfN n) (by omega) t p b
       obtain ⟨b2,hx⟩:=next_ok b1 (incT m (n - halfN n) (i - halfN n) t p).2
       have hN:=fun H=>to07 (c200 (nextT (incT m (n - halfN n) (i - halfN n) t p).2).1 (incT m (n - halfN n) (i - halfN n) t p).1 H)
       refine ⟨b2,fun A B hA hB=>shed3 ?_ (under_tm _ _) hA hB (prB_u _ _ _ _)⟩
       have hr:=hr A B hA hB
       simp only [incT,if_neg hn1,if_neg hlt]
       have w1:IntKind.i64.wrap ((n:Int) - (halfN n:Int))=((n - halfN n:Nat):Int):=by
        rw [IntWalk.i64_in _ (by omega)];omega
       have w2:IntKind.i64.wrap ((i:Int) - (halfN n:Int))=((i - halfN n:Nat):Int):=by
        rw [IntWalk.i64_in _ (by omega)];omega
       generalize incT m (n - halfN n) (i - halfN n) t p=Q at hr hx hN ⊢
       rw [← w1, ← w2] at hr
       obtain ⟨x,q⟩:=Q
       simp only [] at hr hx hN ⊢
       generalize nextT q=Q2 at hx hN ⊢
       obtain ⟨y,q2⟩:=Q2
       simp only [] at hr hx hN ⊢
       have hs:=storeC3 hx rfl (prB_u 3 b1 q.1 q.2) (by simp [prB]) hA hB [.cells 4 [t.cells],.cells 4 [Tm.zero.cells],.cells 4 [x.cells]]
       have hr:=hr.ext (ext:=[.cells 4 [t.cells],.cells 4 [Tm.zero.cells]]) rfl (uT _ _ t) (by simp [hA,hB,prB_u]) (Nat.zero_le _)
       have hbl:decide ((i:Int) < (halfN n:Int))=false:=by simp;omega
       rw [zero_cells] at hs hr
       generalize nodeT y x=R at hN ⊢
       generalize prB b p.1 p.2=X0 at hr ⊢
       generalize prB b1 q.1 q.2=X1 at hr hs
       generalize prB b2 q2.1 q2.2=X2 at hs ⊢
       obtain ⟨k,nm,s,tb,kids⟩:=t
       obtain ⟨k1,nm1,s1,tb1,kids1⟩:=R
       obtain ⟨k2,nm2,s2,tb2,kids2⟩:=x
       obtain ⟨k3,nm3,s3,tb3,kids3⟩:=y
       simp only [Tm.cells] at hr hs hN ⊢
       refine callOk_wpR (own:=(fun d=>[29999,6028,6040,50009,50017,50034,40208,40210,40328,40330].any (Nat.beq d))) tOk7 fe139.ok ?_
       refine Wp.seq ?_
       repeat' first | refine κn ?_ | refine κc (hch _) ?_ | refine κc hr ?_ | refine κb ?_ ?_ | refine κg ?_ | refine κd (hN _) ?_ | (apply dCs;rfl;rfl;rfl;rfl;rfl;exact hs;exact IsH.mkN;rfl;rfl) | refine κh ?_ | refine κa ?_ | (apply Wp.drawS tOk7 follows;kernel_rfl;rfl) | intro hb
       all_goals first
        | exact RetR.ret rfl ⟨rfl,_,rfl⟩
        | (exfalso;rw [hnb] at hb;cases hb;done)
        | (exfalso;rw [hbl] at hb;cases hb;done)
theorem incOk {n i : Nat} (h1 : 1 ≤ n) (h32 : n ≤ 32) (hi : i < n) (t : Tm) (l : List Tm) (b : Bool) : ∃ b', ∀ A B, boxU 3 A = true → boxU 3 B = true →
  CallOk E7 Tryz.prog 139 [.ptr 2 2 0 0,.int .i64 (n:Int),.int .i64 (i:Int),.agg t.cells] ⟨[A,B,prB b l false],0,[],0⟩ (.agg (incT 32 n i t (l,false)).1.cells) ⟨[A,B,prB b' (incT 32 n i t (l,false)).2.1 (incT 32 n i t (l,false)).2.2],0,[],0⟩:=
 c139 32 h32 h1 h32 i hi t (l,false) b
theorem okN {nm:Bs} (hn:nm.length≤1000) {l:List Tm} (hl:l.length≤1000) (h:∀ t,t∈l→t.Ok):(Tm.mk 3 nm 0 true l).Ok:= .mk (by decide) (by decide) (by unfold maxLen;omega) (by unfold maxLen;omega) h
theorem ok1 {nm:Bs} (hn:nm.length≤1000) {x:Tm} (hx:x.Ok):(Tm.mk 3 nm 0 true [x]).Ok:=okN hn (by simp) fun t ht=>by
 obtain rfl:t=x:=by simpa using ht
 exact hx
theorem ok2 {nm:Bs} (hn:nm.length≤1000) {x y:Tm} (hx:x.Ok) (hy:y.Ok):(Tm.mk 3 nm 0 true [x,y]).Ok:=okN hn (by simp) fun t ht=>by
 rcases (by simpa using ht:t=x∨t=y) with rfl | rfl
 · exact hx
 · exact hy
theorem okTag {nm:Bs} (hn:nm.length≤1000):(tagT nm).Ok:= .mk (by decide) (by decide) (by unfold maxLen;omega) (by unfold maxLen;decide) (by simp)
theorem ok_leafT {t:Tm} (h:t.Ok):(leafT t).Ok:=ok1 (by decide) (ok2 (by decide) (okTag (by decide)) h)
theorem sz_leafT (t:Tm):(leafT t).size=t.size+3:=by
 simp only [leafT,tagT,Tm.size,sizeL];omega
theorem ok_nodeT {x y:Tm} (hx:x.Ok) (hy:y.Ok):(nodeT x y).Ok:=ok1 (by decide) (ok2 (by decide) (okTag (by decide)) (ok2 (by decide) hx hy))
theorem sz_nodeT (x y:Tm):(nodeT x y).size=x.size+y.size+4:=by
 simp only [nodeT,tagT,Tm.size,sizeL];omega
theorem next_okT {S:Nat} (hS:1≤S) {p:List Tm×Bool} (hp:∀ x,x∈p.1→x.Ok∧x.size≤S):(nextT p).1.Ok∧(nextT p).1.size≤S∧∀ x,x∈(nextT p).2.1→x.Ok∧x.size≤S:=by
 obtain ⟨l,f⟩:=p
 cases l with
 | nil=>exact ⟨Tm.ok_zero,by simpa [nextT,Tm.zero,Tm.size,sizeL] using hS,by simp [nextT]⟩
 | cons a r=>exact ⟨(hp a (by simp)).1,(hp a (by simp)).2,fun x hx=>hp x (by simp [nextT] at hx;simp [hx])⟩
theorem inc_okT {S:Nat} (hS:1≤S) {t:Tm} (ht:t.Ok) (hts:t.size≤S):∀ (m n i:Nat) {p:List Tm×Bool},(∀ x,x∈p.1→x.Ok∧x.size≤S)→(incT m n i t p).1.Ok∧(incT m n i t p).1.size≤(m+1) * (S+4)∧∀ x,x∈(incT m n i t p).2.1→x.Ok∧x.size≤S
 | 0,n,i,p,hp=>⟨Tm.ok_zero,by simp [incT,Tm.zero,Tm.size,sizeL],hp⟩
 | m + 1, n, i, p, hp => by
   have e:(m+1+1) * (S+4)=(m+1) * (S+4)+(S+4):=by rw [Nat.succ_mul]
   simp only [incT]
   split
   · refine ⟨ok_leafT ht, ?_, hp⟩
     rw [sz_leafT,e];omega
   · split
     · obtain ⟨a1, a2, a3⟩ := inc_okT hS ht hts m (halfN n) i hp
       obtain ⟨b1,b2,b3⟩:=next_okT hS a3
       refine ⟨ok_nodeT a1 b1,?_,b3⟩
       rw [sz_nodeT,e];omega
     · obtain ⟨a1, a2, a3⟩ := inc_okT hS ht hts m (n - halfN n) (i - halfN n) hp
       obtain ⟨b1,b2,b3⟩:=next_okT hS a3
       refine ⟨ok_nodeT b1 a1,?_,b3⟩
       rw [sz_nodeT,e];omega
theorem c89 {t u:Tm} (ht:t.Ok) (hu:u.Ok) (h1:t.size≤1000000) (h2:u.size≤1000000):∀ H,CallOk E0 Tryz.prog 89 [.agg t.cells,.agg u.cells] H (.bool (decide (t.cmp u=0))) H:=by
 have hc:=fun H=>toE0 (d87 ht hu (by omega) (by omega) H)
 generalize t.cmp u=c at hc ⊢
 obtain ⟨k,nm,s,b,kids⟩:=t
 obtain ⟨k',nm',s',b',kids'⟩:=u
 simp only [Tm.cells] at hc ⊢
 refine κw tOk fe89.ok rfl ?_
 repeat' first | refine κn ?_ | refine κc (hc _) ?_ | refine κt ?_ | refine κb ?_ ?_ | refine κg ?_ | refine κa ?_ | refine κf ?_ | intro hb
 all_goals first | rfl | (congr 1;simp_all;done)
theorem buildP (b:Bool) (l:List Tm):aBuild E7 158 [(0,slV b 4 (cellsL l))]=some (.agg [slV b 4 (cellsL l),.bool false]):=by
 generalize cellsL l=L
 cases L <;> cases b <;> simp only [slV_nil_true,slV_nil_false,slV_cons] <;> rfl
theorem frzCk (h t:Tm) (n i:Int) (b:Bool) (L:List (List PV)):frzGL [.agg h.cells,.int .i64 n,.int .i64 i,.agg t.cells,slV b 4 L]=some [.agg h.cells,.int .i64 n,.int .i64 i,.agg t.cells,slV b 4 L]:=by
 obtain ⟨k,nm,s,tb,kids⟩:=h
 obtain ⟨k',nm',s',tb',kids'⟩:=t
 simp only [Tm.cells]
 have e1:∀ (k:Int) (nm:List UInt8) (s:Int) (tb:Bool) (kids:List Tm),frzG (.agg [.int .i64 k,.str nm,.int .i64 s,slV tb 4 (cellsL kids)])=some (.agg [.int .i64 k,.str nm,.int .i64 s,slV tb 4 (cellsL kids)]):=fun k nm s tb kids=>by
  simp only [frzG,frzL,frz1_slV];rfl
 simp only [frzGL,frzG_slV,e1]
 rfl
theorem c68 {h t : Tm} (hh : h.Ok) (hhs : h.size ≤ 20000) (ht : t.Ok) (hts : t.size ≤ 20000) {l : List Tm} (hl : ∀ x, x ∈ l → x.Ok ∧ x.size ≤ 20000) (b : Bool) {n i : Int} (hn : (Lit.int .i64 n).wf = true) (hi : (Lit.int .i64 i).wf = true) : ∀ H,
  CallOk E0 Tryz.prog 68 [.agg h.cells,.int .i64 n,.int .i64 i,.agg t.cells,slV b 4 (cellsL l)] H (.bool (ckIncT h n i t l)) H:=by
 by_cases hC:n < 1∨32 < n∨i < 0∨n≤i∨32 < l.length
 · unfold ckIncT
   rw [if_pos hC]
   obtain ⟨k,nm,s,tb,kids⟩:=h
   obtain ⟨k',nm',s',tb',kids'⟩:=t
   have hfz:=frzCk (.mk k nm s tb kids) (.mk k' nm' s' tb' kids') n i b (cellsL l)
   simp only [Tm.cells] at hfz ⊢
   have hlen:=cellsL_length l
   refine κw tOk fe68.ok rfl ?_ hfz
   repeat' first | refine κn ?_ | refine κk ?_ | refine κl ?_ | refine κt ?_ | refine κb ?_ ?_ | refine κg ?_ | refine κa ?_ | refine κf ?_ | intro hb
   all_goals first
    | rfl
    | (exfalso;simp only [decide_eq_false_iff_not,hlen] at *;omega)
 · obtain ⟨n', rfl⟩ := Int.eq_ofNat_of_zero_le (show 0 ≤ n by omega)
   obtain ⟨i',rfl⟩:=Int.eq_ofNat_of_zero_le (show 0≤i by omega)
   have e0:∀ R,R=incT 32 n' i' t (l,false)→ckIncT h n' i' t l=(!R.2.2 && R.2.1.isEmpty && decide (R.1.cmp h=0)):=fun R hR=>by
    subst hR
    unfold ckIncT
    rw [if_neg hC]
    rfl
   obtain ⟨b',hr⟩:=incOk (n:=n') (i:=i') (by omega) (by omega) (by omega) t l b
   obtain ⟨x1,x2, -⟩:=inc_okT (S:=20000) (by omega) ht hts 32 n' i' (p:=(l,false)) hl
   have hr:=hr (.cells 4 [h.cells]) (.cells 4 [t.cells]) (by have:=under_tm 3 h;simpa [boxU,under] using this) (by have:=under_tm 3 t;simpa [boxU,under] using this)
   have hs:=fun H=>to07 (c89 x1 hh (by omega) (by omega) H)
   have hbl:=buildP b l
   have hlen:=cellsL_length l
   have hfz:=frzCk h t n' i' b (cellsL l)
   obtain ⟨R,hR⟩:∃ R,R=incT 32 n' i' t (l,false):=⟨_,rfl⟩
   rw [e0 R hR]
   rw [← hR] at hr hs
   clear x1 x2 e0 hR
   obtain ⟨x,q,f⟩:=R
   unfold prB at hr
   simp only [] at hr hs ⊢
   generalize decide (x.cmp h=0)=D at hs ⊢
   generalize cellsL l=L at hr hbl hlen hfz ⊢
   have h1:decide ((n':Int) < 1)=false:=by simp;omega
   have h2:decide ((32:Int) < (n':Int))=false:=by simp;omega
   have h3:decide ((i':Int) < 0)=false:=by simp
   have h4:decide ((n':Int)≤(i':Int))=false:=by simp;omega
   have h5:decide ((32:Int) < (L.length:Int))=false:=by simp;omega
   obtain ⟨k,nm,s,tb,kids⟩:=h
   obtain ⟨k',nm',s',tb',kids'⟩:=t
   obtain ⟨k2,nm2,s2,tb2,kids2⟩:=x
   simp only [Tm.cells] at hr hs hfz ⊢
   cases q with
   | nil =>
     simp only [cellsL] at hr
     cases b' <;> cases f <;> simp only [slV_nil_true,slV_nil_false] at hr <;> cases D
     all_goals
      refine to70s ?_
      refine κw tOk7 fe68.ok rfl ?_ hfz
      repeat' first | refine κn ?_ | refine κk ?_ | refine κc hr ?_ | refine κc (hs _) ?_ | (apply qBd;rfl;rfl;rfl;assumption;exact IsV.aggN) | refine κl ?_ | refine κt ?_ | refine κb ?_ ?_ | refine κg ?_ | refine κa ?_ | refine κf ?_ | intro hb
     all_goals first
      | rfl
      | (exfalso;clear h1 h2 h3 h4 hr hs;simp only [decide_eq_true_eq,decide_eq_false_iff_not] at *;omega)
      | (exfalso;clear hbl hfz hr hs;simp_all;done)
   | cons c r =>
     simp only [cellsL,slV_cons] at hr
     generalize cellsL r=L' at hr
     generalize c.cells=C at hr
     have h6:(((L'.length+1:Nat):Int) == 0)=false:=by simp;omega
     cases f
     all_goals
      refine to70s ?_
      refine κw tOk7 fe68.ok rfl ?_ hfz
      repeat' first | refine κn ?_ | refine κk ?_ | refine κc hr ?_ | (apply qBd;rfl;rfl;rfl;assumption;exact IsV.aggN) | refine κl ?_ | refine κt ?_ | refine κb ?_ ?_ | refine κg ?_ | refine κa ?_ | refine κf ?_ | intro hb
     all_goals first
      | rfl
      | (exfalso;clear h1 h2 h3 h4 hr hs;simp only [decide_eq_true_eq,decide_eq_false_iff_not] at *;omega)
      | (exfalso;clear hbl hfz hr hs;simp_all;done)
end Go.Vm.Seat
