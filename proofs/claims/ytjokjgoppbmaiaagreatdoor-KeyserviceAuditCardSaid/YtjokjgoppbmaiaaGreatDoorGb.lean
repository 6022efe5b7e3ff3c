/-
  The signed head of a log, and the heads that the document builds. Proofs of an extension: what the program reads out of one; both kinds of proofs as the document reads them.
-/
import Derived.Test.YtjokjgoppbmaiaaGreatDoorEh
import Derived.Test.YtjokjgoppbmaiaaGreatDoorFi
set_option maxHeartbeats 64000000
set_option maxRecDepth 100000
namespace Go.Vm.Seat
open Go.Proofs
theorem num_add {n:Int} (h0:0≤n) (h1:n≤9999):aBin E0 .add 9 (.str [110]) (.str (Lib.itoa n))=some (.str (110 :: Lib.itoa n)):=by
 have hl:=itoa_len h0 h1
 generalize Lib.itoa n=s at hl ⊢
 show aStr .add [110] s=_
 simp only [aStr]
 rw [if_pos (by simp;omega)]
 rfl
theorem numT_cells (n:Int):(numT n).cells= [.int .i64 2,.str (110 :: Lib.itoa n),.int .i64 4,.nils]:=atomT_cells _ _
theorem ok_numT {n:Int} (h0:0≤n) (h1:n≤9999):(numT n).Ok:=atom_ok (by have:=itoa_len h0 h1;simp;omega) (by decide) (by decide)
theorem ok_signT {h key:Tm} {n:Int} (hh:h.Ok) (hk:key.Ok) (h0:0≤n) (h1:n≤9999):(signT h n key).Ok:=ok2 (by decide) (ok2 (by decide) (okTag (by decide)) (ok2 (by decide) (ok_numT h0 h1) hh)) hk
theorem sz_signT (h:Tm) (n:Int) (key:Tm):(signT h n key).size=h.size+key.size+5:=by
 simp only [signT,bodyT,sizeT,numT,atomT,tagT,Tm.size,sizeL];omega
theorem ok_clT {t:Tm} (ht:t.Ok):t.cl.Ok:=by
 induction ht with
 | @mk k nm s b kids hk hs hn hl hok ih =>
   simp only [Tm.cl]
   refine .mk hk hs hn (by rw [cl_len];exact hl) fun u hu=> ?_
   rw [clL_map,List.mem_map] at hu
   obtain ⟨x,hx,rfl⟩:=hu
   exact ih x hx
theorem sign_ok (c:Tm→Tm) (hc:∀ t:Tm,t.Ok→(c t).Ok∧(c t).size=t.size) {h key:Tm} (n:Int) (hh:h.Ok) (hk:key.Ok):(signG c h n key).1.Ok∧(signG c h n key).1.size≤h.size+key.size+5:=by
 have hz:Tm.zero.Ok∧Tm.zero.size≤h.size+key.size+5:=⟨Tm.ok_zero,by simp [Tm.zero,Tm.size,sizeL]⟩
 unfold signG
 split; · exact hz
 split; · exact hz
 split; · exact hz
 split; · exact hz
 rename_i h3 _
 refine ⟨ok_signT (hc _ hh).1 (hc _ hk).1 (by omega) (by omega),?_⟩
 show (signT _ _ _).size≤_
 rw [sz_signT,(hc _ hh).2,(hc _ hk).2]
 exact Nat.le_refl _
theorem lss_t {a b:Int} (h:a < b):aBin E0 .lss 3 (.int .i64 a) (.int .i64 b)=some (.bool true):=by
 show some (PV.bool (decide (a < b)))=_
 rw [decide_eq_true h]
theorem lss_f {a b:Int} (h:¬ a < b):aBin E0 .lss 3 (.int .i64 a) (.int .i64 b)=some (.bool false):=by
 show some (PV.bool (decide (a < b)))=_
 rw [decide_eq_false h]
theorem gtr_t {a b:Int} (h:b < a):aBin E0 .gtr 3 (.int .i64 a) (.int .i64 b)=some (.bool true):=by
 show some (PV.bool (decide (b < a)))=_
 rw [decide_eq_true h]
theorem gtr_f {a b:Int} (h:¬ b < a):aBin E0 .gtr 3 (.int .i64 a) (.int .i64 b)=some (.bool false):=by
 show some (PV.bool (decide (b < a)))=_
 rw [decide_eq_false h]
theorem err_eq (e:Int):aBin E0 .neq 31 (.int .i64 e) (.int .i64 0)=some (.bool (decide (e≠0))):=by
 show some (PV.bool (!(e == 0)))=_
 by_cases h:e=0 <;> simp [h]
theorem c63 {h key:Tm} (hh:h.Ok) (hhs:h.size≤90000) (hk:key.Ok) (hks:key.size≤90000) (n:Int):∀ H,CallOk E0 Tryz.prog 63 [.agg h.cells,.int .i64 n,.agg key.cells] H (.tup [.agg (signG Tm.cl h n key).1.cells,.int .i64 (signG Tm.cl h n key).2]) H:=by
 have c1:=c48 hh (by omega)
 have c2:=c48 hk (by omega)
 have hfz:=frz3_te 0 hNil Tm.zero
 unfold signG
 by_cases v1:h.valid=0
 · rw [if_neg (not_not_intro v1)]
   rw [v1] at c1
   by_cases v2:key.valid=0
   · rw [if_neg (not_not_intro v2)]
     rw [v2] at c2
     by_cases v3:n < 0∨32 < n
     · rw [if_pos v3]
       have hfr:=hfz 7
       clear hhs hks hh hk v1 v2
       obtain ⟨k,nm,s,b,kids⟩:=h
       obtain ⟨k1,nm1,s1,b1,kids1⟩:=key
       simp only [Tm.cells] at c1 c2 ⊢
       by_cases v4:n < 0
       · have b1 := lss_t v4
         refine κw tOk fe63.ok hfr ?_
         repeat' first | refine κn ?_ | refine κk ?_ | refine κc (c1 _) ?_ | refine κc (c2 _) ?_ | refine κi ?_ | refine κt ?_ | refine κg ?_ | refine κa ?_ | refine κf ?_ | fail
         all_goals (rw [zero_cells];rfl)
       · have b1 := lss_f v4
         have b2:=gtr_t (a:=n) (b:=32) (by omega)
         refine κw tOk fe63.ok hfr ?_
         repeat' first | refine κn ?_ | refine κc (c1 _) ?_ | refine κc (c2 _) ?_ | refine κi ?_ | refine κt ?_ | refine κg ?_ | refine κa ?_ | refine κf ?_ | fail
         all_goals (rw [zero_cells];rfl)
     · rw [if_neg v3]
       have n0:0≤n:=by omega
       have n1:n≤9999:=by omega
       have b1:=lss_f (a:=n) (b:=0) (by omega)
       have b2:=gtr_f (a:=n) (b:=32) (by omega)
       have had:=num_add n0 n1
       have ci:=c130 n0 n1
       have p1:=c128 hh (by omega)
       have p2:=c128 hk (by omega)
       have ct:=c132 ledgerN
       have a1:=app2 pairN (numT n) h.cl
       have a2:=app2 pairN (tagT ledgerN) (sizeT n h.cl)
       have a3:=app2 signN (bodyT n h.cl) key.cl
       rw [numT_cells] at a1
       have hS:=ok_signT (n:=n) (ok_clT hh) (ok_clT hk) n0 n1
       have hSs:=sz_signT h.cl n key.cl
       rw [cl_size,cl_size] at hSs
       have c3:=c48 hS (by omega)
       have e1:Tm.mk 3 signN 0 true [bodyT n h.cl,key.cl]=signT h.cl n key.cl:=rfl
       have e2:Tm.mk 3 pairN 0 true [tagT ledgerN,sizeT n h.cl]=bodyT n h.cl:=rfl
       have e3:Tm.mk 3 pairN 0 true [numT n,h.cl]=sizeT n h.cl:=rfl
       rw [e1] at a3
       rw [e2] at a2
       rw [e3] at a1
       clear e1 e2 e3 hS hSs hhs hks hh hk v1 v2 v3 n0 n1
       generalize signT h.cl n key.cl=S at a3 c3 ⊢
       generalize bodyT n h.cl=B at a2 a3
       generalize sizeT n h.cl=Z at a1 a2
       generalize tagT ledgerN=G at ct a2
       generalize Lib.itoa n=s0 at had ci a1
       generalize h.cl=h' at p1 a1
       generalize key.cl=k' at p2 a3
       generalize S.valid=e at c3 ⊢
       have be:=err_eq e
       have hfr:=frz3_te 0 hNil (if e≠0 then (Tm.zero,(3:Int)) else (S,0)).1 (if e≠0 then (Tm.zero,(3:Int)) else (S,0)).2
       have hfS:=fun m H=>frz3_te m H S 0
       obtain ⟨k,nm,s,b,kids⟩:=h
       obtain ⟨k1,nm1,s1,b1',kids1⟩:=key
       obtain ⟨k2,nm2,s2,b2',kids2⟩:=S
       obtain ⟨k3,nm3,s3,b3',kids3⟩:=B
       obtain ⟨k4,nm4,s4,b4',kids4⟩:=Z
       obtain ⟨k5,nm5,s5,b5',kids5⟩:=G
       obtain ⟨k6,nm6,s6,b6',kids6⟩:=h'
       obtain ⟨k7,nm7,s7,b7',kids7⟩:=k'
       simp only [Tm.cells] at c1 c2 c3 p1 p2 ct a1 a2 a3 hfS ⊢
       by_cases v5:e=0
       · rw [decide_eq_false (not_not_intro v5)] at be
         rw [if_neg (not_not_intro v5)] at hfr ⊢
         refine callOk_wp (own:=fun d=>Nat.beq d 30013) tOk fe63.ok (by simp only [frzGL,frzG,frzL,frz1_slV];rfl) hfr ?_
         refine Wp.seq ?_
         repeat' first | refine κn ?_ | (apply qCl;rfl;rfl;rfl;rfl;first | exact c1 _ | exact c2 _ | exact ci _ | exact c3 _) | refine κi ?_ | refine κt ?_ | refine κg ?_ | (apply dCl;rfl;rfl;rfl;rfl;rfl;first | exact ct _ | exact p1 _ | exact p2 _ | exact a1 _ | exact a2 _ | exact a3 _) | (apply dAl;rfl;rfl;rfl;rfl;exact IsV.ptrM;exact IsH.mkN) | refine κB ?_ | refine κh ?_ | refine κa ?_ | (apply dWB tOk follows;rfl;kernel_rfl;rfl;exact IsH.mkN) | refine κf ?_ | fail
         all_goals exact hfS _ _
       · rw [decide_eq_true v5] at be
         rw [if_pos v5] at hfr ⊢
         refine callOk_wp (own:=fun d=>Nat.beq d 30013) tOk fe63.ok (by simp only [frzGL,frzG,frzL,frz1_slV];rfl) hfr ?_
         refine Wp.seq ?_
         repeat' first | refine κn ?_ | (apply qCl;rfl;rfl;rfl;rfl;first | exact c1 _ | exact c2 _ | exact ci _ | exact c3 _) | refine κi ?_ | refine κt ?_ | refine κg ?_ | (apply dCl;rfl;rfl;rfl;rfl;rfl;first | exact ct _ | exact p1 _ | exact p2 _ | exact a1 _ | exact a2 _ | exact a3 _) | (apply dAl;rfl;rfl;rfl;rfl;exact IsV.ptrM;exact IsH.mkN) | refine κB ?_ | refine κh ?_ | refine κa ?_ | (apply dWB tOk follows;rfl;kernel_rfl;rfl;exact IsH.mkN) | refine κf ?_ | fail
         all_goals (rw [zero_cells];rfl)
   · rw [if_pos v2]
     have hfr:=hfz key.valid
     have be:=err_eq key.valid
     rw [decide_eq_true v2] at be
     clear hhs hks hh hk v1 v2
     generalize key.valid=e at c2 hfr be ⊢
     obtain ⟨k,nm,s,b,kids⟩:=h
     obtain ⟨k1,nm1,s1,b1,kids1⟩:=key
     simp only [Tm.cells] at c1 c2 ⊢
     refine κw tOk fe63.ok hfr ?_
     repeat' first | refine κn ?_ | refine κc (c1 _) ?_ | refine κc (c2 _) ?_ | refine κi ?_ | refine κt ?_ | refine κg ?_ | refine κa ?_ | refine κf ?_ | fail
     all_goals (rw [zero_cells];rfl)
 · rw [if_pos v1]
   have hfr:=hfz h.valid
   have be:=err_eq h.valid
   rw [decide_eq_true v1] at be
   clear c2 hhs hks hh hk v1
   generalize h.valid=e at c1 hfr be ⊢
   obtain ⟨k,nm,s,b,kids⟩:=h
   obtain ⟨k1,nm1,s1,b1,kids1⟩:=key
   simp only [Tm.cells] at c1 ⊢
   refine κw tOk fe63.ok hfr ?_
   repeat' first | refine κn ?_ | refine κc (c1 _) ?_ | refine κi ?_ | refine κg ?_ | refine κa ?_ | refine κf ?_ | fail
   all_goals (rw [zero_cells];rfl)
theorem rapp1 (nm:Bs) (x:Tm):∀ H,CallOk E0 Tryz.prog 41 [.str nm,.sl .full 4 [x.cells]] H (.agg (Tm.mk 3 nm 0 true [x]).cells) H:=fun H=>by
 have:=c41 nm (l:=[x]) (by simp) true H
 simp only [Tm.cells,cellsL,slV_cons] at this ⊢
 exact callOk_frz this rfl
theorem rapp2 (nm:Bs) (x y:Tm):∀ H,CallOk E0 Tryz.prog 41 [.str nm,.sl .full 4 [x.cells,y.cells]] H (.agg (Tm.mk 3 nm 0 true [x,y]).cells) H:=fun H=>by
 have:=c41 nm (l:=[x,y]) (by simp) true H
 simp only [Tm.cells,cellsL,slV_cons] at this ⊢
 exact callOk_frz this rfl
theorem c181 (nm:Bs):∀ H,CallOk E0 Tryz.prog 181 [.str nm] H (.agg (tagT nm).cells) H:=by
 have hc:=c42 nm 5
 have e:atomT nm 5=tagT nm:=rfl
 rw [e] at hc
 have hf:=frz3_cells 0 hNil (tagT nm)
 generalize tagT nm=G at hc hf ⊢
 obtain ⟨k,nm',s,b,kids⟩:=G
 simp only [Tm.cells] at hc hf ⊢
 refine κw tOk fe181.ok hf ?_
 repeat' first | refine κn ?_ | refine κc (hc _) ?_ | refine κg ?_ | refine κa ?_ | refine κf ?_ | fail
 all_goals exact frz3_tm _ _ _ _ _ _ _
theorem c256 (a b:Tm):∀ H,CallOk E0 Tryz.prog 256 [.agg a.cells,.agg b.cells] H (.agg (Tm.mk 3 hashN 0 true [.mk 3 pairN 0 true [a,b]]).cells) H:=by
 have h2:=rapp2 pairN a b
 have h3:=rapp1 hashN (Tm.mk 3 pairN 0 true [a,b])
 have hfr:=frz3_cells 0 hNil (Tm.mk 3 hashN 0 true [.mk 3 pairN 0 true [a,b]])
 generalize Tm.mk 3 hashN 0 true [Tm.mk 3 pairN 0 true [a,b]]=R at h3 hfr ⊢
 generalize Tm.mk 3 pairN 0 true [a,b]=Q at h2 h3
 obtain ⟨k,nm,s,tb,kids⟩:=a
 obtain ⟨k1,nm1,s1,b1,kids1⟩:=R
 obtain ⟨k2,nm2,s2,b2,kids2⟩:=Q
 obtain ⟨k3,nm3,s3,b3,kids3⟩:=b
 simp only [Tm.cells] at h2 h3 hfr ⊢
 refine κw tOk fe256.ok hfr ?_
 repeat' first | refine κn ?_ | refine κc (h2 _) ?_ | refine κc (h3 _) ?_ | refine κs ?_ | refine κg ?_ | refine κa ?_ | refine κf ?_ | fail
 all_goals exact frz3_tm _ _ _ _ _ _ _
theorem c215 (t:Tm):∀ H,CallOk E0 Tryz.prog 215 [.agg t.cells] H (.agg (leafT t).cells) H:=by
 have h1:=c181 leafN
 have h2:=c256 (tagT leafN) t
 have e:Tm.mk 3 hashN 0 true [.mk 3 pairN 0 true [tagT leafN,t]]=leafT t:=rfl
 rw [e] at h2
 have hfr:=frz3_cells 0 hNil (leafT t)
 generalize leafT t=R at h2 hfr ⊢
 generalize tagT leafN=G at h1 h2
 obtain ⟨k,nm,s,b,kids⟩:=t
 obtain ⟨k1,nm1,s1,b1,kids1⟩:=R
 obtain ⟨k2,nm2,s2,b2,kids2⟩:=G
 simp only [Tm.cells] at h1 h2 hfr ⊢
 refine κw tOk fe215.ok hfr ?_
 repeat' first | refine κn ?_ | refine κg ?_ | refine κd (h1 _) ?_ | refine κd (h2 _) ?_ | refine κh ?_ | refine κa ?_ | (apply Wp.drawS tOk follows;kernel_rfl;rfl) | refine κf ?_ | fail
 all_goals exact frz3_tm _ _ _ _ _ _ _
theorem c217 (x y:Tm):∀ H,CallOk E0 Tryz.prog 217 [.agg x.cells,.agg y.cells] H (.agg (nodeT x y).cells) H:=by
 have h1:=c181 nodeN
 have h2:=rapp2 pairN x y
 have h3:=c256 (tagT nodeN) (Tm.mk 3 pairN 0 true [x,y])
 have e:Tm.mk 3 hashN 0 true [.mk 3 pairN 0 true [tagT nodeN,Tm.mk 3 pairN 0 true [x,y]]]=nodeT x y:=rfl
 rw [e] at h3
 have hfr:=frz3_cells 0 hNil (nodeT x y)
 generalize nodeT x y=R at h3 hfr ⊢
 generalize Tm.mk 3 pairN 0 true [x,y]=Q at h2 h3
 generalize tagT nodeN=G at h1 h3
 obtain ⟨k,nm,s,b,kids⟩:=x
 obtain ⟨k1,nm1,s1,b1,kids1⟩:=R
 obtain ⟨k2,nm2,s2,b2,kids2⟩:=G
 obtain ⟨k3,nm3,s3,b3,kids3⟩:=y
 obtain ⟨k4,nm4,s4,b4,kids4⟩:=Q
 simp only [Tm.cells] at h1 h2 h3 hfr ⊢
 refine κw tOk fe217.ok hfr ?_
 repeat' first | refine κn ?_ | refine κg ?_ | (apply dCl;rfl;rfl;rfl;rfl;rfl;first | exact h1 _ | exact h2 _ | exact h3 _) | refine κB ?_ | refine κh ?_ | refine κa ?_ | (apply Wp.drawS tOk follows;kernel_rfl;rfl) | refine κf ?_ | fail
 all_goals exact frz3_tm _ _ _ _ _ _ _
theorem splitAll:((List.range 33).all fun n=>okFact E0 100 60 ⟨216,[.int .i64 (n:Int)],.int .i64 (halfN n:Int)⟩)=true:=by kernel_rfl
theorem c216 {n:Nat} (h:n≤32):∀ H,CallOk E0 Tryz.prog 216 [.int .i64 (n:Int)] H (.int .i64 (halfN n:Int)) H:=
 okFact_ok tOk follows fOk zOk (List.all_eq_true.1 splitAll n (List.mem_range.2 (by omega)))
theorem c153 {t:Tm} (ht:t.Ok) (hs:t.size≤1000000):∀ H,CallOk E0 Tryz.prog 153 [.agg t.cells] H (.int .i64 (if t.valid≠0 then 3 else 0)) H:=by
 have c1:=c50 ht (by omega)
 have be:=err_eq t.valid
 clear ht hs
 generalize t.valid=e at c1 be ⊢
 obtain ⟨k,nm,s,b,kids⟩:=t
 simp only [Tm.cells] at c1 ⊢
 by_cases v:e=0
 · rw [decide_eq_false (not_not_intro v)] at be
   rw [if_neg (not_not_intro v)]
   refine κw tOk fe153.ok rfl ?_
   repeat' first | refine κn ?_ | refine κc (c1 _) ?_ | refine κi ?_ | refine κg ?_ | refine κa ?_ | refine κf ?_ | fail
   all_goals rfl
 · rw [decide_eq_true v] at be
   rw [if_pos v]
   refine κw tOk fe153.ok rfl ?_
   repeat' first | refine κn ?_ | refine κc (c1 _) ?_ | refine κi ?_ | refine κg ?_ | refine κa ?_ | refine κf ?_ | fail
   all_goals rfl
theorem c164 (h key:Tm) {n:Int} (n0:0≤n) (n1:n≤9999):∀ H,CallOk E0 Tryz.prog 164 [.agg h.cells,.int .i64 n,.agg key.cells] H (.agg (signT h n key).cells) H:=by
 have had:=num_add n0 n1
 have hc:∀ H,CallOk E0 Tryz.prog 226 [.int .i64 n] H (.str (Lib.itoa n)) H:=by
  obtain ⟨u,rfl⟩:∃ u:Nat,n=(u:Int):=⟨n.toNat,by omega⟩
  have e:Lib.itoa (u:Int)=Lib.decDigits u:=by
   unfold Lib.itoa
   rw [if_neg (by omega)]
   rfl
  rw [e]
  exact digits_dec 5 u (by omega) (by omega)
 have hat:=c42 (110 :: Lib.itoa n) 4
 have ct:=c181 ledgerN
 have a1:=rapp2 pairN (numT n) h
 have a2:=rapp2 pairN (tagT ledgerN) (sizeT n h)
 have a3:=rapp2 signN (bodyT n h) key
 have e0:atomT (110 :: Lib.itoa n) 4=numT n:=rfl
 have e1:Tm.mk 3 signN 0 true [bodyT n h,key]=signT h n key:=rfl
 have e2:Tm.mk 3 pairN 0 true [tagT ledgerN,sizeT n h]=bodyT n h:=rfl
 have e3:Tm.mk 3 pairN 0 true [numT n,h]=sizeT n h:=rfl
 rw [e0] at hat
 rw [e1] at a3
 rw [e2] at a2
 rw [e3] at a1
 have hfr:=frz3_cells 0 hNil (signT h n key)
 clear e0 e1 e2 e3 n0 n1
 generalize signT h n key=S at a3 hfr ⊢
 generalize bodyT n h=B at a2 a3
 generalize sizeT n h=Z at a1 a2
 generalize tagT ledgerN=G at ct a2
 generalize numT n=N at hat a1
 generalize Lib.itoa n=s0 at had hc hat
 obtain ⟨k,nm,s,b,kids⟩:=h
 obtain ⟨k1,nm1,s1,b1',kids1⟩:=key
 obtain ⟨k2,nm2,s2,b2',kids2⟩:=S
 obtain ⟨k3,nm3,s3,b3',kids3⟩:=B
 obtain ⟨k4,nm4,s4,b4',kids4⟩:=Z
 obtain ⟨k5,nm5,s5,b5',kids5⟩:=G
 obtain ⟨k6,nm6,s6,b6',kids6⟩:=N
 simp only [Tm.cells] at hat ct a1 a2 a3 hfr ⊢
 refine κw tOk fe164.ok hfr ?_
 repeat' first | refine κn ?_ | refine κc (hc _) ?_ | refine κc (hat _) ?_ | refine κi ?_ | refine κg ?_ | (apply dCl;rfl;rfl;rfl;rfl;rfl;first | exact ct _ | exact a1 _ | exact a2 _ | exact a3 _) | refine κB ?_ | refine κh ?_ | refine κa ?_ | (apply Wp.drawS tOk follows;kernel_rfl;rfl) | refine κf ?_ | fail
 all_goals exact frz3_tm _ _ _ _ _ _ _
theorem c81 {h key:Tm} (hh:h.Ok) (hhs:h.size≤90000) (hk:key.Ok) (hks:key.size≤90000) (n:Int):∀ H,CallOk E0 Tryz.prog 81 [.agg h.cells,.int .i64 n,.agg key.cells] H (.tup [.agg (signG id h n key).1.cells,.int .i64 (signG id h n key).2]) H:=by
 have c1:=c50 hh (by omega)
 have c2:=c50 hk (by omega)
 have hfz:=frz3_te 0 hNil Tm.zero
 unfold signG
 by_cases v1:h.valid=0
 · rw [if_neg (not_not_intro v1)]
   rw [v1] at c1
   by_cases v2:key.valid=0
   · rw [if_neg (not_not_intro v2)]
     rw [v2] at c2
     by_cases v3:n < 0∨32 < n
     · rw [if_pos v3]
       have hfr:=hfz 7
       clear hhs hks hh hk v1 v2
       obtain ⟨k,nm,s,b,kids⟩:=h
       obtain ⟨k1,nm1,s1,b1,kids1⟩:=key
       simp only [Tm.cells] at c1 c2 ⊢
       by_cases v4:n < 0
       · have b1 := lss_t v4
         refine κw tOk fe81.ok hfr ?_
         repeat' first | refine κn ?_ | refine κk ?_ | refine κc (c1 _) ?_ | refine κc (c2 _) ?_ | refine κi ?_ | refine κt ?_ | refine κg ?_ | refine κa ?_ | refine κf ?_ | fail
         all_goals (rw [zero_cells];rfl)
       · have b1 := lss_f v4
         have b2:=gtr_t (a:=n) (b:=32) (by omega)
         refine κw tOk fe81.ok hfr ?_
         repeat' first | refine κn ?_ | refine κc (c1 _) ?_ | refine κc (c2 _) ?_ | refine κi ?_ | refine κt ?_ | refine κg ?_ | refine κa ?_ | refine κf ?_ | fail
         all_goals (rw [zero_cells];rfl)
     · rw [if_neg v3]
       have n0:0≤n:=by omega
       have n1:n≤9999:=by omega
       have b1:=lss_f (a:=n) (b:=0) (by omega)
       have b2:=gtr_f (a:=n) (b:=32) (by omega)
       have cs:=c164 h key n0 n1
       have hS:=ok_signT (n:=n) hh hk n0 n1
       have hSs:=sz_signT h n key
       have c3:=c153 hS (by omega)
       simp only [id]
       clear hS hSs hhs hks hh hk v1 v2 v3 n0 n1
       generalize signT h n key=S at cs c3 ⊢
       generalize S.valid=e at c3 ⊢
       have hfr:=frz3_te 0 hNil (if e≠0 then (Tm.zero,(3:Int)) else (S,0)).1 (if e≠0 then (Tm.zero,(3:Int)) else (S,0)).2
       have hfS:=fun m H=>frz3_te m H S 0
       obtain ⟨k,nm,s,b,kids⟩:=h
       obtain ⟨k1,nm1,s1,b1',kids1⟩:=key
       obtain ⟨k2,nm2,s2,b2',kids2⟩:=S
       simp only [Tm.cells] at c1 c2 c3 cs hfS ⊢
       by_cases v5:e=0
       · rw [if_neg (not_not_intro v5)] at hfr c3 ⊢
         refine κw tOk fe81.ok hfr ?_
         repeat' first | refine κn ?_ | (apply qCl;rfl;rfl;rfl;rfl;first | exact c1 _ | exact c2 _ | exact cs _ | exact c3 _) | refine κi ?_ | refine κt ?_ | refine κg ?_ | refine κa ?_ | refine κf ?_ | fail
         all_goals exact hfS _ _
       · rw [if_pos v5] at hfr c3 ⊢
         refine κw tOk fe81.ok hfr ?_
         repeat' first | refine κn ?_ | (apply qCl;rfl;rfl;rfl;rfl;first | exact c1 _ | exact c2 _ | exact cs _ | exact c3 _) | refine κi ?_ | refine κt ?_ | refine κg ?_ | refine κa ?_ | refine κf ?_ | fail
         all_goals (rw [zero_cells];rfl)
   · rw [if_pos v2]
     have hfr:=hfz key.valid
     have be:=err_eq key.valid
     rw [decide_eq_true v2] at be
     clear hhs hks hh hk v1 v2
     generalize key.valid=e at c2 hfr be ⊢
     obtain ⟨k,nm,s,b,kids⟩:=h
     obtain ⟨k1,nm1,s1,b1,kids1⟩:=key
     simp only [Tm.cells] at c1 c2 ⊢
     refine κw tOk fe81.ok hfr ?_
     repeat' first | refine κn ?_ | refine κc (c1 _) ?_ | refine κc (c2 _) ?_ | refine κi ?_ | refine κt ?_ | refine κg ?_ | refine κa ?_ | refine κf ?_ | fail
     all_goals (rw [zero_cells];rfl)
 · rw [if_pos v1]
   have hfr:=hfz h.valid
   have be:=err_eq h.valid
   rw [decide_eq_true v1] at be
   clear c2 hhs hks hh hk v1
   generalize h.valid=e at c1 hfr be ⊢
   obtain ⟨k,nm,s,b,kids⟩:=h
   obtain ⟨k1,nm1,s1,b1,kids1⟩:=key
   simp only [Tm.cells] at c1 ⊢
   refine κw tOk fe81.ok hfr ?_
   repeat' first | refine κn ?_ | refine κc (c1 _) ?_ | refine κi ?_ | refine κg ?_ | refine κa ?_ | refine κf ?_ | fail
   all_goals (rw [zero_cells];rfl)
end Go.Vm.Seat
namespace Go.Vm.Seat
open Go.Proofs
theorem ext_okT {S : Nat} (hS : 1 ≤ S) {old : Tm} (ho : old.Ok) (hos : old.size ≤ S) : ∀ (f n m : Nat) (w : Bool) {p : List Tm × Bool}, (∀ x, x ∈ p.1 → x.Ok ∧ x.size ≤ S) →
  ((extT f n m w old p).1.1.Ok∧(extT f n m w old p).1.1.size≤(f+1) * (S+4))∧((extT f n m w old p).1.2.Ok∧(extT f n m w old p).1.2.size≤(f+1) * (S+4))∧∀ x,x∈(extT f n m w old p).2.1→x.Ok∧x.size≤S
 | 0, n, m, w, p, hp => by
   have hz:Tm.zero.Ok∧Tm.zero.size≤(0+1) * (S+4):=⟨Tm.ok_zero,by simp [Tm.zero,Tm.size,sizeL]⟩
   exact ⟨hz,hz,hp⟩
 | f + 1, n, m, w, p, hp => by
   have e:(f+1+1) * (S+4)=(f+1) * (S+4)+(S+4):=by rw [Nat.succ_mul]
   have e0:S≤(f+1+1) * (S+4):=by rw [e];omega
   simp only [extT]
   split
   · split
     · exact ⟨⟨ho,by simp only [];omega⟩,⟨ho,by simp only [];omega⟩,hp⟩
     · obtain ⟨b1, b2, b3⟩ := next_okT hS hp
       exact ⟨⟨b1,by simp only [];omega⟩,⟨b1,by simp only [];omega⟩,b3⟩
   · split
     · obtain ⟨⟨a1, a2⟩, ⟨a3, a4⟩, a5⟩ := ext_okT hS ho hos f n (halfN m) w hp
       obtain ⟨b1,b2,b3⟩:=next_okT hS a5
       refine ⟨⟨a1,by simp only [];omega⟩,⟨ok_nodeT a3 b1,?_⟩,b3⟩
       simp only [sz_nodeT];omega
     · obtain ⟨⟨a1, a2⟩, ⟨a3, a4⟩, a5⟩ := ext_okT hS ho hos f (n - halfN m) (m - halfN m) false hp
       obtain ⟨b1,b2,b3⟩:=next_okT hS a5
       refine ⟨⟨ok_nodeT b1 a1,?_⟩,⟨ok_nodeT b1 a3,?_⟩,b3⟩
       all_goals (simp only [sz_nodeT];omega)
theorem frzCe (h t:Tm) (n i:Int) (b:Bool) (L:List (List PV)):frzGL [.agg h.cells,.int .i64 n,.agg t.cells,.int .i64 i,slV b 4 L]=some [.agg h.cells,.int .i64 n,.agg t.cells,.int .i64 i,slV b 4 L]:=by
 obtain ⟨k,nm,s,tb,kids⟩:=h
 obtain ⟨k',nm',s',tb',kids'⟩:=t
 simp only [Tm.cells]
 have e1:∀ (k:Int) (nm:List UInt8) (s:Int) (tb:Bool) (kids:List Tm),frzG (.agg [.int .i64 k,.str nm,.int .i64 s,slV tb 4 (cellsL kids)])=some (.agg [.int .i64 k,.str nm,.int .i64 s,slV tb 4 (cellsL kids)]):=fun k nm s tb kids=>by
  simp only [frzG,frzL,frz1_slV];rfl
 simp only [frzGL,frzG_slV,e1]
 rfl
end Go.Vm.Seat
