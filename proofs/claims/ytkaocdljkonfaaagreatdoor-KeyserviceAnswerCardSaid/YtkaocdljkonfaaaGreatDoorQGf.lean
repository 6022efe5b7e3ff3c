/-
  The signed head of a log, and the heads that the document builds. Proofs of an extension: what the program reads out of one; both kinds of proofs as t
-/
import Derived.Test.YtkaocdljkonfaaaGreatDoorQEh
import Derived.Test.YtkaocdljkonfaaaGreatDoorQFj
set_option maxHeartbeats 64000000
set_option maxRecDepth 100000
namespace Go.Vm.Seat
variable {a b n:Int} {h key t x y z:Tm}
open Go.Proofs
theorem Zid (h0:0≤n) (h1:n≤9999):ZQ E0 .add 9 (.str [110]) (.str (Lib.itoa n))=some (.str (110::Lib.itoa n)):=by
 have hl:=Us h0 h1
 generalize Lib.itoa n=s at hl ⊢
 show Zfj .add [110] s=_
 simp only [Zfj]
 rw [if_pos (by simp;omega)]
 rfl
theorem ZfE (n:Int):(Qn n).cells= [.int .i64 2,.str (110::Lib.itoa n),.int .i64 4,.nils]:=ZD _ _
theorem ZkD (h0:0≤n) (h1:n≤9999):(Qn n).Ok:=UU (by have:=Us h0 h1;simp;omega) (by decide) (by decide)
theorem Zca (hh:h.Ok) (hk:key.Ok) (h0:0≤n) (h1:n≤9999):(Wb h n key).Ok:=ok2 (by decide) (ok2 (by decide) (Zjl (by decide)) (ok2 (by decide) (ZkD h0 h1) hh)) hk
theorem ZbA (h:Tm) (n:Int) (key:Tm):(Wb h n key).size=h.size+key.size+5:=by
 simp only [Wb,U5,U4,Qn,Yl,Wv,Tm.size,Zz];omega
theorem VV (ht:t.Ok):t.cl.Ok:=by
 induction ht with
 | @mk k nm s b kids hk hs hn hl hok ih =>
   simp only [Tm.cl]
   refine .mk hk hs hn (by rw [W9];exact hl) fun u hu=>?_
   rw [Xx,List.mem_map] at hu
   obtain ⟨x,hx,rfl⟩:=hu
   exact ih x hx
theorem Zhb (c:Tm→Tm) (hc:∀ t:Tm,t.Ok→(c t).Ok∧(c t).size=t.size) (n:Int) (hh:h.Ok) (hk:key.Ok):(YI c h n key).1.Ok∧(YI c h n key).1.size≤h.size+key.size+5:=by
 have hz:Tm.zero.Ok∧Tm.zero.size≤h.size+key.size+5:=⟨Tm.ok_zero,by simp [Tm.zero,Tm.size,Zz]⟩
 unfold YI
 split; · exact hz
 split; · exact hz
 split; · exact hz
 split; · exact hz
 rename_i h3 _
 refine ⟨Zca (hc _ hh).1 (hc _ hk).1 (by omega) (by omega),?_⟩
 show (Wb _ _ _).size≤_
 rw [ZbA,(hc _ hh).2,(hc _ hk).2]
 exact Nat.le_refl _
theorem Wa (h:a<b):ZQ E0 .lss 3 (.int .i64 a) (.int .i64 b)=some (.bool true):=by
 show some (PV.bool (decide (a<b)))=_
 rw [decide_eq_true h]
theorem Xe (h:¬ a<b):ZQ E0 .lss 3 (.int .i64 a) (.int .i64 b)=some (.bool false):=by
 show some (PV.bool (decide (a<b)))=_
 rw [decide_eq_false h]
theorem ZdK (h:b<a):ZQ E0 .gtr 3 (.int .i64 a) (.int .i64 b)=some (.bool true):=by
 show some (PV.bool (decide (b<a)))=_
 rw [decide_eq_true h]
theorem ZbB (h:¬ b<a):ZQ E0 .gtr 3 (.int .i64 a) (.int .i64 b)=some (.bool false):=by
 show some (PV.bool (decide (b<a)))=_
 rw [decide_eq_false h]
theorem YE (e:Int):ZQ E0 .neq 32 (.int .i64 e) (.int .i64 0)=some (.bool (decide (e≠0))):=by
 show some (PV.bool (!(e==0)))=_
 by_cases h:e=0<;>simp [h]
theorem c41 (hh:h.Ok) (hhs:h.size≤90000) (hk:key.Ok) (hks:key.size≤90000) (n:Int):∀ H,CallOk E0 Tryz.prog 41 [.agg h.cells,.int .i64 n,.agg key.cells] H (.tup [.agg (YI Tm.cl h n key).1.cells,.int .i64 (YI Tm.cl h n key).2]) H:=by
 have c1:=c74 hh (by omega)
 have c2:=c74 hk (by omega)
 have hfz:=Yy 0 hNil Tm.zero
 unfold YI
 by_cases v1:h.valid=0
 · rw [if_neg (not_not_intro v1)]
   rw [v1] at c1
   by_cases v2:key.valid=0
   · rw [if_neg (not_not_intro v2)]
     rw [v2] at c2
     by_cases v3:n<0∨32<n
     · rw [if_pos v3]
       have hfr:=hfz 7
       clear hhs hks hh hk v1 v2
       obtain ⟨k,nm,s,b,kids⟩:=h
       obtain ⟨k1,nm1,s1,b1,kids1⟩:=key
       simp only [Tm.cells] at c1 c2 ⊢
       by_cases v4:n<0
       · have b1 := Wa v4
         refine Jw tOk fe41.ok hfr ?_
         repeat' first|refine Jk ?_|refine Jc (c1 _) ?_|refine Jc (c2 _) ?_|refine Ji ?_|refine Jt ?_|refine Jo ?_|fail
         all_goals (rw [Zq];rfl)
       · have b1 := Xe v4
         have b2:=ZdK (a:=n) (b:=32) (by omega)
         refine Jw tOk fe41.ok hfr ?_
         repeat' first|refine Jc (c1 _) ?_|refine Jc (c2 _) ?_|refine Ji ?_|refine Jt ?_|refine Jo ?_|fail
         all_goals (rw [Zq];rfl)
     · rw [if_neg v3]
       have n0:0≤n:=by omega
       have n1:n≤9999:=by omega
       have b1:=Xe (a:=n) (b:=0) (by omega)
       have b2:=ZbB (a:=n) (b:=32) (by omega)
       have had:=Zid n0 n1
       have ci:=c82 n0 n1
       have p1:=c80 hh (by omega)
       have p2:=c80 hk (by omega)
       have ct:=c84 W6
       have a1:=ZlW YC (Qn n) h.cl
       have a2:=ZlW YC (Wv W6) (U4 n h.cl)
       have a3:=ZlW Zhx (U5 n h.cl) key.cl
       rw [ZfE] at a1
       have hS:=Zca (n:=n) (VV hh) (VV hk) n0 n1
       have hSs:=ZbA h.cl n key.cl
       rw [Xq,Xq] at hSs
       have c3:=c74 hS (by omega)
       have e1:Tm.mk 3 Zhx 0 true [U5 n h.cl,key.cl]=Wb h.cl n key.cl:=rfl
       have e2:Tm.mk 3 YC 0 true [Wv W6,U4 n h.cl]=U5 n h.cl:=rfl
       have e3:Tm.mk 3 YC 0 true [Qn n,h.cl]=U4 n h.cl:=rfl
       rw [e1] at a3
       rw [e2] at a2
       rw [e3] at a1
       clear e1 e2 e3 hS hSs hhs hks hh hk v1 v2 v3 n0 n1
       generalize Wb h.cl n key.cl=S at a3 c3 ⊢
       generalize U5 n h.cl=B at a2 a3
       generalize U4 n h.cl=Z at a1 a2
       generalize Wv W6=G at ct a2
       generalize Lib.itoa n=s0 at had ci a1
       generalize h.cl=h' at p1 a1
       generalize key.cl=k' at p2 a3
       generalize S.valid=e at c3 ⊢
       have be:=YE e
       have hfr:=Yy 0 hNil (if e≠0 then (Tm.zero,(3:Int)) else (S,0)).1 (if e≠0 then (Tm.zero,(3:Int)) else (S,0)).2
       have hfS:=fun m H=>Yy m H S 0
       obtain ⟨k,nm,s,b,kids⟩:=h
       obtain ⟨k1,nm1,s1,b1',kids1⟩:=key
       obtain ⟨k2,nm2,s2,b2',kids2⟩:=S
       obtain ⟨k3,nm3,s3,b3',kids3⟩:=B
       obtain ⟨k4,nm4,s4,b4',kids4⟩:=Z
       obtain ⟨k5,nm5,s5,b5',kids5⟩:=G
       obtain ⟨k6,nm6,s6,b6',kids6⟩:=h'
       obtain ⟨k7,nm7,s7,b7',kids7⟩:=k'
       simp only [Tm.cells] at c1 c2 c3 p1 p2 ct a1 a2 a3 hfS ⊢
       by_cases v5:e=0
       · rw [decide_eq_false (not_not_intro v5)] at be
         rw [if_neg (not_not_intro v5)] at hfr ⊢
         refine Zt (own:=fun d=>Nat.beq d 30013) tOk fe41.ok (by simp only [ZZ,frzG,Vc,Z5];rfl) hfr ?_
         refine Wp.seq ?_
         repeat' first|(apply qCl;rfl;rfl;rfl;rfl;first|exact c1 _|exact c2 _|exact ci _|exact c3 _)|refine Ji ?_|refine Jt ?_|refine Jo ?_|(apply dCl;rfl;rfl;rfl;rfl;rfl;first|exact ct _|exact p1 _|exact p2 _|exact a1 _|exact a2 _|exact a3 _)|(apply dAl;rfl;rfl;rfl;rfl;exact IsV.ptrM;exact IsH.mkN)|refine JB ?_|refine Jh ?_|(apply dWB tOk follows;rfl;kernel_rfl;rfl;exact IsH.mkN)|fail
         all_goals exact hfS _ _
       · rw [decide_eq_true v5] at be
         rw [if_pos v5] at hfr ⊢
         refine Zt (own:=fun d=>Nat.beq d 30013) tOk fe41.ok (by simp only [ZZ,frzG,Vc,Z5];rfl) hfr ?_
         refine Wp.seq ?_
         repeat' first|(apply qCl;rfl;rfl;rfl;rfl;first|exact c1 _|exact c2 _|exact ci _|exact c3 _)|refine Ji ?_|refine Jt ?_|refine Jo ?_|(apply dCl;rfl;rfl;rfl;rfl;rfl;first|exact ct _|exact p1 _|exact p2 _|exact a1 _|exact a2 _|exact a3 _)|(apply dAl;rfl;rfl;rfl;rfl;exact IsV.ptrM;exact IsH.mkN)|refine JB ?_|refine Jh ?_|(apply dWB tOk follows;rfl;kernel_rfl;rfl;exact IsH.mkN)|fail
         all_goals (rw [Zq];rfl)
   · rw [if_pos v2]
     have hfr:=hfz key.valid
     have be:=YE key.valid
     rw [decide_eq_true v2] at be
     clear hhs hks hh hk v1 v2
     generalize key.valid=e at c2 hfr be ⊢
     obtain ⟨k,nm,s,b,kids⟩:=h
     obtain ⟨k1,nm1,s1,b1,kids1⟩:=key
     simp only [Tm.cells] at c1 c2 ⊢
     refine Jw tOk fe41.ok hfr ?_
     repeat' first|refine Jc (c1 _) ?_|refine Jc (c2 _) ?_|refine Ji ?_|refine Jt ?_|refine Jo ?_|fail
     all_goals (rw [Zq];rfl)
 · rw [if_pos v1]
   have hfr:=hfz h.valid
   have be:=YE h.valid
   rw [decide_eq_true v1] at be
   clear c2 hhs hks hh hk v1
   generalize h.valid=e at c1 hfr be ⊢
   obtain ⟨k,nm,s,b,kids⟩:=h
   obtain ⟨k1,nm1,s1,b1,kids1⟩:=key
   simp only [Tm.cells] at c1 ⊢
   refine Jw tOk fe41.ok hfr ?_
   repeat' first|refine Jc (c1 _) ?_|refine Ji ?_|refine Jo ?_|fail
   all_goals (rw [Zq];rfl)
theorem Zi8 (nm:Bs) (x:Tm):∀ H,CallOk E0 Tryz.prog 34 [.str nm,.sl .full 4 [x.cells]] H (.agg (Tm.mk 3 nm 0 true [x]).cells) H:=fun H=>by
 have:=c34 nm (l:=[x]) (by simp) true H
 simp only [Tm.cells,Za,Zw] at this ⊢
 exact Yv this rfl
theorem Zhu (nm:Bs) (x y:Tm):∀ H,CallOk E0 Tryz.prog 34 [.str nm,.sl .full 4 [x.cells,y.cells]] H (.agg (Tm.mk 3 nm 0 true [x,y]).cells) H:=fun H=>by
 have:=c34 nm (l:=[x,y]) (by simp) true H
 simp only [Tm.cells,Za,Zw] at this ⊢
 exact Yv this rfl
theorem c62 (nm:Bs):∀ H,CallOk E0 Tryz.prog 62 [.str nm] H (.agg (Wv nm).cells) H:=by
 have hc:=c72 nm 5
 have e:Yl nm 5=Wv nm:=rfl
 rw [e] at hc
 have hf:=ZB 0 hNil (Wv nm)
 generalize Wv nm=G at hc hf ⊢
 obtain ⟨k,nm',s,b,kids⟩:=G
 simp only [Tm.cells] at hc hf ⊢
 refine Jw tOk fe62.ok hf ?_
 repeat' first|refine Jc (hc _) ?_|refine Jo ?_|fail
 all_goals exact Z3 _ _ _ _ _ _ _
theorem ZqL (a b:Tm):∀ H,CallOk E0 Tryz.prog 116 [.agg a.cells,.agg b.cells] H (.agg (Tm.mk 3 Wn 0 true [.mk 3 YC 0 true [a,b]]).cells) H:=by
 have h2:=Zhu YC a b
 have h3:=Zi8 Wn (Tm.mk 3 YC 0 true [a,b])
 have hfr:=ZB 0 hNil (Tm.mk 3 Wn 0 true [.mk 3 YC 0 true [a,b]])
 generalize Tm.mk 3 Wn 0 true [Tm.mk 3 YC 0 true [a,b]]=R at h3 hfr ⊢
 generalize Tm.mk 3 YC 0 true [a,b]=Q at h2 h3
 obtain ⟨k,nm,s,tb,kids⟩:=a
 obtain ⟨k1,nm1,s1,b1,kids1⟩:=R
 obtain ⟨k2,nm2,s2,b2,kids2⟩:=Q
 obtain ⟨k3,nm3,s3,b3,kids3⟩:=b
 simp only [Tm.cells] at h2 h3 hfr ⊢
 refine Jw tOk fe116.ok hfr ?_
 repeat' first|refine Jc (h2 _) ?_|refine Jc (h3 _) ?_|refine Js ?_|refine Jo ?_|fail
 all_goals exact Z3 _ _ _ _ _ _ _
theorem c63 (t:Tm):∀ H,CallOk E0 Tryz.prog 63 [.agg t.cells] H (.agg (WE t).cells) H:=by
 have h1:=c62 Zav
 have h2:=ZqL (Wv Zav) t
 have e:Tm.mk 3 Wn 0 true [.mk 3 YC 0 true [Wv Zav,t]]=WE t:=rfl
 rw [e] at h2
 have hfr:=ZB 0 hNil (WE t)
 generalize WE t=R at h2 hfr ⊢
 generalize Wv Zav=G at h1 h2
 obtain ⟨k,nm,s,b,kids⟩:=t
 obtain ⟨k1,nm1,s1,b1,kids1⟩:=R
 obtain ⟨k2,nm2,s2,b2,kids2⟩:=G
 simp only [Tm.cells] at h1 h2 hfr ⊢
 refine Jw tOk fe63.ok hfr ?_
 repeat' first|refine Jo ?_|refine Jd (h1 _) ?_|refine Jd (h2 _) ?_|refine Jh ?_|(apply Wp.drawS tOk follows;kernel_rfl;rfl)|fail
 all_goals exact Z3 _ _ _ _ _ _ _
theorem c65 (x y:Tm):∀ H,CallOk E0 Tryz.prog 65 [.agg x.cells,.agg y.cells] H (.agg (Wc x y).cells) H:=by
 have h1:=c62 Zad
 have h2:=Zhu YC x y
 have h3:=ZqL (Wv Zad) (Tm.mk 3 YC 0 true [x,y])
 have e:Tm.mk 3 Wn 0 true [.mk 3 YC 0 true [Wv Zad,Tm.mk 3 YC 0 true [x,y]]]=Wc x y:=rfl
 rw [e] at h3
 have hfr:=ZB 0 hNil (Wc x y)
 generalize Wc x y=R at h3 hfr ⊢
 generalize Tm.mk 3 YC 0 true [x,y]=Q at h2 h3
 generalize Wv Zad=G at h1 h3
 obtain ⟨k,nm,s,b,kids⟩:=x
 obtain ⟨k1,nm1,s1,b1,kids1⟩:=R
 obtain ⟨k2,nm2,s2,b2,kids2⟩:=G
 obtain ⟨k3,nm3,s3,b3,kids3⟩:=y
 obtain ⟨k4,nm4,s4,b4,kids4⟩:=Q
 simp only [Tm.cells] at h1 h2 h3 hfr ⊢
 refine Jw tOk fe65.ok hfr ?_
 repeat' first|refine Jo ?_|(apply dCl;rfl;rfl;rfl;rfl;rfl;first|exact h1 _|exact h2 _|exact h3 _)|refine JB ?_|refine Jh ?_|(apply Wp.drawS tOk follows;kernel_rfl;rfl)|fail
 all_goals exact Z3 _ _ _ _ _ _ _
theorem ZjI:((List.range 33).all fun n=>Ql E0 100 60 ⟨64,[.int .i64 (n:Int)],.int .i64 (Zd n:Int)⟩)=true:=by kernel_rfl
theorem c64 {n:Nat} (h:n≤32):∀ H,CallOk E0 Tryz.prog 64 [.int .i64 (n:Int)] H (.int .i64 (Zd n:Int)) H:=
 Xi tOk follows fOk zOk (List.all_eq_true.1 ZjI n (List.mem_range.2 (by omega)))
theorem c99 (ht:t.Ok) (hs:t.size≤1000000):∀ H,CallOk E0 Tryz.prog 99 [.agg t.cells] H (.int .i64 (if t.valid≠0 then 3 else 0)) H:=by
 have c1:=Zkn ht (by omega)
 have be:=YE t.valid
 clear ht hs
 generalize t.valid=e at c1 be ⊢
 obtain ⟨k,nm,s,b,kids⟩:=t
 simp only [Tm.cells] at c1 ⊢
 by_cases v:e=0
 · rw [decide_eq_false (not_not_intro v)] at be
   rw [if_neg (not_not_intro v)]
   refine Jw tOk fe99.ok rfl ?_
   repeat' first|refine Jc (c1 _) ?_|refine Ji ?_|refine Jo ?_|fail
   all_goals rfl
 · rw [decide_eq_true v] at be
   rw [if_pos v]
   refine Jw tOk fe99.ok rfl ?_
   repeat' first|refine Jc (c1 _) ?_|refine Ji ?_|refine Jo ?_|fail
   all_goals rfl
theorem ZrC (h key:Tm) (n0:0≤n) (n1:n≤9999):∀ H,CallOk E0 Tryz.prog 146 [.agg h.cells,.int .i64 n,.agg key.cells] H (.agg (Wb h n key).cells) H:=by
 have had:=Zid n0 n1
 have hc:∀ H,CallOk E0 Tryz.prog 182 [.int .i64 n] H (.str (Lib.itoa n)) H:=by
  obtain ⟨u,rfl⟩:∃ u:Nat,n=(u:Int):=⟨n.toNat,by omega⟩
  have e:Lib.itoa (u:Int)=Lib.decDigits u:=by
   unfold Lib.itoa
   rw [if_neg (by omega)]
   rfl
  rw [e]
  exact Za5 5 u (by omega) (by omega)
 have hat:=c72 (110::Lib.itoa n) 4
 have ct:=c62 W6
 have a1:=Zhu YC (Qn n) h
 have a2:=Zhu YC (Wv W6) (U4 n h)
 have a3:=Zhu Zhx (U5 n h) key
 have e0:Yl (110::Lib.itoa n) 4=Qn n:=rfl
 have e1:Tm.mk 3 Zhx 0 true [U5 n h,key]=Wb h n key:=rfl
 have e2:Tm.mk 3 YC 0 true [Wv W6,U4 n h]=U5 n h:=rfl
 have e3:Tm.mk 3 YC 0 true [Qn n,h]=U4 n h:=rfl
 rw [e0] at hat
 rw [e1] at a3
 rw [e2] at a2
 rw [e3] at a1
 have hfr:=ZB 0 hNil (Wb h n key)
 clear e0 e1 e2 e3 n0 n1
 generalize Wb h n key=S at a3 hfr ⊢
 generalize U5 n h=B at a2 a3
 generalize U4 n h=Z at a1 a2
 generalize Wv W6=G at ct a2
 generalize Qn n=N at hat a1
 generalize Lib.itoa n=s0 at had hc hat
 obtain ⟨k,nm,s,b,kids⟩:=h
 obtain ⟨k1,nm1,s1,b1',kids1⟩:=key
 obtain ⟨k2,nm2,s2,b2',kids2⟩:=S
 obtain ⟨k3,nm3,s3,b3',kids3⟩:=B
 obtain ⟨k4,nm4,s4,b4',kids4⟩:=Z
 obtain ⟨k5,nm5,s5,b5',kids5⟩:=G
 obtain ⟨k6,nm6,s6,b6',kids6⟩:=N
 simp only [Tm.cells] at hat ct a1 a2 a3 hfr ⊢
 refine Jw tOk fe146.ok hfr ?_
 repeat' first|refine Jc (hc _) ?_|refine Jc (hat _) ?_|refine Ji ?_|refine Jo ?_|(apply dCl;rfl;rfl;rfl;rfl;rfl;first|exact ct _|exact a1 _|exact a2 _|exact a3 _)|refine JB ?_|refine Jh ?_|(apply Wp.drawS tOk follows;kernel_rfl;rfl)|fail
 all_goals exact Z3 _ _ _ _ _ _ _
theorem c90 (hh:h.Ok) (hhs:h.size≤90000) (hk:key.Ok) (hks:key.size≤90000) (n:Int):∀ H,CallOk E0 Tryz.prog 90 [.agg h.cells,.int .i64 n,.agg key.cells] H (.tup [.agg (YI id h n key).1.cells,.int .i64 (YI id h n key).2]) H:=by
 have c1:=Zkn hh (by omega)
 have c2:=Zkn hk (by omega)
 have hfz:=Yy 0 hNil Tm.zero
 unfold YI
 by_cases v1:h.valid=0
 · rw [if_neg (not_not_intro v1)]
   rw [v1] at c1
   by_cases v2:key.valid=0
   · rw [if_neg (not_not_intro v2)]
     rw [v2] at c2
     by_cases v3:n<0∨32<n
     · rw [if_pos v3]
       have hfr:=hfz 7
       clear hhs hks hh hk v1 v2
       obtain ⟨k,nm,s,b,kids⟩:=h
       obtain ⟨k1,nm1,s1,b1,kids1⟩:=key
       simp only [Tm.cells] at c1 c2 ⊢
       by_cases v4:n<0
       · have b1 := Wa v4
         refine Jw tOk fe90.ok hfr ?_
         repeat' first|refine Jk ?_|refine Jc (c1 _) ?_|refine Jc (c2 _) ?_|refine Ji ?_|refine Jt ?_|refine Jo ?_|fail
         all_goals (rw [Zq];rfl)
       · have b1 := Xe v4
         have b2:=ZdK (a:=n) (b:=32) (by omega)
         refine Jw tOk fe90.ok hfr ?_
         repeat' first|refine Jc (c1 _) ?_|refine Jc (c2 _) ?_|refine Ji ?_|refine Jt ?_|refine Jo ?_|fail
         all_goals (rw [Zq];rfl)
     · rw [if_neg v3]
       have n0:0≤n:=by omega
       have n1:n≤9999:=by omega
       have b1:=Xe (a:=n) (b:=0) (by omega)
       have b2:=ZbB (a:=n) (b:=32) (by omega)
       have cs:=ZrC h key n0 n1
       have hS:=Zca (n:=n) hh hk n0 n1
       have hSs:=ZbA h n key
       have c3:=c99 hS (by omega)
       simp only [id]
       clear hS hSs hhs hks hh hk v1 v2 v3 n0 n1
       generalize Wb h n key=S at cs c3 ⊢
       generalize S.valid=e at c3 ⊢
       have hfr:=Yy 0 hNil (if e≠0 then (Tm.zero,(3:Int)) else (S,0)).1 (if e≠0 then (Tm.zero,(3:Int)) else (S,0)).2
       have hfS:=fun m H=>Yy m H S 0
       obtain ⟨k,nm,s,b,kids⟩:=h
       obtain ⟨k1,nm1,s1,b1',kids1⟩:=key
       obtain ⟨k2,nm2,s2,b2',kids2⟩:=S
       simp only [Tm.cells] at c1 c2 c3 cs hfS ⊢
       by_cases v5:e=0
       · rw [if_neg (not_not_intro v5)] at hfr c3 ⊢
         refine Jw tOk fe90.ok hfr ?_
         repeat' first|(apply qCl;rfl;rfl;rfl;rfl;first|exact c1 _|exact c2 _|exact cs _|exact c3 _)|refine Ji ?_|refine Jt ?_|refine Jo ?_|fail
         all_goals exact hfS _ _
       · rw [if_pos v5] at hfr c3 ⊢
         refine Jw tOk fe90.ok hfr ?_
         repeat' first|(apply qCl;rfl;rfl;rfl;rfl;first|exact c1 _|exact c2 _|exact cs _|exact c3 _)|refine Ji ?_|refine Jt ?_|refine Jo ?_|fail
         all_goals (rw [Zq];rfl)
   · rw [if_pos v2]
     have hfr:=hfz key.valid
     have be:=YE key.valid
     rw [decide_eq_true v2] at be
     clear hhs hks hh hk v1 v2
     generalize key.valid=e at c2 hfr be ⊢
     obtain ⟨k,nm,s,b,kids⟩:=h
     obtain ⟨k1,nm1,s1,b1,kids1⟩:=key
     simp only [Tm.cells] at c1 c2 ⊢
     refine Jw tOk fe90.ok hfr ?_
     repeat' first|refine Jc (c1 _) ?_|refine Jc (c2 _) ?_|refine Ji ?_|refine Jt ?_|refine Jo ?_|fail
     all_goals (rw [Zq];rfl)
 · rw [if_pos v1]
   have hfr:=hfz h.valid
   have be:=YE h.valid
   rw [decide_eq_true v1] at be
   clear c2 hhs hks hh hk v1
   generalize h.valid=e at c1 hfr be ⊢
   obtain ⟨k,nm,s,b,kids⟩:=h
   obtain ⟨k1,nm1,s1,b1,kids1⟩:=key
   simp only [Tm.cells] at c1 ⊢
   refine Jw tOk fe90.ok hfr ?_
   repeat' first|refine Jc (c1 _) ?_|refine Ji ?_|refine Jo ?_|fail
   all_goals (rw [Zq];rfl)
open Go.Proofs
theorem Zpd (h:a≠b):ZQ E7 .eql 3 (.int .i64 a) (.int .i64 b)=some (.bool false):=by
 show some (PV.bool (a==b))=_
 rw [beq_eq_false_iff_ne.2 h]
theorem ZmH (h:a≤b):ZQ E7 .leq 3 (.int .i64 a) (.int .i64 b)=some (.bool true):=by
 show some (PV.bool (decide (a≤b)))=_
 rw [decide_eq_true h]
theorem Znd (h:¬ a≤b):ZQ E7 .leq 3 (.int .i64 a) (.int .i64 b)=some (.bool false):=by
 show some (PV.bool (decide (a≤b)))=_
 rw [decide_eq_false h]
open Go.Proofs
theorem Q5 (h:a=b):ZQ E0 .eql 3 (.int .i64 a) (.int .i64 b)=some (.bool true):=by
 show some (PV.bool (a==b))=_
 rw [h,beq_self_eq_true]
theorem UA (h:a≠b):ZQ E0 .eql 3 (.int .i64 a) (.int .i64 b)=some (.bool false):=by
 show some (PV.bool (a==b))=_
 rw [beq_eq_false_iff_ne.2 h]
theorem Zmj (h:a≤b):ZQ E0 .leq 3 (.int .i64 a) (.int .i64 b)=some (.bool true):=by
 show some (PV.bool (decide (a≤b)))=_
 rw [decide_eq_true h]
theorem Zmq (h:¬ a≤b):ZQ E0 .leq 3 (.int .i64 a) (.int .i64 b)=some (.bool false):=by
 show some (PV.bool (decide (a≤b)))=_
 rw [decide_eq_false h]
open Go.Proofs
open Go.Proofs
def Zgg:List Tm→List Tm→Bool
 | [],[]=>true
 |x::r,y::r'=>decide (x.cmp y=0)&&Zgg r r'
 | [],_::_=>false
 |_::_,[]=>false
theorem ZfA:∀ {l m:List Tm},l.length≠m.length→Zgg l m=false
 | [],[],h=>absurd rfl h
 | [],_::_,_=>rfl
 |_::_,[],_=>rfl
 | x :: r, y :: r', h => by
   simp only [Zgg,ZfA (l:=r) (m:=r') (fun e=>h (by simp [e])),Bool.and_false]
theorem c48 {l m:List Tm} (hl:∀ t,t∈l→t.Ok∧t.size≤1000000) (hm:∀ t,t∈m→t.Ok∧t.size≤1000000) (hll:l.length≤1000000) (b c:Bool):∀ H,CallOk E0 Tryz.prog 48 [slV b 4 (Za l),slV c 4 (Za m)] H (.bool (Zgg l m)) H:=by
 have h1:=Zb l
 have h2:=Zb m
 refine Jw tOk fe48.ok rfl ?_
 repeat' first|refine Ji ?_|refine JJ ?_|refine Jl ?_|refine Jx ?_|refine Jt ?_|refine Jb ?_ ?_|refine Jo ?_|refine JD ?_|refine JK ?_|(apply dLn;rfl;rfl;rfl;rfl;rfl)|refine JI ?_|(apply dT (ty:=4);rfl;rfl;rfl;rfl)|(apply dF (ty:=4);rfl;rfl;rfl;rfl)|(apply dB (ty:=4);rfl;rfl;rfl;rfl)|refine Jh ?_|(apply Wp.draw tOk follows;kernel_rfl)|intro hb
 · rw [h1, h2] at hb
   rw [ZfA (l:=l) (m:=m) (by intro e;rw [e] at hb;simp at hb)]
 have hlm:l.length=m.length:=by
  rw [h1,h2] at hb
  have:(l.length:Int)=m.length:=by simpa using hb
  omega
 clear hb
 refine Wp.while (fun k tm H=>∃ (i:Nat) (base:TM),i+k=l.length∧Zgg l m=Zgg (l.drop i) (m.drop i)∧tm=ovr base [(0,slV b 4 (Za l)),(1,slV c 4 (Za m)),(5,.int .i64 (i:Int))]∧H=⟨[],0,[],0⟩)
  (fun k tm H hI=>?_) l.length _ _ ⟨0,_,by omega,by simp,Zh ⟨rfl,rfl,rfl,trivial⟩,rfl⟩
 obtain ⟨i,base,hi,hI,rfl,rfl⟩:=hI
 by_cases hlt:i<l.length
 · obtain ⟨t', ht'⟩ : ∃ t', l[i]? = some t' := ⟨l[i], by simp⟩
   obtain ⟨u',hu'⟩:∃ u',m[i]? = some u':=⟨m[i]'(by omega),by simp⟩
   have m1:=hl t' (List.mem_of_getElem? ht')
   have m2:=hm u' (List.mem_of_getElem? hu')
   have hc:=c23 m1.1 m2.1 m1.2 m2.2
   rw [ZN ht',ZN hu'] at hI
   simp only [Zgg] at hI
   have hlx:decide ((i:Int)<((Za l).length:Int))=true:=by rw [h1];simp;omega
   have hlx2:i<(Za l).length:=by omega
   have hlx3:i<(Za m).length:=by omega
   generalize decide (t'.cmp u'=0)=D at hc hI
   obtain ⟨k',nm',s',b',kids'⟩:=t'
   obtain ⟨k2,nm2,s2,b2,kids2⟩:=u'
   have hj1:=Zl ht'
   have hj2:=Zl hu'
   simp only [Tm.cells] at hc
   cases D with
   | false =>
     simp only [Bool.false_and] at hI
     rw [hI]
     repeat' first|refine Jc (hc _) ?_|refine Ji ?_|refine JJ ?_|refine Jl ?_|refine Jx ?_|refine Jt ?_|refine Jb ?_ ?_|refine Jo ?_|refine Jd (hc _) ?_|refine JD ?_|refine JK ?_|(apply dLn;rfl;rfl;rfl;rfl;rfl)|refine JI ?_|(apply dT (ty:=4);rfl;rfl;rfl;rfl)|(apply dF (ty:=4);rfl;rfl;rfl;rfl)|(apply dB (ty:=4);rfl;rfl;rfl;rfl)|refine Jh ?_|(apply Wp.draw tOk follows;kernel_rfl)|intro hb
     all_goals first
      | rfl
      | (exfalso;rw [h1] at hb;simp at hb;omega)
   | true =>
     simp only [Bool.true_and] at hI
     repeat' first|refine Jc (hc _) ?_|refine Ji ?_|refine JJ ?_|refine Jl ?_|refine Jx ?_|refine Jt ?_|refine Jb ?_ ?_|refine Jo ?_|refine Jd (hc _) ?_|refine JD ?_|refine JK ?_|(apply dLn;rfl;rfl;rfl;rfl;rfl)|refine JI ?_|(apply dT (ty:=4);rfl;rfl;rfl;rfl)|(apply dF (ty:=4);rfl;rfl;rfl;rfl)|(apply dB (ty:=4);rfl;rfl;rfl;rfl)|refine Jh ?_|(apply Wp.draw tOk follows;kernel_rfl)|intro hb
     · exact LoopI.go (k-1) (by omega) ⟨i+1,_,by omega,hI,Zh ⟨rfl,rfl,Zi (Zf (n:=i+1) (by omega)),trivial⟩,rfl⟩
     all_goals (exfalso;rw [h1] at hb;simp at hb;omega)
 · have e : i = l.length := by omega
   subst e
   rw [List.drop_length,show m.drop l.length= [] by rw [hlm,List.drop_length]] at hI
   rw [hI]
   repeat' first|refine Ji ?_|refine JJ ?_|refine Jl ?_|refine Jx ?_|refine Jt ?_|refine Jb ?_ ?_|refine Jo ?_|refine JD ?_|refine JK ?_|(apply dLn;rfl;rfl;rfl;rfl;rfl)|refine JI ?_|(apply dT (ty:=4);rfl;rfl;rfl;rfl)|(apply dF (ty:=4);rfl;rfl;rfl;rfl)|(apply dB (ty:=4);rfl;rfl;rfl;rfl)|refine Jh ?_|(apply Wp.draw tOk follows;kernel_rfl)|intro hb
   all_goals first
    | rfl
    | (exfalso;rw [h1] at hb;simp at hb)
open Go.Proofs
theorem ZmD {x' y' z':Tm} (h:∀ t,t∈ [x,y,z]→t.Ok∧t.size≤1000000) (h':∀ t,t∈ [x',y',z']→t.Ok∧t.size≤1000000):∀ H,CallOk E0 Tryz.prog 48 [.sl .full 4 [x.cells,y.cells,z.cells],.sl .full 4 [x'.cells,y'.cells,z'.cells]] H (.bool (Zgg [x,y,z] [x',y',z'])) H:=fun H=>by
 have:=c48 h h' (by simp) true true H
 simp only [Za,Zw] at this
 exact Yv this rfl
theorem Zsl (hx:x.Ok) (hy:y.Ok) (hz:z.Ok):∀ H,CallOk E0 Tryz.prog 25 [.sl .full 4 [x.cells,y.cells,z.cells],.int .i64 3,.int .i64 900] H (.bool (ZgL [x,y,z] 3 900)) H:=fun H=>by
 have:=c25 (l:=[x,y,z]) (by
  intro t ht
  rcases (by simpa using ht:t=x∨t=y∨t=z) with rfl|rfl|rfl
  · exact hx
  · exact hy
  · exact hz) (by unfold maxLen;simp) true (n:=3) (most:=900) (by decide) (by decide) H
 simp only [Za,Zw] at this
 exact Yv this rfl
def Zm2 (a:An):Bool:=decide (a.name.length≤100)&&(ZgL [a.entry,a.head,a.signed] 3 900&&(ZgL a.incl 40 900&&ZgL a.ext 40 900))
structure AnOk (a:An):Prop where
 e:a.entry.Ok
 h:a.head.Ok
 s:a.signed.Ok
 i:∀ t,t∈a.incl→t.Ok
 x:∀ t,t∈a.ext→t.Ok
 il:a.incl.length≤maxLen
 xl:a.ext.length≤maxLen
theorem c21 {a:An} (h:AnOk a):∀ H,CallOk E0 Tryz.prog 21 [.agg a.cells] H (.bool (Zm2 a)) H:=by
 have h1:=Zsl h.e h.h h.s
 have h2:=c25 h.i h.il a.ib (n:=40) (most:=900) (by decide) (by decide)
 have h3:=c25 h.x h.xl a.eb (n:=40) (most:=900) (by decide) (by decide)
 clear h
 unfold Zm2
 generalize ZgL [a.entry,a.head,a.signed] 3 900=D1 at h1 ⊢
 generalize ZgL a.incl 40 900=D2 at h2 ⊢
 generalize ZgL a.ext 40 900=D3 at h3 ⊢
 obtain ⟨name,⟨k1,nm1,s1,b1,kids1⟩,ai,n,⟨k2,nm2,s2,b2,kids2⟩,⟨k3,nm3,s3,b3,kids3⟩,ib,incl,eb,ext⟩:=a
 simp only [An.cells,Tm.cells,List.cons_append,List.nil_append] at h1 h2 h3 ⊢
 by_cases hn:name.length≤100
 · have he := Zmj (a := (name.length : Int)) (b := 100) (by omega)
   rw [decide_eq_true hn]
   refine Jw tOk fe21.ok rfl ?_
   repeat' first|refine Jk ?_|(apply qCl;rfl;rfl;rfl;rfl;first|exact h1 _|exact h2 _|exact h3 _)|refine Js ?_|refine Ji ?_|refine Jl ?_|refine Jt ?_|refine Jb ?_ ?_|refine Jo ?_|intro hb
   all_goals (subst_vars;rfl)
 · have he := Zmq (a := (name.length : Int)) (b := 100) (by omega)
   rw [decide_eq_false hn]
   refine Jw tOk fe21.ok rfl ?_
   repeat' first|refine Jk ?_|(apply qCl;rfl;rfl;rfl;rfl;first|exact h1 _|exact h2 _|exact h3 _)|refine Js ?_|refine Ji ?_|refine Jl ?_|refine Jt ?_|refine Jb ?_ ?_|refine Jo ?_|intro hb
   all_goals rfl
theorem Zki (h:a≠b):ZQ E0 .neq 3 (.int .i64 a) (.int .i64 b)=some (.bool true):=by
 show some (PV.bool (!(a==b)))=_
 rw [beq_eq_false_iff_ne.2 h]
 rfl
end Go.Vm.Seat
