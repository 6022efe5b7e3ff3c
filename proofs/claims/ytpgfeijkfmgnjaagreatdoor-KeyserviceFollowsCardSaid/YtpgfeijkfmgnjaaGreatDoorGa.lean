/-
  The signed head of a log, and the heads that the document builds.
-/
import Derived.Test.YtpgfeijkfmgnjaaGreatDoorEh
import Derived.Test.YtpgfeijkfmgnjaaGreatDoorFj
set_option maxHeartbeats 0
set_option maxRecDepth 100000
namespace Go.Vm.Seat
variable {a b n:Int} {h key t:Tm}
open Go.Proofs
theorem Zjx (h0:0≤n) (h1:n≤9999):ZP E0 .add 9 (.str [110]) (.str (Lib.itoa n))=some (.str (110::Lib.itoa n)):=by
 have hl:=U8 h0 h1
 generalize Lib.itoa n=s at hl ⊢
 show Zfq .add [110] s=_
 simp only [Zfq]
 rw [if_pos (by simp;omega)]
 rfl
theorem ZgK (n:Int):(Ub n).cells= [.int .i64 2,.str (110::Lib.itoa n),.int .i64 4,.nils]:=ZE _ _
theorem Zmo (h0:0≤n) (h1:n≤9999):(Ub n).Ok:=Qm (by have:=U8 h0 h1;simp;omega) (by decide) (by decide)
theorem Zcr (hh:h.Ok) (hk:key.Ok) (h0:0≤n) (h1:n≤9999):(Xn h n key).Ok:=ok2 (by decide) (ok2 (by decide) (Ziw (by decide)) (ok2 (by decide) (Zmo h0 h1) hh)) hk
theorem Zb7 (h:Tm) (n:Int) (key:Tm):(Xn h n key).size=h.size+key.size+5:=by
 simp only [Xn,Ur,Uz,Ub,Yn,Wd,Tm.size,Zx];omega
theorem Wi (ht:t.Ok):t.cl.Ok:=by
 induction ht with
 | @mk k nm s b kz hk hs hn hl hok ih =>
   simp only [Tm.cl]
   refine .mk hk hs hn (by rw [We];exact hl) fun u hu=>?_
   rw [XE,List.mem_map] at hu
   obtain ⟨x,hx,rfl⟩:=hu
   exact ih x hx
theorem ZcO (c:Tm→Tm) (hc:∀ t:Tm,t.Ok→(c t).Ok∧(c t).size=t.size) (n:Int) (hh:h.Ok) (hk:key.Ok):(Z5 c h n key).1.Ok∧(Z5 c h n key).1.size≤h.size+key.size+5:=by
 have hz:Tm.zero.Ok∧Tm.zero.size≤h.size+key.size+5:=⟨Tm.ok_zero,by simp [Tm.zero,Tm.size,Zx]⟩
 unfold Z5
 split; · exact hz
 split; · exact hz
 split; · exact hz
 split; · exact hz
 rename_i h3 _
 refine ⟨Zcr (hc _ hh).1 (hc _ hk).1 (by omega) (by omega),?_⟩
 show (Xn _ _ _).size≤_
 rw [Zb7,(hc _ hh).2,(hc _ hk).2]
 exact Nat.le_refl _
theorem X3 (h:a<b):ZP E0 .lss 3 (.int .i64 a) (.int .i64 b)=some (.bool true):=by
 show some (PV.bool (decide (a<b)))=_
 rw [decide_eq_true h]
theorem Xo (h:¬ a<b):ZP E0 .lss 3 (.int .i64 a) (.int .i64 b)=some (.bool false):=by
 show some (PV.bool (decide (a<b)))=_
 rw [decide_eq_false h]
theorem Ze3 (h:b<a):ZP E0 .gtr 3 (.int .i64 a) (.int .i64 b)=some (.bool true):=by
 show some (PV.bool (decide (b<a)))=_
 rw [decide_eq_true h]
theorem ZdX (h:¬ b<a):ZP E0 .gtr 3 (.int .i64 a) (.int .i64 b)=some (.bool false):=by
 show some (PV.bool (decide (b<a)))=_
 rw [decide_eq_false h]
theorem YF (e:Int):ZP E0 .neq 30 (.int .i64 e) (.int .i64 0)=some (.bool (decide (e≠0))):=by
 show some (PV.bool (!(e==0)))=_
 by_cases h:e=0<;>simp [h]
theorem c27 (hh:h.Ok) (hhs:h.size≤90000) (hk:key.Ok) (hks:key.size≤90000) (n:Int):∀ H,CallOk E0 Tryz.prog 27 [.agg h.cells,.int .i64 n,.agg key.cells] H (.tup [.agg (Z5 Tm.cl h n key).1.cells,.int .i64 (Z5 Tm.cl h n key).2]) H:=by
 have c1:=c41 hh (by omega)
 have c2:=c41 hk (by omega)
 have hfz:=Yr 0 hNil Tm.zero
 unfold Z5
 by_cases v1:h.valid=0
 · rw [if_neg (not_not_intro v1)]
   rw [v1] at c1
   by_cases v2:key.valid=0
   · rw [if_neg (not_not_intro v2)]
     rw [v2] at c2
     by_cases v3:n<0∨32<n
     · rw [if_pos v3]
       have hfr:=hfz 7
       clear hhs hks hh hk v1 v2
       obtain ⟨k,nm,s,b,kz⟩:=h
       obtain ⟨k1,nm1,s1,b1,kz1⟩:=key
       simp only [Tm.cells] at c1 c2 ⊢
       by_cases v4:n<0
       · have b1 := X3 v4
         refine Jw tOk fe27.ok hfr ?_
         repeat' first|refine Jk ?_|refine Jc (c1 _) ?_|refine Jc (c2 _) ?_|refine Ji ?_|refine Jt ?_|refine Jo ?_|fail
         all_goals (rw [Zk];rfl)
       · have b1 := Xo v4
         have b2:=Ze3 (a:=n) (b:=32) (by omega)
         refine Jw tOk fe27.ok hfr ?_
         repeat' first|refine Jc (c1 _) ?_|refine Jc (c2 _) ?_|refine Ji ?_|refine Jt ?_|refine Jo ?_|fail
         all_goals (rw [Zk];rfl)
     · rw [if_neg v3]
       have n0:0≤n:=by omega
       have n1:n≤9999:=by omega
       have b1:=Xo (a:=n) (b:=0) (by omega)
       have b2:=ZdX (a:=n) (b:=32) (by omega)
       have had:=Zjx n0 n1
       have ci:=c67 n0 n1
       have p1:=c65 hh (by omega)
       have p2:=c65 hk (by omega)
       have ct:=c69 Xf
       have a1:=Znw Z9 (Ub n) h.cl
       have a2:=Znw Z9 (Wd Xf) (Uz n h.cl)
       have a3:=Znw V2 (Ur n h.cl) key.cl
       rw [ZgK] at a1
       have hS:=Zcr (n:=n) (Wi hh) (Wi hk) n0 n1
       have hSs:=Zb7 h.cl n key.cl
       rw [YN,YN] at hSs
       have c3:=c41 hS (by omega)
       have e1:Tm.mk 3 V2 0 true [Ur n h.cl,key.cl]=Xn h.cl n key.cl:=rfl
       have e2:Tm.mk 3 Z9 0 true [Wd Xf,Uz n h.cl]=Ur n h.cl:=rfl
       have e3:Tm.mk 3 Z9 0 true [Ub n,h.cl]=Uz n h.cl:=rfl
       rw [e1] at a3
       rw [e2] at a2
       rw [e3] at a1
       clear e1 e2 e3 hS hSs hhs hks hh hk v1 v2 v3 n0 n1
       generalize Xn h.cl n key.cl=S at a3 c3 ⊢
       generalize Ur n h.cl=B at a2 a3
       generalize Uz n h.cl=Z at a1 a2
       generalize Wd Xf=G at ct a2
       generalize Lib.itoa n=s0 at had ci a1
       generalize h.cl=h' at p1 a1
       generalize key.cl=k' at p2 a3
       generalize S.valid=e at c3 ⊢
       have be:=YF e
       have hfr:=Yr 0 hNil (if e≠0 then (Tm.zero,(3:Int)) else (S,0)).1 (if e≠0 then (Tm.zero,(3:Int)) else (S,0)).2
       have hfS:=fun m H=>Yr m H S 0
       obtain ⟨k,nm,s,b,kz⟩:=h
       obtain ⟨k1,nm1,s1,b1',kz1⟩:=key
       obtain ⟨k2,nm2,s2,b2',kz2⟩:=S
       obtain ⟨k3,nm3,s3,b3',kz3⟩:=B
       obtain ⟨k4,nm4,s4,b4',kz4⟩:=Z
       obtain ⟨k5,nm5,s5,b5',kz5⟩:=G
       obtain ⟨k6,nm6,s6,b6',kz6⟩:=h'
       obtain ⟨k7,nm7,s7,b7',kz7⟩:=k'
       simp only [Tm.cells] at c1 c2 c3 p1 p2 ct a1 a2 a3 hfS ⊢
       by_cases v5:e=0
       · rw [decide_eq_false (not_not_intro v5)] at be
         rw [if_neg (not_not_intro v5)] at hfr ⊢
         refine Zm (own:=fun d=>Nat.beq d 30013) tOk fe27.ok (by simp only [ZJ,frzG,XY,ZD];rfl) hfr ?_
         refine Wp.seq ?_
         repeat' first|(apply qCl;rfl;rfl;rfl;rfl;first|exact c1 _|exact c2 _|exact ci _|exact c3 _)|refine Ji ?_|refine Jt ?_|refine Jo ?_|(apply dCl;rfl;rfl;rfl;rfl;rfl;first|exact ct _|exact p1 _|exact p2 _|exact a1 _|exact a2 _|exact a3 _)|(apply dAl;rfl;rfl;rfl;rfl;exact IsV.ptrM;exact IsH.mkN)|refine JB ?_|refine Jh ?_|(apply dWB tOk follows;rfl;kernel_rfl;rfl;exact IsH.mkN)|fail
         all_goals exact hfS _ _
       · rw [decide_eq_true v5] at be
         rw [if_pos v5] at hfr ⊢
         refine Zm (own:=fun d=>Nat.beq d 30013) tOk fe27.ok (by simp only [ZJ,frzG,XY,ZD];rfl) hfr ?_
         refine Wp.seq ?_
         repeat' first|(apply qCl;rfl;rfl;rfl;rfl;first|exact c1 _|exact c2 _|exact ci _|exact c3 _)|refine Ji ?_|refine Jt ?_|refine Jo ?_|(apply dCl;rfl;rfl;rfl;rfl;rfl;first|exact ct _|exact p1 _|exact p2 _|exact a1 _|exact a2 _|exact a3 _)|(apply dAl;rfl;rfl;rfl;rfl;exact IsV.ptrM;exact IsH.mkN)|refine JB ?_|refine Jh ?_|(apply dWB tOk follows;rfl;kernel_rfl;rfl;exact IsH.mkN)|fail
         all_goals (rw [Zk];rfl)
   · rw [if_pos v2]
     have hfr:=hfz key.valid
     have be:=YF key.valid
     rw [decide_eq_true v2] at be
     clear hhs hks hh hk v1 v2
     generalize key.valid=e at c2 hfr be ⊢
     obtain ⟨k,nm,s,b,kz⟩:=h
     obtain ⟨k1,nm1,s1,b1,kz1⟩:=key
     simp only [Tm.cells] at c1 c2 ⊢
     refine Jw tOk fe27.ok hfr ?_
     repeat' first|refine Jc (c1 _) ?_|refine Jc (c2 _) ?_|refine Ji ?_|refine Jt ?_|refine Jo ?_|fail
     all_goals (rw [Zk];rfl)
 · rw [if_pos v1]
   have hfr:=hfz h.valid
   have be:=YF h.valid
   rw [decide_eq_true v1] at be
   clear c2 hhs hks hh hk v1
   generalize h.valid=e at c1 hfr be ⊢
   obtain ⟨k,nm,s,b,kz⟩:=h
   obtain ⟨k1,nm1,s1,b1,kz1⟩:=key
   simp only [Tm.cells] at c1 ⊢
   refine Jw tOk fe27.ok hfr ?_
   repeat' first|refine Jc (c1 _) ?_|refine Ji ?_|refine Jo ?_|fail
   all_goals (rw [Zk];rfl)
theorem Zmx (nm:Bs) (x:Tm):∀ H,CallOk E0 Tryz.prog 38 [.str nm,.sl .full 4 [x.cells]] H (.agg (Tm.mk 3 nm 0 true [x]).cells) H:=fun H=>by
 have:=c38 nm (l:=[x]) (by simp) true H
 simp only [Tm.cells,Za,Zw] at this ⊢
 exact Y4 this rfl
theorem Zh2 (nm:Bs) (x y:Tm):∀ H,CallOk E0 Tryz.prog 38 [.str nm,.sl .full 4 [x.cells,y.cells]] H (.agg (Tm.mk 3 nm 0 true [x,y]).cells) H:=fun H=>by
 have:=c38 nm (l:=[x,y]) (by simp) true H
 simp only [Tm.cells,Za,Zw] at this ⊢
 exact Y4 this rfl
theorem Zpe (nm:Bs):∀ H,CallOk E0 Tryz.prog 249 [.str nm] H (.agg (Wd nm).cells) H:=by
 have hc:=c39 nm 5
 have e:Yn nm 5=Wd nm:=rfl
 rw [e] at hc
 have hf:=Zz 0 hNil (Wd nm)
 generalize Wd nm=G at hc hf ⊢
 obtain ⟨k,nm',s,b,kz⟩:=G
 simp only [Tm.cells] at hc hf ⊢
 refine Jw tOk fe249.ok hf ?_
 repeat' first|refine Jc (hc _) ?_|refine Jo ?_|fail
 all_goals exact Z6 _ _ _ _ _ _ _
theorem Zr6 (a b:Tm):∀ H,CallOk E0 Tryz.prog 278 [.agg a.cells,.agg b.cells] H (.agg (Tm.mk 3 WD 0 true [.mk 3 Z9 0 true [a,b]]).cells) H:=by
 have h2:=Zh2 Z9 a b
 have h3:=Zmx WD (Tm.mk 3 Z9 0 true [a,b])
 have hfr:=Zz 0 hNil (Tm.mk 3 WD 0 true [.mk 3 Z9 0 true [a,b]])
 generalize Tm.mk 3 WD 0 true [Tm.mk 3 Z9 0 true [a,b]]=R at h3 hfr ⊢
 generalize Tm.mk 3 Z9 0 true [a,b]=Q at h2 h3
 obtain ⟨k,nm,s,tb,kz⟩:=a
 obtain ⟨k1,nm1,s1,b1,kz1⟩:=R
 obtain ⟨k2,nm2,s2,b2,kz2⟩:=Q
 obtain ⟨k3,nm3,s3,b3,kz3⟩:=b
 simp only [Tm.cells] at h2 h3 hfr ⊢
 refine Jw tOk fe278.ok hfr ?_
 repeat' first|refine Jc (h2 _) ?_|refine Jc (h3 _) ?_|refine Js ?_|refine Jo ?_|fail
 all_goals exact Z6 _ _ _ _ _ _ _
theorem Zvc (t:Tm):∀ H,CallOk E0 Tryz.prog 250 [.agg t.cells] H (.agg (X6 t).cells) H:=by
 have h1:=Zpe Za2
 have h2:=Zr6 (Wd Za2) t
 have e:Tm.mk 3 WD 0 true [.mk 3 Z9 0 true [Wd Za2,t]]=X6 t:=rfl
 rw [e] at h2
 have hfr:=Zz 0 hNil (X6 t)
 generalize X6 t=R at h2 hfr ⊢
 generalize Wd Za2=G at h1 h2
 obtain ⟨k,nm,s,b,kz⟩:=t
 obtain ⟨k1,nm1,s1,b1,kz1⟩:=R
 obtain ⟨k2,nm2,s2,b2,kz2⟩:=G
 simp only [Tm.cells] at h1 h2 hfr ⊢
 refine Jw tOk fe250.ok hfr ?_
 repeat' first|refine Jo ?_|refine Jd (h1 _) ?_|refine Jd (h2 _) ?_|refine Jh ?_|(apply Wp.drawS tOk follows;kernel_rfl;rfl)|fail
 all_goals exact Z6 _ _ _ _ _ _ _
theorem Zvt (x y:Tm):∀ H,CallOk E0 Tryz.prog 252 [.agg x.cells,.agg y.cells] H (.agg (YL x y).cells) H:=by
 have h1:=Zpe Zan
 have h2:=Zh2 Z9 x y
 have h3:=Zr6 (Wd Zan) (Tm.mk 3 Z9 0 true [x,y])
 have e:Tm.mk 3 WD 0 true [.mk 3 Z9 0 true [Wd Zan,Tm.mk 3 Z9 0 true [x,y]]]=YL x y:=rfl
 rw [e] at h3
 have hfr:=Zz 0 hNil (YL x y)
 generalize YL x y=R at h3 hfr ⊢
 generalize Tm.mk 3 Z9 0 true [x,y]=Q at h2 h3
 generalize Wd Zan=G at h1 h3
 obtain ⟨k,nm,s,b,kz⟩:=x
 obtain ⟨k1,nm1,s1,b1,kz1⟩:=R
 obtain ⟨k2,nm2,s2,b2,kz2⟩:=G
 obtain ⟨k3,nm3,s3,b3,kz3⟩:=y
 obtain ⟨k4,nm4,s4,b4,kz4⟩:=Q
 simp only [Tm.cells] at h1 h2 h3 hfr ⊢
 refine Jw tOk fe252.ok hfr ?_
 repeat' first|refine Jo ?_|(apply dCl;rfl;rfl;rfl;rfl;rfl;first|exact h1 _|exact h2 _|exact h3 _)|refine JB ?_|refine Jh ?_|(apply Wp.drawS tOk follows;kernel_rfl;rfl)|fail
 all_goals exact Z6 _ _ _ _ _ _ _
theorem Zk4:((List.range 33).all fun n=>QQ E0 100 60 ⟨251,[.int .i64 (n:Int)],.int .i64 (Zd n:Int)⟩)=true:=by kernel_rfl
theorem Ztq {n:Nat} (h:n≤32):∀ H,CallOk E0 Tryz.prog 251 [.int .i64 (n:Int)] H (.int .i64 (Zd n:Int)) H:=
 Xs tOk follows fOk zOk (List.all_eq_true.1 Zk4 n (List.mem_range.2 (by omega)))
theorem Zsa (ht:t.Ok) (hs:t.size≤1000000):∀ H,CallOk E0 Tryz.prog 214 [.agg t.cells] H (.int .i64 (if t.valid≠0 then 3 else 0)) H:=by
 have c1:=ZlD ht (by omega)
 have be:=YF t.valid
 clear ht hs
 generalize t.valid=e at c1 be ⊢
 obtain ⟨k,nm,s,b,kz⟩:=t
 simp only [Tm.cells] at c1 ⊢
 by_cases v:e=0
 · rw [decide_eq_false (not_not_intro v)] at be
   rw [if_neg (not_not_intro v)]
   refine Jw tOk fe214.ok rfl ?_
   repeat' first|refine Jc (c1 _) ?_|refine Ji ?_|refine Jo ?_|fail
   all_goals rfl
 · rw [decide_eq_true v] at be
   rw [if_pos v]
   refine Jw tOk fe214.ok rfl ?_
   repeat' first|refine Jc (c1 _) ?_|refine Ji ?_|refine Jo ?_|fail
   all_goals rfl
theorem Zus (h key:Tm) (n0:0≤n) (n1:n≤9999):∀ H,CallOk E0 Tryz.prog 215 [.agg h.cells,.int .i64 n,.agg key.cells] H (.agg (Xn h n key).cells) H:=by
 have had:=Zjx n0 n1
 have hc:∀ H,CallOk E0 Tryz.prog 253 [.int .i64 n] H (.str (Lib.itoa n)) H:=by
  obtain ⟨u,rfl⟩:∃ u:Nat,n=(u:Int):=⟨n.toNat,by omega⟩
  have e:Lib.itoa (u:Int)=Lib.decDigits u:=by
   unfold Lib.itoa
   rw [if_neg (by omega)]
   rfl
  rw [e]
  exact ZbH 5 u (by omega) (by omega)
 have hat:=c39 (110::Lib.itoa n) 4
 have ct:=Zpe Xf
 have a1:=Zh2 Z9 (Ub n) h
 have a2:=Zh2 Z9 (Wd Xf) (Uz n h)
 have a3:=Zh2 V2 (Ur n h) key
 have e0:Yn (110::Lib.itoa n) 4=Ub n:=rfl
 have e1:Tm.mk 3 V2 0 true [Ur n h,key]=Xn h n key:=rfl
 have e2:Tm.mk 3 Z9 0 true [Wd Xf,Uz n h]=Ur n h:=rfl
 have e3:Tm.mk 3 Z9 0 true [Ub n,h]=Uz n h:=rfl
 rw [e0] at hat
 rw [e1] at a3
 rw [e2] at a2
 rw [e3] at a1
 have hfr:=Zz 0 hNil (Xn h n key)
 clear e0 e1 e2 e3 n0 n1
 generalize Xn h n key=S at a3 hfr ⊢
 generalize Ur n h=B at a2 a3
 generalize Uz n h=Z at a1 a2
 generalize Wd Xf=G at ct a2
 generalize Ub n=N at hat a1
 generalize Lib.itoa n=s0 at had hc hat
 obtain ⟨k,nm,s,b,kz⟩:=h
 obtain ⟨k1,nm1,s1,b1',kz1⟩:=key
 obtain ⟨k2,nm2,s2,b2',kz2⟩:=S
 obtain ⟨k3,nm3,s3,b3',kz3⟩:=B
 obtain ⟨k4,nm4,s4,b4',kz4⟩:=Z
 obtain ⟨k5,nm5,s5,b5',kz5⟩:=G
 obtain ⟨k6,nm6,s6,b6',kz6⟩:=N
 simp only [Tm.cells] at hat ct a1 a2 a3 hfr ⊢
 refine Jw tOk fe215.ok hfr ?_
 repeat' first|refine Jc (hc _) ?_|refine Jc (hat _) ?_|refine Ji ?_|refine Jo ?_|(apply dCl;rfl;rfl;rfl;rfl;rfl;first|exact ct _|exact a1 _|exact a2 _|exact a3 _)|refine JB ?_|refine Jh ?_|(apply Wp.drawS tOk follows;kernel_rfl;rfl)|fail
 all_goals exact Z6 _ _ _ _ _ _ _
theorem ZtD (hh:h.Ok) (hhs:h.size≤90000) (hk:key.Ok) (hks:key.size≤90000) (n:Int):∀ H,CallOk E0 Tryz.prog 170 [.agg h.cells,.int .i64 n,.agg key.cells] H (.tup [.agg (Z5 id h n key).1.cells,.int .i64 (Z5 id h n key).2]) H:=by
 have c1:=ZlD hh (by omega)
 have c2:=ZlD hk (by omega)
 have hfz:=Yr 0 hNil Tm.zero
 unfold Z5
 by_cases v1:h.valid=0
 · rw [if_neg (not_not_intro v1)]
   rw [v1] at c1
   by_cases v2:key.valid=0
   · rw [if_neg (not_not_intro v2)]
     rw [v2] at c2
     by_cases v3:n<0∨32<n
     · rw [if_pos v3]
       have hfr:=hfz 7
       clear hhs hks hh hk v1 v2
       obtain ⟨k,nm,s,b,kz⟩:=h
       obtain ⟨k1,nm1,s1,b1,kz1⟩:=key
       simp only [Tm.cells] at c1 c2 ⊢
       by_cases v4:n<0
       · have b1 := X3 v4
         refine Jw tOk fe170.ok hfr ?_
         repeat' first|refine Jk ?_|refine Jc (c1 _) ?_|refine Jc (c2 _) ?_|refine Ji ?_|refine Jt ?_|refine Jo ?_|fail
         all_goals (rw [Zk];rfl)
       · have b1 := Xo v4
         have b2:=Ze3 (a:=n) (b:=32) (by omega)
         refine Jw tOk fe170.ok hfr ?_
         repeat' first|refine Jc (c1 _) ?_|refine Jc (c2 _) ?_|refine Ji ?_|refine Jt ?_|refine Jo ?_|fail
         all_goals (rw [Zk];rfl)
     · rw [if_neg v3]
       have n0:0≤n:=by omega
       have n1:n≤9999:=by omega
       have b1:=Xo (a:=n) (b:=0) (by omega)
       have b2:=ZdX (a:=n) (b:=32) (by omega)
       have cs:=Zus h key n0 n1
       have hS:=Zcr (n:=n) hh hk n0 n1
       have hSs:=Zb7 h n key
       have c3:=Zsa hS (by omega)
       simp only [id]
       clear hS hSs hhs hks hh hk v1 v2 v3 n0 n1
       generalize Xn h n key=S at cs c3 ⊢
       generalize S.valid=e at c3 ⊢
       have hfr:=Yr 0 hNil (if e≠0 then (Tm.zero,(3:Int)) else (S,0)).1 (if e≠0 then (Tm.zero,(3:Int)) else (S,0)).2
       have hfS:=fun m H=>Yr m H S 0
       obtain ⟨k,nm,s,b,kz⟩:=h
       obtain ⟨k1,nm1,s1,b1',kz1⟩:=key
       obtain ⟨k2,nm2,s2,b2',kz2⟩:=S
       simp only [Tm.cells] at c1 c2 c3 cs hfS ⊢
       by_cases v5:e=0
       · rw [if_neg (not_not_intro v5)] at hfr c3 ⊢
         refine Jw tOk fe170.ok hfr ?_
         repeat' first|(apply qCl;rfl;rfl;rfl;rfl;first|exact c1 _|exact c2 _|exact cs _|exact c3 _)|refine Ji ?_|refine Jt ?_|refine Jo ?_|fail
         all_goals exact hfS _ _
       · rw [if_pos v5] at hfr c3 ⊢
         refine Jw tOk fe170.ok hfr ?_
         repeat' first|(apply qCl;rfl;rfl;rfl;rfl;first|exact c1 _|exact c2 _|exact cs _|exact c3 _)|refine Ji ?_|refine Jt ?_|refine Jo ?_|fail
         all_goals (rw [Zk];rfl)
   · rw [if_pos v2]
     have hfr:=hfz key.valid
     have be:=YF key.valid
     rw [decide_eq_true v2] at be
     clear hhs hks hh hk v1 v2
     generalize key.valid=e at c2 hfr be ⊢
     obtain ⟨k,nm,s,b,kz⟩:=h
     obtain ⟨k1,nm1,s1,b1,kz1⟩:=key
     simp only [Tm.cells] at c1 c2 ⊢
     refine Jw tOk fe170.ok hfr ?_
     repeat' first|refine Jc (c1 _) ?_|refine Jc (c2 _) ?_|refine Ji ?_|refine Jt ?_|refine Jo ?_|fail
     all_goals (rw [Zk];rfl)
 · rw [if_pos v1]
   have hfr:=hfz h.valid
   have be:=YF h.valid
   rw [decide_eq_true v1] at be
   clear c2 hhs hks hh hk v1
   generalize h.valid=e at c1 hfr be ⊢
   obtain ⟨k,nm,s,b,kz⟩:=h
   obtain ⟨k1,nm1,s1,b1,kz1⟩:=key
   simp only [Tm.cells] at c1 ⊢
   refine Jw tOk fe170.ok hfr ?_
   repeat' first|refine Jc (c1 _) ?_|refine Ji ?_|refine Jo ?_|fail
   all_goals (rw [Zk];rfl)
