/-
  The signed head of a log, and the heads that the document builds.
-/
import Derived.Test.YtkaocdljkonfaaaGreatDoorEh
set_option maxHeartbeats 64000000
set_option maxRecDepth 100000
namespace Go.Vm.Seat
variable {a b n:Int} {h key t:Tm}
open Go.Proofs
theorem ZjB (h0:0≤n) (h1:n≤9999):ZV E0 .add 9 (.str [110]) (.str (Lib.itoa n))=some (.str (110::Lib.itoa n)):=by
 have hl:=UM h0 h1
 generalize Lib.itoa n=s at hl ⊢
 show ZfJ .add [110] s=_
 simp only [ZfJ]
 rw [if_pos (by simp;omega)]
 rfl
theorem ZgO (n:Int):(Qq n).cells= [.int .i64 2,.str (110::Lib.itoa n),.int .i64 4,.nils]:=ZD _ _
theorem Zm6 (h0:0≤n) (h1:n≤9999):(Qq n).Ok:=U8 (by have:=UM h0 h1;simp;omega) (by decide) (by decide)
theorem ZcF (hh:h.Ok) (hk:key.Ok) (h0:0≤n) (h1:n≤9999):(Wm h n key).Ok:=ok2 (by decide) (ok2 (by decide) (Zkl (by decide)) (ok2 (by decide) (Zm6 h0 h1) hh)) hk
theorem Zcj (h:Tm) (n:Int) (key:Tm):(Wm h n key).size=h.size+key.size+5:=by
 simp only [Wm,Qa,Qi,Qq,Yq,WC,Tm.size,Zz];omega
theorem Vi (ht:t.Ok):t.cl.Ok:=by
 induction ht with
 | @mk k nm s b kids hk hs hn hl hok ih =>
   simp only [Tm.cl]
   refine .mk hk hs hn (by rw [Vj];exact hl) fun u hu=>?_
   rw [Zaa,List.mem_map] at hu
   obtain ⟨x,hx,rfl⟩:=hu
   exact ih x hx
theorem Zi6 (c:Tm→Tm) (hc:∀ t:Tm,t.Ok→(c t).Ok∧(c t).size=t.size) (n:Int) (hh:h.Ok) (hk:key.Ok):(Yw c h n key).1.Ok∧(Yw c h n key).1.size≤h.size+key.size+5:=by
 have hz:Tm.zero.Ok∧Tm.zero.size≤h.size+key.size+5:=⟨Tm.ok_zero,by simp [Tm.zero,Tm.size,Zz]⟩
 unfold Yw
 split; · exact hz
 split; · exact hz
 split; · exact hz
 split; · exact hz
 rename_i h3 _
 refine ⟨ZcF (hc _ hh).1 (hc _ hk).1 (by omega) (by omega),?_⟩
 show (Wm _ _ _).size≤_
 rw [Zcj,(hc _ hh).2,(hc _ hk).2]
 exact Nat.le_refl _
theorem We (h:a<b):ZV E0 .lss 3 (.int .i64 a) (.int .i64 b)=some (.bool true):=by
 show some (PV.bool (decide (a<b)))=_
 rw [decide_eq_true h]
theorem XS (h:¬ a<b):ZV E0 .lss 3 (.int .i64 a) (.int .i64 b)=some (.bool false):=by
 show some (PV.bool (decide (a<b)))=_
 rw [decide_eq_false h]
theorem ZgZ (h:b<a):ZV E0 .gtr 3 (.int .i64 a) (.int .i64 b)=some (.bool true):=by
 show some (PV.bool (decide (b<a)))=_
 rw [decide_eq_true h]
theorem Zhb (h:¬ b<a):ZV E0 .gtr 3 (.int .i64 a) (.int .i64 b)=some (.bool false):=by
 show some (PV.bool (decide (b<a)))=_
 rw [decide_eq_false h]
theorem Ye (e:Int):ZV E0 .neq 32 (.int .i64 e) (.int .i64 0)=some (.bool (decide (e≠0))):=by
 show some (PV.bool (!(e==0)))=_
 by_cases h:e=0<;>simp [h]
theorem c41 (hh:h.Ok) (hhs:h.size≤90000) (hk:key.Ok) (hks:key.size≤90000) (n:Int):∀ H,CallOk E0 Tryz.prog 41 [.agg h.cells,.int .i64 n,.agg key.cells] H (.tup [.agg (Yw Tm.cl h n key).1.cells,.int .i64 (Yw Tm.cl h n key).2]) H:=by
 have c1:=c74 hh (by omega)
 have c2:=c74 hk (by omega)
 have hfz:=YG 0 hNil Tm.zero
 unfold Yw
 by_cases v1:h.valid=0
 · rw [if_neg (not_not_intro v1)]
   rw [v1] at c1
   by_cases v2:key.valid=0
   · rw [if_neg (not_not_intro v2)]
     rw [v2] at c2
     by_cases v3:n<0∨32<n
     · rw [if_pos v3]
       have hfr:=hfz 7
       clear hhs hks hh hk v1 v2
       obtain ⟨k,nm,s,b,kids⟩:=h
       obtain ⟨k1,nm1,s1,b1,kids1⟩:=key
       simp only [Tm.cells] at c1 c2 ⊢
       by_cases v4:n<0
       · have b1 := We v4
         refine Jw tOk fe41.ok hfr ?_
         repeat' first|refine Jk ?_|refine Jc (c1 _) ?_|refine Jc (c2 _) ?_|refine Ji ?_|refine Jt ?_|refine Jo ?_|fail
         all_goals (rw [Zn];rfl)
       · have b1 := XS v4
         have b2:=ZgZ (a:=n) (b:=32) (by omega)
         refine Jw tOk fe41.ok hfr ?_
         repeat' first|refine Jc (c1 _) ?_|refine Jc (c2 _) ?_|refine Ji ?_|refine Jt ?_|refine Jo ?_|fail
         all_goals (rw [Zn];rfl)
     · rw [if_neg v3]
       have n0:0≤n:=by omega
       have n1:n≤9999:=by omega
       have b1:=XS (a:=n) (b:=0) (by omega)
       have b2:=Zhb (a:=n) (b:=32) (by omega)
       have had:=ZjB n0 n1
       have ci:=c82 n0 n1
       have p1:=c80 hh (by omega)
       have p2:=c80 hk (by omega)
       have ct:=c84 W4
       have a1:=Znp YJ (Qq n) h.cl
       have a2:=Znp YJ (WC W4) (Qi n h.cl)
       have a3:=Znp ZhV (Qa n h.cl) key.cl
       rw [ZgO] at a1
       have hS:=ZcF (n:=n) (Vi hh) (Vi hk) n0 n1
       have hSs:=Zcj h.cl n key.cl
       rw [YK,YK] at hSs
       have c3:=c74 hS (by omega)
       have e1:Tm.mk 3 ZhV 0 true [Qa n h.cl,key.cl]=Wm h.cl n key.cl:=rfl
       have e2:Tm.mk 3 YJ 0 true [WC W4,Qi n h.cl]=Qa n h.cl:=rfl
       have e3:Tm.mk 3 YJ 0 true [Qq n,h.cl]=Qi n h.cl:=rfl
       rw [e1] at a3
       rw [e2] at a2
       rw [e3] at a1
       clear e1 e2 e3 hS hSs hhs hks hh hk v1 v2 v3 n0 n1
       generalize Wm h.cl n key.cl=S at a3 c3 ⊢
       generalize Qa n h.cl=B at a2 a3
       generalize Qi n h.cl=Z at a1 a2
       generalize WC W4=G at ct a2
       generalize Lib.itoa n=s0 at had ci a1
       generalize h.cl=h' at p1 a1
       generalize key.cl=k' at p2 a3
       generalize S.valid=e at c3 ⊢
       have be:=Ye e
       have hfr:=YG 0 hNil (if e≠0 then (Tm.zero,(3:Int)) else (S,0)).1 (if e≠0 then (Tm.zero,(3:Int)) else (S,0)).2
       have hfS:=fun m H=>YG m H S 0
       obtain ⟨k,nm,s,b,kids⟩:=h
       obtain ⟨k1,nm1,s1,b1',kids1⟩:=key
       obtain ⟨k2,nm2,s2,b2',kids2⟩:=S
       obtain ⟨k3,nm3,s3,b3',kids3⟩:=B
       obtain ⟨k4,nm4,s4,b4',kids4⟩:=Z
       obtain ⟨k5,nm5,s5,b5',kids5⟩:=G
       obtain ⟨k6,nm6,s6,b6',kids6⟩:=h'
       obtain ⟨k7,nm7,s7,b7',kids7⟩:=k'
       simp only [Tm.cells] at c1 c2 c3 p1 p2 ct a1 a2 a3 hfS ⊢
       by_cases v5:e=0
       · rw [decide_eq_false (not_not_intro v5)] at be
         rw [if_neg (not_not_intro v5)] at hfr ⊢
         refine Zr (own:=fun d=>Nat.beq d 30013) tOk fe41.ok (by simp only [ZC,frzG,Xm,Zu];rfl) hfr ?_
         refine Wp.seq ?_
         repeat' first|(apply qCl;rfl;rfl;rfl;rfl;first|exact c1 _|exact c2 _|exact ci _|exact c3 _)|refine Ji ?_|refine Jt ?_|refine Jo ?_|(apply dCl;rfl;rfl;rfl;rfl;rfl;first|exact ct _|exact p1 _|exact p2 _|exact a1 _|exact a2 _|exact a3 _)|(apply dAl;rfl;rfl;rfl;rfl;exact IsV.ptrM;exact IsH.mkN)|refine JB ?_|refine Jh ?_|(apply dWB tOk follows;rfl;kernel_rfl;rfl;exact IsH.mkN)|fail
         all_goals exact hfS _ _
       · rw [decide_eq_true v5] at be
         rw [if_pos v5] at hfr ⊢
         refine Zr (own:=fun d=>Nat.beq d 30013) tOk fe41.ok (by simp only [ZC,frzG,Xm,Zu];rfl) hfr ?_
         refine Wp.seq ?_
         repeat' first|(apply qCl;rfl;rfl;rfl;rfl;first|exact c1 _|exact c2 _|exact ci _|exact c3 _)|refine Ji ?_|refine Jt ?_|refine Jo ?_|(apply dCl;rfl;rfl;rfl;rfl;rfl;first|exact ct _|exact p1 _|exact p2 _|exact a1 _|exact a2 _|exact a3 _)|(apply dAl;rfl;rfl;rfl;rfl;exact IsV.ptrM;exact IsH.mkN)|refine JB ?_|refine Jh ?_|(apply dWB tOk follows;rfl;kernel_rfl;rfl;exact IsH.mkN)|fail
         all_goals (rw [Zn];rfl)
   · rw [if_pos v2]
     have hfr:=hfz key.valid
     have be:=Ye key.valid
     rw [decide_eq_true v2] at be
     clear hhs hks hh hk v1 v2
     generalize key.valid=e at c2 hfr be ⊢
     obtain ⟨k,nm,s,b,kids⟩:=h
     obtain ⟨k1,nm1,s1,b1,kids1⟩:=key
     simp only [Tm.cells] at c1 c2 ⊢
     refine Jw tOk fe41.ok hfr ?_
     repeat' first|refine Jc (c1 _) ?_|refine Jc (c2 _) ?_|refine Ji ?_|refine Jt ?_|refine Jo ?_|fail
     all_goals (rw [Zn];rfl)
 · rw [if_pos v1]
   have hfr:=hfz h.valid
   have be:=Ye h.valid
   rw [decide_eq_true v1] at be
   clear c2 hhs hks hh hk v1
   generalize h.valid=e at c1 hfr be ⊢
   obtain ⟨k,nm,s,b,kids⟩:=h
   obtain ⟨k1,nm1,s1,b1,kids1⟩:=key
   simp only [Tm.cells] at c1 ⊢
   refine Jw tOk fe41.ok hfr ?_
   repeat' first|refine Jc (c1 _) ?_|refine Ji ?_|refine Jo ?_|fail
   all_goals (rw [Zn];rfl)
theorem Zkt (nm:Bs) (x:Tm):∀ H,CallOk E0 Tryz.prog 34 [.str nm,.sl .full 4 [x.cells]] H (.agg (Tm.mk 3 nm 0 true [x]).cells) H:=fun H=>by
 have:=c34 nm (l:=[x]) (by simp) true H
 simp only [Tm.cells,Za,Zw] at this ⊢
 exact Z9 this rfl
theorem Zin (nm:Bs) (x y:Tm):∀ H,CallOk E0 Tryz.prog 34 [.str nm,.sl .full 4 [x.cells,y.cells]] H (.agg (Tm.mk 3 nm 0 true [x,y]).cells) H:=fun H=>by
 have:=c34 nm (l:=[x,y]) (by simp) true H
 simp only [Tm.cells,Za,Zw] at this ⊢
 exact Z9 this rfl
theorem c62 (nm:Bs):∀ H,CallOk E0 Tryz.prog 62 [.str nm] H (.agg (WC nm).cells) H:=by
 have hc:=c72 nm 5
 have e:Yq nm 5=WC nm:=rfl
 rw [e] at hc
 have hf:=Zy 0 hNil (WC nm)
 generalize WC nm=G at hc hf ⊢
 obtain ⟨k,nm',s,b,kids⟩:=G
 simp only [Tm.cells] at hc hf ⊢
 refine Jw tOk fe62.ok hf ?_
 repeat' first|refine Jc (hc _) ?_|refine Jo ?_|fail
 all_goals exact Z2 _ _ _ _ _ _ _
theorem Zr0 (a b:Tm):∀ H,CallOk E0 Tryz.prog 116 [.agg a.cells,.agg b.cells] H (.agg (Tm.mk 3 Wt 0 true [.mk 3 YJ 0 true [a,b]]).cells) H:=by
 have h2:=Zin YJ a b
 have h3:=Zkt Wt (Tm.mk 3 YJ 0 true [a,b])
 have hfr:=Zy 0 hNil (Tm.mk 3 Wt 0 true [.mk 3 YJ 0 true [a,b]])
 generalize Tm.mk 3 Wt 0 true [Tm.mk 3 YJ 0 true [a,b]]=R at h3 hfr ⊢
 generalize Tm.mk 3 YJ 0 true [a,b]=Q at h2 h3
 obtain ⟨k,nm,s,tb,kids⟩:=a
 obtain ⟨k1,nm1,s1,b1,kids1⟩:=R
 obtain ⟨k2,nm2,s2,b2,kids2⟩:=Q
 obtain ⟨k3,nm3,s3,b3,kids3⟩:=b
 simp only [Tm.cells] at h2 h3 hfr ⊢
 refine Jw tOk fe116.ok hfr ?_
 repeat' first|refine Jc (h2 _) ?_|refine Jc (h3 _) ?_|refine Js ?_|refine Jo ?_|fail
 all_goals exact Z2 _ _ _ _ _ _ _
theorem c63 (t:Tm):∀ H,CallOk E0 Tryz.prog 63 [.agg t.cells] H (.agg (XC t).cells) H:=by
 have h1:=c62 Zaf
 have h2:=Zr0 (WC Zaf) t
 have e:Tm.mk 3 Wt 0 true [.mk 3 YJ 0 true [WC Zaf,t]]=XC t:=rfl
 rw [e] at h2
 have hfr:=Zy 0 hNil (XC t)
 generalize XC t=R at h2 hfr ⊢
 generalize WC Zaf=G at h1 h2
 obtain ⟨k,nm,s,b,kids⟩:=t
 obtain ⟨k1,nm1,s1,b1,kids1⟩:=R
 obtain ⟨k2,nm2,s2,b2,kids2⟩:=G
 simp only [Tm.cells] at h1 h2 hfr ⊢
 refine Jw tOk fe63.ok hfr ?_
 repeat' first|refine Jo ?_|refine Jd (h1 _) ?_|refine Jd (h2 _) ?_|refine Jh ?_|(apply Wp.drawS tOk follows;kernel_rfl;rfl)|fail
 all_goals exact Z2 _ _ _ _ _ _ _
theorem c65 (x y:Tm):∀ H,CallOk E0 Tryz.prog 65 [.agg x.cells,.agg y.cells] H (.agg (YQ x y).cells) H:=by
 have h1:=c62 Zah
 have h2:=Zin YJ x y
 have h3:=Zr0 (WC Zah) (Tm.mk 3 YJ 0 true [x,y])
 have e:Tm.mk 3 Wt 0 true [.mk 3 YJ 0 true [WC Zah,Tm.mk 3 YJ 0 true [x,y]]]=YQ x y:=rfl
 rw [e] at h3
 have hfr:=Zy 0 hNil (YQ x y)
 generalize YQ x y=R at h3 hfr ⊢
 generalize Tm.mk 3 YJ 0 true [x,y]=Q at h2 h3
 generalize WC Zah=G at h1 h3
 obtain ⟨k,nm,s,b,kids⟩:=x
 obtain ⟨k1,nm1,s1,b1,kids1⟩:=R
 obtain ⟨k2,nm2,s2,b2,kids2⟩:=G
 obtain ⟨k3,nm3,s3,b3,kids3⟩:=y
 obtain ⟨k4,nm4,s4,b4,kids4⟩:=Q
 simp only [Tm.cells] at h1 h2 h3 hfr ⊢
 refine Jw tOk fe65.ok hfr ?_
 repeat' first|refine Jo ?_|(apply dCl;rfl;rfl;rfl;rfl;rfl;first|exact h1 _|exact h2 _|exact h3 _)|refine JB ?_|refine Jh ?_|(apply Wp.drawS tOk follows;kernel_rfl;rfl)|fail
 all_goals exact Z2 _ _ _ _ _ _ _
theorem ZkY:((List.range 33).all fun n=>Qs E0 100 60 ⟨64,[.int .i64 (n:Int)],.int .i64 (Zo n:Int)⟩)=true:=by kernel_rfl
theorem c64 {n:Nat} (h:n≤32):∀ H,CallOk E0 Tryz.prog 64 [.int .i64 (n:Int)] H (.int .i64 (Zo n:Int)) H:=
 Xn tOk follows fOk zOk (List.all_eq_true.1 ZkY n (List.mem_range.2 (by omega)))
theorem c99 (ht:t.Ok) (hs:t.size≤1000000):∀ H,CallOk E0 Tryz.prog 99 [.agg t.cells] H (.int .i64 (if t.valid≠0 then 3 else 0)) H:=by
 have c1:=Zln ht (by omega)
 have be:=Ye t.valid
 clear ht hs
 generalize t.valid=e at c1 be ⊢
 obtain ⟨k,nm,s,b,kids⟩:=t
 simp only [Tm.cells] at c1 ⊢
 by_cases v:e=0
 · rw [decide_eq_false (not_not_intro v)] at be
   rw [if_neg (not_not_intro v)]
   refine Jw tOk fe99.ok rfl ?_
   repeat' first|refine Jc (c1 _) ?_|refine Ji ?_|refine Jo ?_|fail
   all_goals rfl
 · rw [decide_eq_true v] at be
   rw [if_pos v]
   refine Jw tOk fe99.ok rfl ?_
   repeat' first|refine Jc (c1 _) ?_|refine Ji ?_|refine Jo ?_|fail
   all_goals rfl
theorem ZsT (h key:Tm) (n0:0≤n) (n1:n≤9999):∀ H,CallOk E0 Tryz.prog 146 [.agg h.cells,.int .i64 n,.agg key.cells] H (.agg (Wm h n key).cells) H:=by
 have had:=ZjB n0 n1
 have hc:∀ H,CallOk E0 Tryz.prog 182 [.int .i64 n] H (.str (Lib.itoa n)) H:=by
  obtain ⟨u,rfl⟩:∃ u:Nat,n=(u:Int):=⟨n.toNat,by omega⟩
  have e:Lib.itoa (u:Int)=Lib.decDigits u:=by
   unfold Lib.itoa
   rw [if_neg (by omega)]
   rfl
  rw [e]
  exact ZbA 5 u (by omega) (by omega)
 have hat:=c72 (110::Lib.itoa n) 4
 have ct:=c62 W4
 have a1:=Zin YJ (Qq n) h
 have a2:=Zin YJ (WC W4) (Qi n h)
 have a3:=Zin ZhV (Qa n h) key
 have e0:Yq (110::Lib.itoa n) 4=Qq n:=rfl
 have e1:Tm.mk 3 ZhV 0 true [Qa n h,key]=Wm h n key:=rfl
 have e2:Tm.mk 3 YJ 0 true [WC W4,Qi n h]=Qa n h:=rfl
 have e3:Tm.mk 3 YJ 0 true [Qq n,h]=Qi n h:=rfl
 rw [e0] at hat
 rw [e1] at a3
 rw [e2] at a2
 rw [e3] at a1
 have hfr:=Zy 0 hNil (Wm h n key)
 clear e0 e1 e2 e3 n0 n1
 generalize Wm h n key=S at a3 hfr ⊢
 generalize Qa n h=B at a2 a3
 generalize Qi n h=Z at a1 a2
 generalize WC W4=G at ct a2
 generalize Qq n=N at hat a1
 generalize Lib.itoa n=s0 at had hc hat
 obtain ⟨k,nm,s,b,kids⟩:=h
 obtain ⟨k1,nm1,s1,b1',kids1⟩:=key
 obtain ⟨k2,nm2,s2,b2',kids2⟩:=S
 obtain ⟨k3,nm3,s3,b3',kids3⟩:=B
 obtain ⟨k4,nm4,s4,b4',kids4⟩:=Z
 obtain ⟨k5,nm5,s5,b5',kids5⟩:=G
 obtain ⟨k6,nm6,s6,b6',kids6⟩:=N
 simp only [Tm.cells] at hat ct a1 a2 a3 hfr ⊢
 refine Jw tOk fe146.ok hfr ?_
 repeat' first|refine Jc (hc _) ?_|refine Jc (hat _) ?_|refine Ji ?_|refine Jo ?_|(apply dCl;rfl;rfl;rfl;rfl;rfl;first|exact ct _|exact a1 _|exact a2 _|exact a3 _)|refine JB ?_|refine Jh ?_|(apply Wp.drawS tOk follows;kernel_rfl;rfl)|fail
 all_goals exact Z2 _ _ _ _ _ _ _
theorem c90 (hh:h.Ok) (hhs:h.size≤90000) (hk:key.Ok) (hks:key.size≤90000) (n:Int):∀ H,CallOk E0 Tryz.prog 90 [.agg h.cells,.int .i64 n,.agg key.cells] H (.tup [.agg (Yw id h n key).1.cells,.int .i64 (Yw id h n key).2]) H:=by
 have c1:=Zln hh (by omega)
 have c2:=Zln hk (by omega)
 have hfz:=YG 0 hNil Tm.zero
 unfold Yw
 by_cases v1:h.valid=0
 · rw [if_neg (not_not_intro v1)]
   rw [v1] at c1
   by_cases v2:key.valid=0
   · rw [if_neg (not_not_intro v2)]
     rw [v2] at c2
     by_cases v3:n<0∨32<n
     · rw [if_pos v3]
       have hfr:=hfz 7
       clear hhs hks hh hk v1 v2
       obtain ⟨k,nm,s,b,kids⟩:=h
       obtain ⟨k1,nm1,s1,b1,kids1⟩:=key
       simp only [Tm.cells] at c1 c2 ⊢
       by_cases v4:n<0
       · have b1 := We v4
         refine Jw tOk fe90.ok hfr ?_
         repeat' first|refine Jk ?_|refine Jc (c1 _) ?_|refine Jc (c2 _) ?_|refine Ji ?_|refine Jt ?_|refine Jo ?_|fail
         all_goals (rw [Zn];rfl)
       · have b1 := XS v4
         have b2:=ZgZ (a:=n) (b:=32) (by omega)
         refine Jw tOk fe90.ok hfr ?_
         repeat' first|refine Jc (c1 _) ?_|refine Jc (c2 _) ?_|refine Ji ?_|refine Jt ?_|refine Jo ?_|fail
         all_goals (rw [Zn];rfl)
     · rw [if_neg v3]
       have n0:0≤n:=by omega
       have n1:n≤9999:=by omega
       have b1:=XS (a:=n) (b:=0) (by omega)
       have b2:=Zhb (a:=n) (b:=32) (by omega)
       have cs:=ZsT h key n0 n1
       have hS:=ZcF (n:=n) hh hk n0 n1
       have hSs:=Zcj h n key
       have c3:=c99 hS (by omega)
       simp only [id]
       clear hS hSs hhs hks hh hk v1 v2 v3 n0 n1
       generalize Wm h n key=S at cs c3 ⊢
       generalize S.valid=e at c3 ⊢
       have hfr:=YG 0 hNil (if e≠0 then (Tm.zero,(3:Int)) else (S,0)).1 (if e≠0 then (Tm.zero,(3:Int)) else (S,0)).2
       have hfS:=fun m H=>YG m H S 0
       obtain ⟨k,nm,s,b,kids⟩:=h
       obtain ⟨k1,nm1,s1,b1',kids1⟩:=key
       obtain ⟨k2,nm2,s2,b2',kids2⟩:=S
       simp only [Tm.cells] at c1 c2 c3 cs hfS ⊢
       by_cases v5:e=0
       · rw [if_neg (not_not_intro v5)] at hfr c3 ⊢
         refine Jw tOk fe90.ok hfr ?_
         repeat' first|(apply qCl;rfl;rfl;rfl;rfl;first|exact c1 _|exact c2 _|exact cs _|exact c3 _)|refine Ji ?_|refine Jt ?_|refine Jo ?_|fail
         all_goals exact hfS _ _
       · rw [if_pos v5] at hfr c3 ⊢
         refine Jw tOk fe90.ok hfr ?_
         repeat' first|(apply qCl;rfl;rfl;rfl;rfl;first|exact c1 _|exact c2 _|exact cs _|exact c3 _)|refine Ji ?_|refine Jt ?_|refine Jo ?_|fail
         all_goals (rw [Zn];rfl)
   · rw [if_pos v2]
     have hfr:=hfz key.valid
     have be:=Ye key.valid
     rw [decide_eq_true v2] at be
     clear hhs hks hh hk v1 v2
     generalize key.valid=e at c2 hfr be ⊢
     obtain ⟨k,nm,s,b,kids⟩:=h
     obtain ⟨k1,nm1,s1,b1,kids1⟩:=key
     simp only [Tm.cells] at c1 c2 ⊢
     refine Jw tOk fe90.ok hfr ?_
     repeat' first|refine Jc (c1 _) ?_|refine Jc (c2 _) ?_|refine Ji ?_|refine Jt ?_|refine Jo ?_|fail
     all_goals (rw [Zn];rfl)
 · rw [if_pos v1]
   have hfr:=hfz h.valid
   have be:=Ye h.valid
   rw [decide_eq_true v1] at be
   clear c2 hhs hks hh hk v1
   generalize h.valid=e at c1 hfr be ⊢
   obtain ⟨k,nm,s,b,kids⟩:=h
   obtain ⟨k1,nm1,s1,b1,kids1⟩:=key
   simp only [Tm.cells] at c1 ⊢
   refine Jw tOk fe90.ok hfr ?_
   repeat' first|refine Jc (c1 _) ?_|refine Ji ?_|refine Jo ?_|fail
   all_goals (rw [Zn];rfl)
end Go.Vm.Seat
