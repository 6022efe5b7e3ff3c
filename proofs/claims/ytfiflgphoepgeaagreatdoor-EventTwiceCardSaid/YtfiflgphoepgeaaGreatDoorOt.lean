/-
  Normal forms in the program's text: powers of powers (theory.raise).
-/
import Derived.Test.YtfiflgphoepgeaaGreatDoorOs
import Derived.Test.YtfiflgphoepgeaaGreatDoorOh
set_option maxHeartbeats 0
set_option maxRecDepth 100000
namespace Go.Vm
theorem Ug {t:Tm} (ht:t.Ok) (hs:t.size≤100000):PwB 1000000 (ofR t).1∧(ofR t).1.length≤100000:=by
 have nil:PwB 1000000 ([]:List Pw)∧([]:List Pw).length≤100000:=⟨PwB.nil _,by simp⟩
 unfold ofR
 split; · exact nil
 split; · exact nil
 rename_i h
 split; · exact nil
 obtain ⟨-,h2,h3⟩:=Zgg (t:=t) (n:=1) (l:=[]) (B:=0) (by simpa using h) trivial (.inl rfl) (by omega) ht hs (PwB.nil 0)
 simp only [List.length_nil] at h3
 exact ⟨h2.mono (by omega),by show (t.colR 1 []).length≤_;omega⟩
theorem Zdg {a b:List Pw} (ha:PwB 1000000 a) (hb:PwB 1000000 b):PwB 1000000000 (ZbO a b).1∧(ZbO a b).1.length≤100000:=by
 have nil:PwB 1000000000 ([]:List Pw)∧([]:List Pw).length≤100000:=⟨PwB.nil _,by simp⟩
 unfold ZbO Zlu
 split; · exact nil
 split; · exact nil
 rename_i h1 h2
 have h1:=Classical.not_not.1 h1
 have h2:=Classical.not_not.1 h2
 obtain ⟨h3,h4⟩:=ZaF (by decide) ha hb h1 h2 b.length (Nat.le_refl _)
 rw [List.take_length] at h3 h4
 have h5:=Vs h1
 have h6:=Vs h2
 rw [ZgA]
 show PwB 1000000000 (if Zjf (Zam a b)≠0 then [] else Zam a b)∧(if Zjf (Zam a b)≠0 then [] else Zam a b).length≤100000
 split
 · exact nil
 · exact ⟨h3.mono (by omega),by omega⟩
theorem ZoO (f:Bool) (t:Tm):Q0 f t=if (ofR t).2≠0 then (.zero,(ofR t).2) else XN f (ofR t).1:=by
 unfold Q0
 rw [ZbF,ZgQ]
theorem ZhO (f:Bool) (b e:Tm):Wq f b e=if (ofR e).2≠0 then (.zero,(ofR e).2) else if isA b YE=true then (if (ofR (b.kd 1)).2≠0 then (.zero,(ofR (b.kd 1)).2) else if (ZbO (ofR (b.kd 1)).1 (ofR e).1).2≠0 then (.zero,(ZbO (ofR (b.kd 1)).1 (ofR e).1).2) else QG f (b.kd 0) (ZbO (ofR (b.kd 1)).1 (ofR e).1).1) else QG f b (ofR e).1:=by
 unfold Wq
 rw [ZbF,ZbF,ZeA]
theorem ZlC (f:Bool) (b:Tm) (p:List Pw):QG f b p=if p.isEmpty=true then (b,0) else if (XN f p).2≠0 then (.zero,(XN f p).2) else (.mk 3 YE 0 f [b,(XN f p).1],0):=by
 unfold QG
 rw [ZgQ]
end Go.Vm
namespace Go.Vm.Seat
variable {a e:Tm}
open Go.Proofs
theorem Qa (P:List Pw):P.isEmpty=decide (((pwL P).length:Int)=0):=by
 rw [ZO]
 cases P with
 |nil=>rfl
 |cons x r=>rw [decide_eq_false (by simp;omega)];rfl
theorem ZtL {t:Tm} (ht:t.Ok) (hs:t.size≤100000):∀ H,CallOk E0 Tryz.prog 152 [.agg t.cells] H (.tup [.agg (Q0 false t).1.cells,.int .i64 (Q0 false t).2]) H:=by
 obtain ⟨F,hO⟩:=ZnT ht hs
 obtain ⟨hA,hB⟩:=Ug ht hs
 have hT:=ZpR (hA.mono (by decide)) hB F
 rw [ZoO]
 generalize (ofR t).2=v at hO ⊢
 generalize (ofR t).1=P at hO hT ⊢
 have hfr:=fun m H=>ZE m H (XN false P).1 (XN false P).2
 obtain ⟨k,nm,s,b,kz⟩:=t
 by_cases hv:v≠0
 · rw [if_pos hv]
   have hne:=YQ hv
   simp only [Zn,Tm.cells] at hO ⊢
   refine Jw tOk fe152.ok (Yc _ _ _) ?_
   repeat' first|refine Jc (hO _) ?_|refine Ji ?_|refine Jo ?_|fail
   all_goals rfl
 · have hv := Classical.not_not.1 hv
   subst hv
   rw [if_neg (by simp)]
   generalize (XN false P).2=e at hT hfr ⊢
   generalize (XN false P).1=U at hT hfr ⊢
   obtain ⟨k',nm',s',b',kz'⟩:=U
   simp only [Tm.cells] at hO hT hfr ⊢
   refine Jw tOk fe152.ok (hfr _ _) ?_
   repeat' first|refine Jc (hO _) ?_|refine Jc (hT _) ?_|refine Jt ?_|refine Jo ?_|fail
   all_goals exact hfr _ _
theorem Zrx (nm:Bs) (x y:Tm):∀ H,CallOk E0 Tryz.prog 104 [.str nm,.sl .full 4 [x.cells,y.cells]] H (.agg [.int .i64 3,.str nm,.int .i64 0,.sl .none 4 [x.cells,y.cells]]) H:=fun H=>by
 have:=Zlt nm (l:=[x,y]) (by simp) true H
 simp only [Tm.cells,Za,Zm] at this ⊢
 exact Zr this rfl
theorem Zto (h:(ofR e).2≠0) (he':e.Ok∧e.size≤100000):∀ H,CallOk E0 Tryz.prog 153 [.agg a.cells,.agg e.cells] H (.tup [.agg (Wq false a e).1.cells,.int .i64 (Wq false a e).2]) H:=by
 obtain ⟨F,hO⟩:=ZnT he'.1 he'.2
 rw [ZhO,if_pos h]
 generalize (ofR e).2=v at hO h ⊢
 have hne:=YQ h
 obtain ⟨k1,n1,s1,f1,l1⟩:=a
 obtain ⟨k2,n2,s2,f2,l2⟩:=e
 simp only [Zn,Tm.cells] at hO ⊢
 refine Jw tOk fe153.ok (Yc _ _ _) ?_
 repeat' first|refine Jc (hO _) ?_|refine Ji ?_|refine Jo ?_|fail
 all_goals rfl
theorem Zr0 (h:(ofR e).2=0) (hx:isA a YE=false) (he':e.Ok∧e.size≤100000):∀ H,CallOk E0 Tryz.prog 153 [.agg a.cells,.agg e.cells] H (.tup [.agg (Wq false a e).1.cells,.int .i64 (Wq false a e).2]) H:=by
 obtain ⟨F,hO⟩:=ZnT he'.1 he'.2
 obtain ⟨hA,hB⟩:=Ug he'.1 he'.2
 have hT:=ZpR (hA.mono (by decide)) hB F
 have hi:=isR a YE
 rw [ZhO,if_neg (by rw [h];simp),if_neg (by rw [hx];simp),ZlC]
 rw [h] at hO
 rw [hx] at hi
 clear h hx hA hB
 generalize (ofR e).1=P at hO hT ⊢
 have hl0:=YB ((pwL P).length:Int) 0
 have hfa:=fun m H=>ZE m H a 0
 have happ:=Zrx YE a (XN false P).1
 have hfx:=fun m H=>ZE m H (.mk 3 YE 0 false [a,(XN false P).1]) 0
 generalize (XN false P).2=v at hT ⊢
 generalize (XN false P).1=U at hT happ hfx ⊢
 have hemp:=Qa P
 rw [hemp]
 generalize decide (((pwL P).length:Int)=0)=Z at hl0 ⊢
 clear hemp
 obtain ⟨k1,n1,s1,f1,l1⟩:=a
 obtain ⟨k2,n2,s2,f2,l2⟩:=e
 cases Z
 rotate_left
 · rw [if_pos rfl]
   simp only [Tm.cells,YE] at hO hi hfa ⊢
   refine Jw tOk fe153.ok (hfa _ _) ?_
   repeat' first|refine Jc (hO _) ?_|refine Jc (hi _) ?_|refine Ji ?_|refine Jl ?_|refine Jt ?_|refine Jo ?_|fail
   all_goals exact hfa _ _
 · rw [if_neg (by decide)]
   by_cases hv:v≠0
   · rw [if_pos hv]
     have hne:=YQ hv
     obtain ⟨k3,n3,s3,f3,l3⟩:=U
     simp only [Tm.cells,YE,Zn] at hO hi hT ⊢
     refine Jw tOk fe153.ok (Yc _ _ _) ?_
     repeat' first|(apply qCl;rfl;rfl;rfl;rfl;first|exact hO _|exact hi _|exact hT _)|refine Ji ?_|refine Jl ?_|refine Jt ?_|refine Jo ?_|fail
     all_goals rfl
   · have hv := Classical.not_not.1 hv
     subst hv
     rw [if_neg (by simp)]
     obtain ⟨k3,n3,s3,f3,l3⟩:=U
     simp only [Tm.cells,YE,Za,Zm] at hO hi hT happ hfx ⊢
     refine Jw tOk fe153.ok (hfx _ _) ?_
     repeat' first|(apply qCl;rfl;rfl;rfl;rfl;first|exact hO _|exact hi _|exact hT _|exact happ _)|refine Js ?_|refine Ji ?_|refine Jl ?_|refine Jt ?_|refine Jo ?_|fail
     all_goals exact hfx _ _
theorem Zs3 {x y:Tm} {b:Bool} (h:(ofR e).2=0) (hy:y.Ok∧y.size≤100000) (he':e.Ok∧e.size≤100000):∀ H,CallOk E0 Tryz.prog 153 [.agg (Tm.mk 3 YE 0 b [x,y]).cells,.agg e.cells] H (.tup [.agg (Wq false (Tm.mk 3 YE 0 b [x,y]) e).1.cells,.int .i64 (Wq false (Tm.mk 3 YE 0 b [x,y]) e).2]) H:=by
 obtain ⟨F,hO⟩:=ZnT he'.1 he'.2
 obtain ⟨hA,hB⟩:=Ug he'.1 he'.2
 obtain ⟨F2,hO2⟩:=ZnT hy.1 hy.2
 obtain ⟨hA2,hB2⟩:=Ug hy.1 hy.2
 obtain ⟨F3,hMl⟩:=Ztp hA2 hA hB2 hB F2 F
 obtain ⟨hA3,hB3⟩:=Zdg hA2 hA
 have hT:=ZpR hA3 hB3 F3
 have hi:=isR (.mk 3 YE 0 b [x,y]) YE
 rw [ZhO,if_neg (by rw [h];simp),if_pos (show isA (.mk 3 YE 0 b [x,y]) YE=true from rfl)]
 show ∀ H,CallOk E0 Tryz.prog 153 _ H (.tup [.agg (Tm.cells (if (ofR y).2≠0 then (Tm.zero,(ofR y).2) else if (ZbO (ofR y).1 (ofR e).1).2≠0 then (Tm.zero,(ZbO (ofR y).1 (ofR e).1).2) else QG false x (ZbO (ofR y).1 (ofR e).1).1).1),.int .i64 (if (ofR y).2≠0 then (Tm.zero,(ofR y).2) else if (ZbO (ofR y).1 (ofR e).1).2≠0 then (Tm.zero,(ZbO (ofR y).1 (ofR e).1).2) else QG false x (ZbO (ofR y).1 (ofR e).1).1).2]) H
 rw [h] at hO
 have hi:∀ H,CallOk E0 Tryz.prog 181 [.agg (Tm.mk 3 YE 0 b [x,y]).cells,.str YE] H (.bool true) H:=hi
 clear h hA hB hA2 hB2 hA3 hB3
 generalize (ofR y).2=v2 at hO2 ⊢
 by_cases hv2:v2≠0
 · rw [if_pos hv2]
   have hne:=YQ hv2
   clear hMl hT
   obtain ⟨k1,n1,s1,f1,l1⟩:=x
   obtain ⟨k2,n2,s2,f2,l2⟩:=y
   obtain ⟨k3,n3,s3,f3,l3⟩:=e
   simp only [Tm.cells,W4,YE,Zn] at hO hO2 hi ⊢
   refine Jw tOk fe153.ok (Yc _ _ _) ?_
   repeat' first|(apply qCl;rfl;rfl;rfl;rfl;first|exact hO _|exact hi _|exact hO2 _)|refine Ji ?_|refine Jt ?_|refine Jo ?_|fail
   all_goals rfl
 rw [if_neg hv2]
 have hv2:=Classical.not_not.1 hv2
 subst hv2
 generalize (ofR y).1=P2 at hO2 hMl hT ⊢
 generalize (ofR e).1=P1 at hO hMl hT ⊢
 generalize (ZbO P2 P1).2=v3 at hMl ⊢
 generalize (ZbO P2 P1).1=P at hMl hT ⊢
 by_cases hv3:v3≠0
 · rw [if_pos hv3]
   have hne:=YQ hv3
   clear hT
   obtain ⟨k1,n1,s1,f1,l1⟩:=x
   obtain ⟨k2,n2,s2,f2,l2⟩:=y
   obtain ⟨k3,n3,s3,f3,l3⟩:=e
   simp only [Tm.cells,W4,YE,Zn] at hO hO2 hi ⊢
   refine Jw tOk fe153.ok (Yc _ _ _) ?_
   repeat' first|(apply qCl;rfl;rfl;rfl;rfl;first|exact hO _|exact hi _|exact hO2 _|exact hMl _)|refine Ji ?_|refine Jt ?_|refine Jo ?_|fail
   all_goals rfl
 rw [if_neg hv3,ZlC]
 have hv3:=Classical.not_not.1 hv3
 subst hv3
 have hl0:=YB ((pwL P).length:Int) 0
 have hfa:=fun m H=>ZE m H x 0
 have happ:=Zrx YE x (XN false P).1
 have hfx:=fun m H=>ZE m H (.mk 3 YE 0 false [x,(XN false P).1]) 0
 generalize (XN false P).2=v at hT ⊢
 generalize (XN false P).1=U at hT happ hfx ⊢
 have hemp:=Qa P
 rw [hemp]
 generalize decide (((pwL P).length:Int)=0)=Z at hl0 ⊢
 clear hemp
 obtain ⟨k1,n1,s1,f1,l1⟩:=x
 obtain ⟨k2,n2,s2,f2,l2⟩:=y
 obtain ⟨k4,n4,s4,f4,l4⟩:=e
 cases Z
 rotate_left
 · rw [if_pos rfl]
   simp only [Tm.cells,W4,YE] at hO hO2 hi hfa ⊢
   refine Jw tOk fe153.ok (hfa _ _) ?_
   repeat' first|(apply qCl;rfl;rfl;rfl;rfl;first|exact hO _|exact hi _|exact hO2 _|exact hMl _)|refine Ji ?_|refine Jl ?_|refine Jt ?_|refine Jo ?_|fail
   all_goals exact hfa _ _
 · rw [if_neg (by decide)]
   by_cases hv:v≠0
   · rw [if_pos hv]
     have hne:=YQ hv
     obtain ⟨k3,n3,s3,f3,l3⟩:=U
     simp only [Tm.cells,W4,YE,Zn] at hO hO2 hi hT ⊢
     refine Jw tOk fe153.ok (Yc _ _ _) ?_
     repeat' first|(apply qCl;rfl;rfl;rfl;rfl;first|exact hO _|exact hi _|exact hO2 _|exact hMl _|exact hT _)|refine Ji ?_|refine Jl ?_|refine Jt ?_|refine Jo ?_|fail
     all_goals rfl
   · have hv := Classical.not_not.1 hv
     subst hv
     rw [if_neg (by simp)]
     obtain ⟨k3,n3,s3,f3,l3⟩:=U
     simp only [Tm.cells,YE,Za,Zm] at hO hO2 hi hT happ hfx ⊢
     refine Jw tOk fe153.ok (hfx _ _) ?_
     repeat' first|(apply qCl;rfl;rfl;rfl;rfl;first|exact hO _|exact hi _|exact hO2 _|exact hMl _|exact hT _|exact happ _)|refine Js ?_|refine Ji ?_|refine Jl ?_|refine Jt ?_|refine Jo ?_|fail
     all_goals exact hfx _ _
theorem ZrW (ha:a.okA=true) (ha':a.Ok∧a.size≤100000) (he':e.Ok∧e.size≤100000):∀ H,CallOk E0 Tryz.prog 153 [.agg a.cells,.agg e.cells] H (.tup [.agg (Wq false a e).1.cells,.int .i64 (Wq false a e).2]) H:=by
 by_cases h:(ofR e).2=0
 · cases hx : isA a YE with
   | false=>exact Zr0 h hx he'
   | true =>
     obtain ⟨b,x,y,rfl⟩:=Y7 ha hx rfl
     exact Zs3 h (Vj ha' (x:=y) (by simp)) he'
 · exact Zto h he'
end Go.Vm.Seat
namespace Go.Vm
theorem VW {t:Tm} (ht:t.Ok) (hs:t.size≤100000):PwB 1000000 (ofG t).1∧(ofG t).1.length≤100000:=by
 rw [ZbF]
 exact Ug ht hs
theorem Zgi {a b:List Pw} (ha:PwB 1000000 a) (hb:PwB 1000000 b):PwB 1000000000 (Vp a b).1∧(Vp a b).1.length≤100000:=by
 rw [ZeA]
 exact Zdg ha hb
theorem ZkM (f:Bool) (b:Tm) (p:List Pw):QG f b p=if p.isEmpty=true then (b,0) else if (XQ f p).2≠0 then (.zero,(XQ f p).2) else (.mk 3 YE 0 f [b,(XQ f p).1],0):=by
 unfold QG
 rw [Ziq]
theorem ZhP (f:Bool) (b e:Tm):Wq f b e=if (ofG e).2≠0 then (.zero,(ofG e).2) else if isA b YE=true then (if (ofG (b.kd 1)).2≠0 then (.zero,(ofG (b.kd 1)).2) else if (Vp (ofG (b.kd 1)).1 (ofG e).1).2≠0 then (.zero,(Vp (ofG (b.kd 1)).1 (ofG e).1).2) else QG f (b.kd 0) (Vp (ofG (b.kd 1)).1 (ofG e).1).1) else QG f b (ofG e).1:=rfl
theorem ZnH (f:Bool) (t:Tm):Q0 f t=if (ofG t).2≠0 then (.zero,(ofG t).2) else XQ f (ofG t).1:=by
 unfold Q0
 rw [Ziq]
end Go.Vm
namespace Go.Vm.Seat
variable {a e:Tm}
open Go.Proofs
theorem isP (t:Tm) (w:Bs):∀ H,CallOk E0 Tryz.prog 113 [.agg t.cells,.str w] H (.bool (isA t w)) H:=Zj4 t w
theorem Zot (nm:Bs) (x y:Tm):∀ H,CallOk E0 Tryz.prog 125 [.str nm,.sl .full 4 [x.cells,y.cells]] H (.agg [.int .i64 3,.str nm,.int .i64 0,.sl .none 4 [x.cells,y.cells]]) H:=fun H=>by
 have:=ZsC nm [x,y] true H
 simp only [Tm.cells,Za,Zm] at this ⊢
 exact Zr this rfl
theorem Zr3 (h:(ofG e).2≠0) (he':e.Ok∧e.size≤100000):∀ H,CallOk E0 Tryz.prog 76 [.agg a.cells,.agg e.cells] H (.tup [.agg (Wq true a e).1.cells,.int .i64 (Wq true a e).2]) H:=by
 obtain ⟨F,hO⟩:=c74 he'.1 he'.2
 rw [ZhP,if_pos h]
 generalize (ofG e).2=v at hO h ⊢
 have hne:=YQ h
 obtain ⟨k1,n1,s1,f1,l1⟩:=a
 obtain ⟨k2,n2,s2,f2,l2⟩:=e
 simp only [Zn,Tm.cells] at hO ⊢
 refine Jw tOk fe76.ok (Yc _ _ _) ?_
 repeat' first|refine Jc (hO _) ?_|refine Ji ?_|refine Jo ?_|fail
 all_goals rfl
theorem ZsY (h:(ofG e).2=0) (hx:isA a YE=false) (he':e.Ok∧e.size≤100000):∀ H,CallOk E0 Tryz.prog 76 [.agg a.cells,.agg e.cells] H (.tup [.agg (Wq true a e).1.cells,.int .i64 (Wq true a e).2]) H:=by
 obtain ⟨F,hO⟩:=c74 he'.1 he'.2
 obtain ⟨hA,hB⟩:=VW he'.1 he'.2
 have hT:=c75 (hA.mono (by decide)) hB F
 have hi:=isP a YE
 rw [ZhP,if_neg (by rw [h];simp),if_neg (by rw [hx];simp),ZkM]
 rw [h] at hO
 rw [hx] at hi
 clear h hx hA hB
 generalize (ofG e).1=P at hO hT ⊢
 have hl0:=YB ((pwL P).length:Int) 0
 have hfa:=fun m H=>ZE m H a 0
 have happ:=Zot YE a (XQ true P).1
 have hfx:=fun m H=>ZE m H (.mk 3 YE 0 true [a,(XQ true P).1]) 0
 generalize (XQ true P).2=v at hT ⊢
 generalize (XQ true P).1=U at hT happ hfx ⊢
 have hemp:=Qa P
 rw [hemp]
 generalize decide (((pwL P).length:Int)=0)=Z at hl0 ⊢
 clear hemp
 obtain ⟨k1,n1,s1,f1,l1⟩:=a
 obtain ⟨k2,n2,s2,f2,l2⟩:=e
 cases Z
 rotate_left
 · rw [if_pos rfl]
   simp only [Tm.cells,YE] at hO hi hfa ⊢
   refine Jw tOk fe76.ok (hfa _ _) ?_
   repeat' first|refine Jc (hO _) ?_|refine Jc (hi _) ?_|refine Ji ?_|refine Jl ?_|refine Jt ?_|refine Jo ?_|fail
   all_goals exact hfa _ _
 · rw [if_neg (by decide)]
   by_cases hv:v≠0
   · rw [if_pos hv]
     have hne:=YQ hv
     obtain ⟨k3,n3,s3,f3,l3⟩:=U
     simp only [Tm.cells,YE,Zn] at hO hi hT ⊢
     refine Jw tOk fe76.ok (Yc _ _ _) ?_
     repeat' first|(apply qCl;rfl;rfl;rfl;rfl;first|exact hO _|exact hi _|exact hT _)|refine Ji ?_|refine Jl ?_|refine Jt ?_|refine Jo ?_|fail
     all_goals rfl
   · have hv := Classical.not_not.1 hv
     subst hv
     rw [if_neg (by simp)]
     obtain ⟨k3,n3,s3,f3,l3⟩:=U
     simp only [Tm.cells,YE,Za,Zm] at hO hi hT happ hfx ⊢
     refine Jw tOk fe76.ok (hfx _ _) ?_
     repeat' first|(apply qCl;rfl;rfl;rfl;rfl;first|exact hO _|exact hi _|exact hT _|exact happ _)|refine Js ?_|refine Ji ?_|refine Jl ?_|refine Jt ?_|refine Jo ?_|fail
     all_goals exact hfx _ _
theorem ZsR {x y:Tm} {b:Bool} (h:(ofG e).2=0) (hy:y.Ok∧y.size≤100000) (he':e.Ok∧e.size≤100000):∀ H,CallOk E0 Tryz.prog 76 [.agg (Tm.mk 3 YE 0 b [x,y]).cells,.agg e.cells] H (.tup [.agg (Wq true (Tm.mk 3 YE 0 b [x,y]) e).1.cells,.int .i64 (Wq true (Tm.mk 3 YE 0 b [x,y]) e).2]) H:=by
 obtain ⟨F,hO⟩:=c74 he'.1 he'.2
 obtain ⟨hA,hB⟩:=VW he'.1 he'.2
 obtain ⟨F2,hO2⟩:=c74 hy.1 hy.2
 obtain ⟨hA2,hB2⟩:=VW hy.1 hy.2
 obtain ⟨F3,hMl⟩:=Zsz (fun x hx=>(hA2 x hx).1) (fun x hx=>(hA x hx).1) hB2 hB F2 F
 obtain ⟨hA3,hB3⟩:=Zgi hA2 hA
 have hT:=c75 hA3 hB3 F3
 have hi:=isP (.mk 3 YE 0 b [x,y]) YE
 rw [ZhP,if_neg (by rw [h];simp),if_pos (show isA (.mk 3 YE 0 b [x,y]) YE=true from rfl)]
 show ∀ H,CallOk E0 Tryz.prog 76 _ H (.tup [.agg (Tm.cells (if (ofG y).2≠0 then (Tm.zero,(ofG y).2) else if (Vp (ofG y).1 (ofG e).1).2≠0 then (Tm.zero,(Vp (ofG y).1 (ofG e).1).2) else QG true x (Vp (ofG y).1 (ofG e).1).1).1),.int .i64 (if (ofG y).2≠0 then (Tm.zero,(ofG y).2) else if (Vp (ofG y).1 (ofG e).1).2≠0 then (Tm.zero,(Vp (ofG y).1 (ofG e).1).2) else QG true x (Vp (ofG y).1 (ofG e).1).1).2]) H
 rw [h] at hO
 have hi:∀ H,CallOk E0 Tryz.prog 113 [.agg (Tm.mk 3 YE 0 b [x,y]).cells,.str YE] H (.bool true) H:=hi
 clear h hA hB hA2 hB2 hA3 hB3
 generalize (ofG y).2=v2 at hO2 ⊢
 by_cases hv2:v2≠0
 · rw [if_pos hv2]
   have hne:=YQ hv2
   clear hMl hT
   obtain ⟨k1,n1,s1,f1,l1⟩:=x
   obtain ⟨k2,n2,s2,f2,l2⟩:=y
   obtain ⟨k3,n3,s3,f3,l3⟩:=e
   simp only [Tm.cells,W4,YE,Zn] at hO hO2 hi ⊢
   refine Jw tOk fe76.ok (Yc _ _ _) ?_
   repeat' first|(apply qCl;rfl;rfl;rfl;rfl;first|exact hO _|exact hi _|exact hO2 _)|refine Ji ?_|refine Jt ?_|refine Jo ?_|fail
   all_goals rfl
 rw [if_neg hv2]
 have hv2:=Classical.not_not.1 hv2
 subst hv2
 generalize (ofG y).1=P2 at hO2 hMl hT ⊢
 generalize (ofG e).1=P1 at hO hMl hT ⊢
 generalize (Vp P2 P1).2=v3 at hMl ⊢
 generalize (Vp P2 P1).1=P at hMl hT ⊢
 by_cases hv3:v3≠0
 · rw [if_pos hv3]
   have hne:=YQ hv3
   clear hT
   obtain ⟨k1,n1,s1,f1,l1⟩:=x
   obtain ⟨k2,n2,s2,f2,l2⟩:=y
   obtain ⟨k3,n3,s3,f3,l3⟩:=e
   simp only [Tm.cells,W4,YE,Zn] at hO hO2 hi ⊢
   refine Jw tOk fe76.ok (Yc _ _ _) ?_
   repeat' first|(apply qCl;rfl;rfl;rfl;rfl;first|exact hO _|exact hi _|exact hO2 _|exact hMl _)|refine Ji ?_|refine Jt ?_|refine Jo ?_|fail
   all_goals rfl
 rw [if_neg hv3,ZkM]
 have hv3:=Classical.not_not.1 hv3
 subst hv3
 have hl0:=YB ((pwL P).length:Int) 0
 have hfa:=fun m H=>ZE m H x 0
 have happ:=Zot YE x (XQ true P).1
 have hfx:=fun m H=>ZE m H (.mk 3 YE 0 true [x,(XQ true P).1]) 0
 generalize (XQ true P).2=v at hT ⊢
 generalize (XQ true P).1=U at hT happ hfx ⊢
 have hemp:=Qa P
 rw [hemp]
 generalize decide (((pwL P).length:Int)=0)=Z at hl0 ⊢
 clear hemp
 obtain ⟨k1,n1,s1,f1,l1⟩:=x
 obtain ⟨k2,n2,s2,f2,l2⟩:=y
 obtain ⟨k4,n4,s4,f4,l4⟩:=e
 cases Z
 rotate_left
 · rw [if_pos rfl]
   simp only [Tm.cells,W4,YE] at hO hO2 hi hfa ⊢
   refine Jw tOk fe76.ok (hfa _ _) ?_
   repeat' first|(apply qCl;rfl;rfl;rfl;rfl;first|exact hO _|exact hi _|exact hO2 _|exact hMl _)|refine Ji ?_|refine Jl ?_|refine Jt ?_|refine Jo ?_|fail
   all_goals exact hfa _ _
 · rw [if_neg (by decide)]
   by_cases hv:v≠0
   · rw [if_pos hv]
     have hne:=YQ hv
     obtain ⟨k3,n3,s3,f3,l3⟩:=U
     simp only [Tm.cells,W4,YE,Zn] at hO hO2 hi hT ⊢
     refine Jw tOk fe76.ok (Yc _ _ _) ?_
     repeat' first|(apply qCl;rfl;rfl;rfl;rfl;first|exact hO _|exact hi _|exact hO2 _|exact hMl _|exact hT _)|refine Ji ?_|refine Jl ?_|refine Jt ?_|refine Jo ?_|fail
     all_goals rfl
   · have hv := Classical.not_not.1 hv
     subst hv
     rw [if_neg (by simp)]
     obtain ⟨k3,n3,s3,f3,l3⟩:=U
     simp only [Tm.cells,YE,Za,Zm] at hO hO2 hi hT happ hfx ⊢
     refine Jw tOk fe76.ok (hfx _ _) ?_
     repeat' first|(apply qCl;rfl;rfl;rfl;rfl;first|exact hO _|exact hi _|exact hO2 _|exact hMl _|exact hT _|exact happ _)|refine Js ?_|refine Ji ?_|refine Jl ?_|refine Jt ?_|refine Jo ?_|fail
     all_goals exact hfx _ _
theorem c76 (ha:a.okA=true) (ha':a.Ok∧a.size≤100000) (he':e.Ok∧e.size≤100000):∀ H,CallOk E0 Tryz.prog 76 [.agg a.cells,.agg e.cells] H (.tup [.agg (Wq true a e).1.cells,.int .i64 (Wq true a e).2]) H:=by
 by_cases h:(ofG e).2=0
 · cases hx : isA a YE with
   | false=>exact ZsY h hx he'
   | true =>
     obtain ⟨b,x,y,rfl⟩:=Y7 ha hx rfl
     exact ZsR h (Vj ha' (x:=y) (by simp)) he'
 · exact Zr3 h he'
