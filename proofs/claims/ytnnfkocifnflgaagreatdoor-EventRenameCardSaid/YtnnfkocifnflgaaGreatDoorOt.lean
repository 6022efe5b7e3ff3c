/-
  Normal forms in the program's text: powers of powers (theory.raise).
-/
import Derived.Test.YtnnfkocifnflgaaGreatDoorOs
import Derived.Test.YtnnfkocifnflgaaGreatDoorOh
set_option maxHeartbeats 0
set_option maxRecDepth 100000
namespace Go.Vm
theorem VK {t:Tm} (ht:t.Ok) (hs:t.size≤100000):PwB 1000000 (ofR t).1∧(ofR t).1.length≤100000:=by
 have nil:PwB 1000000 ([]:List Pw)∧([]:List Pw).length≤100000:=⟨PwB.nil _,by simp⟩
 unfold ofR
 split; · exact nil
 split; · exact nil
 rename_i h
 split; · exact nil
 obtain ⟨-,h2,h3⟩:=ZeI (t:=t) (n:=1) (l:=[]) (B:=0) (by simpa using h) trivial (.inl rfl) (by omega) ht hs (PwB.nil 0)
 simp only [List.length_nil] at h3
 exact ⟨h2.mono (by omega),by show (t.colR 1 []).length≤_;omega⟩
theorem Zb1 {a b:List Pw} (ha:PwB 1000000 a) (hb:PwB 1000000 b):PwB 1000000000 (Zbd a b).1∧(Zbd a b).1.length≤100000:=by
 have nil:PwB 1000000000 ([]:List Pw)∧([]:List Pw).length≤100000:=⟨PwB.nil _,by simp⟩
 unfold Zbd Zis
 split; · exact nil
 split; · exact nil
 rename_i h1 h2
 have h1:=Classical.not_not.1 h1
 have h2:=Classical.not_not.1 h2
 obtain ⟨h3,h4⟩:=QS (by decide) ha hb h1 h2 b.length (Nat.le_refl _)
 rw [List.take_length] at h3 h4
 have h5:=Ve h1
 have h6:=Ve h2
 rw [Zfc]
 show PwB 1000000000 (if Zhh (QQ a b)≠0 then [] else QQ a b)∧(if Zhh (QQ a b)≠0 then [] else QQ a b).length≤100000
 split
 · exact nil
 · exact ⟨h3.mono (by omega),by omega⟩
theorem Zkx (f:Bool) (t:Tm):Qs f t=if (ofR t).2≠0 then (.zero,(ofR t).2) else XI f (ofR t).1:=by
 unfold Qs
 rw [ZaX,Zgi]
theorem Zgg (f:Bool) (b e:Tm):X2 f b e=if (ofR e).2≠0 then (.zero,(ofR e).2) else if isA b Yx=true then (if (ofR (b.kd 1)).2≠0 then (.zero,(ofR (b.kd 1)).2) else if (Zbd (ofR (b.kd 1)).1 (ofR e).1).2≠0 then (.zero,(Zbd (ofR (b.kd 1)).1 (ofR e).1).2) else UX f (b.kd 0) (Zbd (ofR (b.kd 1)).1 (ofR e).1).1) else UX f b (ofR e).1:=by
 unfold X2
 rw [ZaX,ZaX,Zep]
theorem ZiP (f:Bool) (b:Tm) (p:List Pw):UX f b p=if p.isEmpty=true then (b,0) else if (XI f p).2≠0 then (.zero,(XI f p).2) else (.mk 3 Yx 0 f [b,(XI f p).1],0):=by
 unfold UX
 rw [Zgi]
end Go.Vm
namespace Go.Vm.Seat
variable {a e:Tm}
open Go.Proofs
theorem UL (P:List Pw):P.isEmpty=decide (((pwL P).length:Int)=0):=by
 rw [ZK]
 cases P with
 |nil=>rfl
 |cons x r=>rw [decide_eq_false (by simp;omega)];rfl
theorem c80 {t:Tm} (ht:t.Ok) (hs:t.size≤100000):∀ H,CallOk E0 Tryz.prog 80 [.agg t.cells] H (.tup [.agg (Qs false t).1.cells,.int .i64 (Qs false t).2]) H:=by
 obtain ⟨F,hO⟩:=Zkj ht hs
 obtain ⟨hA,hB⟩:=VK ht hs
 have hT:=ZlN (hA.mono (by decide)) hB F
 rw [Zkx]
 generalize (ofR t).2=v at hO ⊢
 generalize (ofR t).1=P at hO hT ⊢
 have hfr:=fun m H=>Zx m H (XI false P).1 (XI false P).2
 obtain ⟨k,nm,s,b,kz⟩:=t
 by_cases hv:v≠0
 · rw [if_pos hv]
   have hne:=YK hv
   simp only [Zm,Tm.cells] at hO ⊢
   refine Jw tOk fe80.ok (Z6 _ _ _) ?_
   repeat' first|refine Jc (hO _) ?_|refine Ji ?_|refine Jt ?_|refine Jb ?_ ?_|refine Jo ?_|intro hb
   all_goals rfl
 · have hv := Classical.not_not.1 hv
   subst hv
   rw [if_neg (by simp)]
   generalize (XI false P).2=e at hT hfr ⊢
   generalize (XI false P).1=U at hT hfr ⊢
   obtain ⟨k',nm',s',b',kz'⟩:=U
   simp only [Tm.cells] at hO hT hfr ⊢
   refine Jw tOk fe80.ok (hfr _ _) ?_
   repeat' first|refine Jc (hO _) ?_|refine Jc (hT _) ?_|refine Ji ?_|refine Jt ?_|refine Jb ?_ ?_|refine Jo ?_|intro hb
   all_goals exact hfr _ _
theorem ZnG (nm:Bs) (x y:Tm):∀ H,CallOk E0 Tryz.prog 76 [.str nm,.sl .full 4 [x.cells,y.cells]] H (.agg [.int .i64 3,.str nm,.int .i64 0,.sl .none 4 [x.cells,y.cells]]) H:=fun H=>by
 have:=c76 nm (l:=[x,y]) (by simp) true H
 simp only [Tm.cells,Za,Zp] at this ⊢
 exact ZV this rfl
theorem Zot (h:(ofR e).2≠0) (he':e.Ok∧e.size≤100000):∀ H,CallOk E0 Tryz.prog 81 [.agg a.cells,.agg e.cells] H (.tup [.agg (X2 false a e).1.cells,.int .i64 (X2 false a e).2]) H:=by
 obtain ⟨F,hO⟩:=Zkj he'.1 he'.2
 rw [Zgg,if_pos h]
 generalize (ofR e).2=v at hO h ⊢
 have hne:=YK h
 obtain ⟨k1,n1,s1,f1,l1⟩:=a
 obtain ⟨k2,n2,s2,f2,l2⟩:=e
 simp only [Zm,Tm.cells] at hO ⊢
 refine Jw tOk fe81.ok (Z6 _ _ _) ?_
 repeat' first|refine Jc (hO _) ?_|refine Js ?_|refine Ji ?_|refine JJ ?_|refine Jl ?_|refine Jx ?_|refine Jt ?_|refine Jb ?_ ?_|refine Jo ?_|intro hb
 all_goals rfl
theorem Zob (h:(ofR e).2=0) (hx:isA a Yx=false) (he':e.Ok∧e.size≤100000):∀ H,CallOk E0 Tryz.prog 81 [.agg a.cells,.agg e.cells] H (.tup [.agg (X2 false a e).1.cells,.int .i64 (X2 false a e).2]) H:=by
 obtain ⟨F,hO⟩:=Zkj he'.1 he'.2
 obtain ⟨hA,hB⟩:=VK he'.1 he'.2
 have hT:=ZlN (hA.mono (by decide)) hB F
 have hi:=isR a Yx
 rw [Zgg,if_neg (by rw [h];simp),if_neg (by rw [hx];simp),ZiP]
 rw [h] at hO
 rw [hx] at hi
 clear h hx hA hB
 generalize (ofR e).1=P at hO hT ⊢
 have hl0:=Uf ((pwL P).length:Int) 0
 have hfa:=fun m H=>Zx m H a 0
 have happ:=ZnG Yx a (XI false P).1
 have hfx:=fun m H=>Zx m H (.mk 3 Yx 0 false [a,(XI false P).1]) 0
 generalize (XI false P).2=v at hT ⊢
 generalize (XI false P).1=U at hT happ hfx ⊢
 have hemp:=UL P
 rw [hemp]
 generalize decide (((pwL P).length:Int)=0)=Z at hl0 ⊢
 clear hemp
 obtain ⟨k1,n1,s1,f1,l1⟩:=a
 obtain ⟨k2,n2,s2,f2,l2⟩:=e
 cases Z
 rotate_left
 · rw [if_pos rfl]
   simp only [Tm.cells,Yx] at hO hi hfa ⊢
   refine Jw tOk fe81.ok (hfa _ _) ?_
   repeat' first|refine Jc (hO _) ?_|refine Jc (hi _) ?_|refine Js ?_|refine Ji ?_|refine JJ ?_|refine Jl ?_|refine Jx ?_|refine Jt ?_|refine Jb ?_ ?_|refine Jo ?_|intro hb
   all_goals exact hfa _ _
 · rw [if_neg (by decide)]
   by_cases hv:v≠0
   · rw [if_pos hv]
     have hne:=YK hv
     obtain ⟨k3,n3,s3,f3,l3⟩:=U
     simp only [Tm.cells,Yx,Zm] at hO hi hT ⊢
     refine Jw tOk fe81.ok (Z6 _ _ _) ?_
     repeat' first|(apply qCl;rfl;rfl;rfl;rfl;first|exact hO _|exact hi _|exact hT _)|refine Js ?_|refine Ji ?_|refine JJ ?_|refine Jl ?_|refine Jx ?_|refine Jt ?_|refine Jb ?_ ?_|refine Jo ?_|intro hb
     all_goals rfl
   · have hv := Classical.not_not.1 hv
     subst hv
     rw [if_neg (by simp)]
     obtain ⟨k3,n3,s3,f3,l3⟩:=U
     simp only [Tm.cells,Yx,Za,Zp] at hO hi hT happ hfx ⊢
     refine Jw tOk fe81.ok (hfx _ _) ?_
     repeat' first|(apply qCl;rfl;rfl;rfl;rfl;first|exact hO _|exact hi _|exact hT _|exact happ _)|refine Js ?_|refine Ji ?_|refine JJ ?_|refine Jl ?_|refine Jx ?_|refine Jt ?_|refine Jb ?_ ?_|refine Jo ?_|intro hb
     all_goals exact hfx _ _
theorem Zo1 {x y:Tm} {b:Bool} (h:(ofR e).2=0) (hy:y.Ok∧y.size≤100000) (he':e.Ok∧e.size≤100000):∀ H,CallOk E0 Tryz.prog 81 [.agg (Tm.mk 3 Yx 0 b [x,y]).cells,.agg e.cells] H (.tup [.agg (X2 false (Tm.mk 3 Yx 0 b [x,y]) e).1.cells,.int .i64 (X2 false (Tm.mk 3 Yx 0 b [x,y]) e).2]) H:=by
 obtain ⟨F,hO⟩:=Zkj he'.1 he'.2
 obtain ⟨hA,hB⟩:=VK he'.1 he'.2
 obtain ⟨F2,hO2⟩:=Zkj hy.1 hy.2
 obtain ⟨hA2,hB2⟩:=VK hy.1 hy.2
 obtain ⟨F3,hMl⟩:=Zn0 hA2 hA hB2 hB F2 F
 obtain ⟨hA3,hB3⟩:=Zb1 hA2 hA
 have hT:=ZlN hA3 hB3 F3
 have hi:=isR (.mk 3 Yx 0 b [x,y]) Yx
 rw [Zgg,if_neg (by rw [h];simp),if_pos (show isA (.mk 3 Yx 0 b [x,y]) Yx=true from rfl)]
 show ∀ H,CallOk E0 Tryz.prog 81 _ H (.tup [.agg (Tm.cells (if (ofR y).2≠0 then (Tm.zero,(ofR y).2) else if (Zbd (ofR y).1 (ofR e).1).2≠0 then (Tm.zero,(Zbd (ofR y).1 (ofR e).1).2) else UX false x (Zbd (ofR y).1 (ofR e).1).1).1),.int .i64 (if (ofR y).2≠0 then (Tm.zero,(ofR y).2) else if (Zbd (ofR y).1 (ofR e).1).2≠0 then (Tm.zero,(Zbd (ofR y).1 (ofR e).1).2) else UX false x (Zbd (ofR y).1 (ofR e).1).1).2]) H
 rw [h] at hO
 have hi:∀ H,CallOk E0 Tryz.prog 125 [.agg (Tm.mk 3 Yx 0 b [x,y]).cells,.str Yx] H (.bool true) H:=hi
 clear h hA hB hA2 hB2 hA3 hB3
 generalize (ofR y).2=v2 at hO2 ⊢
 by_cases hv2:v2≠0
 · rw [if_pos hv2]
   have hne:=YK hv2
   clear hMl hT
   obtain ⟨k1,n1,s1,f1,l1⟩:=x
   obtain ⟨k2,n2,s2,f2,l2⟩:=y
   obtain ⟨k3,n3,s3,f3,l3⟩:=e
   simp only [Tm.cells,WN,Yx,Zm] at hO hO2 hi ⊢
   refine Jw tOk fe81.ok (Z6 _ _ _) ?_
   repeat' first|(apply qCl;rfl;rfl;rfl;rfl;first|exact hO _|exact hi _|exact hO2 _)|refine Js ?_|refine Ji ?_|refine JJ ?_|refine Jl ?_|refine Jx ?_|refine Jt ?_|refine Jb ?_ ?_|refine Jo ?_|intro hb
   all_goals rfl
 rw [if_neg hv2]
 have hv2:=Classical.not_not.1 hv2
 subst hv2
 generalize (ofR y).1=P2 at hO2 hMl hT ⊢
 generalize (ofR e).1=P1 at hO hMl hT ⊢
 generalize (Zbd P2 P1).2=v3 at hMl ⊢
 generalize (Zbd P2 P1).1=P at hMl hT ⊢
 by_cases hv3:v3≠0
 · rw [if_pos hv3]
   have hne:=YK hv3
   clear hT
   obtain ⟨k1,n1,s1,f1,l1⟩:=x
   obtain ⟨k2,n2,s2,f2,l2⟩:=y
   obtain ⟨k3,n3,s3,f3,l3⟩:=e
   simp only [Tm.cells,WN,Yx,Zm] at hO hO2 hi ⊢
   refine Jw tOk fe81.ok (Z6 _ _ _) ?_
   repeat' first|(apply qCl;rfl;rfl;rfl;rfl;first|exact hO _|exact hi _|exact hO2 _|exact hMl _)|refine Js ?_|refine Ji ?_|refine JJ ?_|refine Jl ?_|refine Jx ?_|refine Jt ?_|refine Jb ?_ ?_|refine Jo ?_|intro hb
   all_goals rfl
 rw [if_neg hv3,ZiP]
 have hv3:=Classical.not_not.1 hv3
 subst hv3
 have hl0:=Uf ((pwL P).length:Int) 0
 have hfa:=fun m H=>Zx m H x 0
 have happ:=ZnG Yx x (XI false P).1
 have hfx:=fun m H=>Zx m H (.mk 3 Yx 0 false [x,(XI false P).1]) 0
 generalize (XI false P).2=v at hT ⊢
 generalize (XI false P).1=U at hT happ hfx ⊢
 have hemp:=UL P
 rw [hemp]
 generalize decide (((pwL P).length:Int)=0)=Z at hl0 ⊢
 clear hemp
 obtain ⟨k1,n1,s1,f1,l1⟩:=x
 obtain ⟨k2,n2,s2,f2,l2⟩:=y
 obtain ⟨k4,n4,s4,f4,l4⟩:=e
 cases Z
 rotate_left
 · rw [if_pos rfl]
   simp only [Tm.cells,WN,Yx] at hO hO2 hi hfa ⊢
   refine Jw tOk fe81.ok (hfa _ _) ?_
   repeat' first|(apply qCl;rfl;rfl;rfl;rfl;first|exact hO _|exact hi _|exact hO2 _|exact hMl _)|refine Js ?_|refine Ji ?_|refine JJ ?_|refine Jl ?_|refine Jx ?_|refine Jt ?_|refine Jb ?_ ?_|refine Jo ?_|intro hb
   all_goals exact hfa _ _
 · rw [if_neg (by decide)]
   by_cases hv:v≠0
   · rw [if_pos hv]
     have hne:=YK hv
     obtain ⟨k3,n3,s3,f3,l3⟩:=U
     simp only [Tm.cells,WN,Yx,Zm] at hO hO2 hi hT ⊢
     refine Jw tOk fe81.ok (Z6 _ _ _) ?_
     repeat' first|(apply qCl;rfl;rfl;rfl;rfl;first|exact hO _|exact hi _|exact hO2 _|exact hMl _|exact hT _)|refine Js ?_|refine Ji ?_|refine JJ ?_|refine Jl ?_|refine Jx ?_|refine Jt ?_|refine Jb ?_ ?_|refine Jo ?_|intro hb
     all_goals rfl
   · have hv := Classical.not_not.1 hv
     subst hv
     rw [if_neg (by simp)]
     obtain ⟨k3,n3,s3,f3,l3⟩:=U
     simp only [Tm.cells,Yx,Za,Zp] at hO hO2 hi hT happ hfx ⊢
     refine Jw tOk fe81.ok (hfx _ _) ?_
     repeat' first|(apply qCl;rfl;rfl;rfl;rfl;first|exact hO _|exact hi _|exact hO2 _|exact hMl _|exact hT _|exact happ _)|refine Js ?_|refine Ji ?_|refine JJ ?_|refine Jl ?_|refine Jx ?_|refine Jt ?_|refine Jb ?_ ?_|refine Jo ?_|intro hb
     all_goals exact hfx _ _
theorem c81 (ha:a.okA=true) (ha':a.Ok∧a.size≤100000) (he':e.Ok∧e.size≤100000):∀ H,CallOk E0 Tryz.prog 81 [.agg a.cells,.agg e.cells] H (.tup [.agg (X2 false a e).1.cells,.int .i64 (X2 false a e).2]) H:=by
 by_cases h:(ofR e).2=0
 · cases hx : isA a Yx with
   | false=>exact Zob h hx he'
   | true =>
     obtain ⟨b,x,y,rfl⟩:=Y1 ha hx rfl
     exact Zo1 h (W4 ha' (x:=y) (by simp)) he'
 · exact Zot h he'
end Go.Vm.Seat
namespace Go.Vm
theorem VM {t:Tm} (ht:t.Ok) (hs:t.size≤100000):PwB 1000000 (ofG t).1∧(ofG t).1.length≤100000:=by
 rw [ZaX]
 exact VK ht hs
theorem ZeD {a b:List Pw} (ha:PwB 1000000 a) (hb:PwB 1000000 b):PwB 1000000000 (Vd a b).1∧(Vd a b).1.length≤100000:=by
 rw [Zep]
 exact Zb1 ha hb
theorem ZiL (f:Bool) (b:Tm) (p:List Pw):UX f b p=if p.isEmpty=true then (b,0) else if (XG f p).2≠0 then (.zero,(XG f p).2) else (.mk 3 Yx 0 f [b,(XG f p).1],0):=by
 unfold UX
 rw [ZgP]
theorem ZgN (f:Bool) (b e:Tm):X2 f b e=if (ofG e).2≠0 then (.zero,(ofG e).2) else if isA b Yx=true then (if (ofG (b.kd 1)).2≠0 then (.zero,(ofG (b.kd 1)).2) else if (Vd (ofG (b.kd 1)).1 (ofG e).1).2≠0 then (.zero,(Vd (ofG (b.kd 1)).1 (ofG e).1).2) else UX f (b.kd 0) (Vd (ofG (b.kd 1)).1 (ofG e).1).1) else UX f b (ofG e).1:=rfl
theorem Zki (f:Bool) (t:Tm):Qs f t=if (ofG t).2≠0 then (.zero,(ofG t).2) else XG f (ofG t).1:=by
 unfold Qs
 rw [ZgP]
end Go.Vm
namespace Go.Vm.Seat
variable {a e:Tm}
open Go.Proofs
theorem isP (t:Tm) (w:Bs):∀ H,CallOk E0 Tryz.prog 108 [.agg t.cells,.str w] H (.bool (isA t w)) H:=Zie t w
theorem ZkB (nm:Bs) (x y:Tm):∀ H,CallOk E0 Tryz.prog 120 [.str nm,.sl .full 4 [x.cells,y.cells]] H (.agg [.int .i64 3,.str nm,.int .i64 0,.sl .none 4 [x.cells,y.cells]]) H:=fun H=>by
 have:=ZoQ nm [x,y] true H
 simp only [Tm.cells,Za,Zp] at this ⊢
 exact ZV this rfl
theorem ZpA (h:(ofG e).2≠0) (he':e.Ok∧e.size≤100000):∀ H,CallOk E0 Tryz.prog 70 [.agg a.cells,.agg e.cells] H (.tup [.agg (X2 true a e).1.cells,.int .i64 (X2 true a e).2]) H:=by
 obtain ⟨F,hO⟩:=c68 he'.1 he'.2
 rw [ZgN,if_pos h]
 generalize (ofG e).2=v at hO h ⊢
 have hne:=YK h
 obtain ⟨k1,n1,s1,f1,l1⟩:=a
 obtain ⟨k2,n2,s2,f2,l2⟩:=e
 simp only [Zm,Tm.cells] at hO ⊢
 refine Jw tOk fe70.ok (Z6 _ _ _) ?_
 repeat' first|refine Jc (hO _) ?_|refine Js ?_|refine Ji ?_|refine JJ ?_|refine Jl ?_|refine Jx ?_|refine Jt ?_|refine Jb ?_ ?_|refine Jo ?_|intro hb
 all_goals rfl
theorem Zps (h:(ofG e).2=0) (hx:isA a Yx=false) (he':e.Ok∧e.size≤100000):∀ H,CallOk E0 Tryz.prog 70 [.agg a.cells,.agg e.cells] H (.tup [.agg (X2 true a e).1.cells,.int .i64 (X2 true a e).2]) H:=by
 obtain ⟨F,hO⟩:=c68 he'.1 he'.2
 obtain ⟨hA,hB⟩:=VM he'.1 he'.2
 have hT:=c69 (hA.mono (by decide)) hB F
 have hi:=isP a Yx
 rw [ZgN,if_neg (by rw [h];simp),if_neg (by rw [hx];simp),ZiL]
 rw [h] at hO
 rw [hx] at hi
 clear h hx hA hB
 generalize (ofG e).1=P at hO hT ⊢
 have hl0:=Uf ((pwL P).length:Int) 0
 have hfa:=fun m H=>Zx m H a 0
 have happ:=ZkB Yx a (XG true P).1
 have hfx:=fun m H=>Zx m H (.mk 3 Yx 0 true [a,(XG true P).1]) 0
 generalize (XG true P).2=v at hT ⊢
 generalize (XG true P).1=U at hT happ hfx ⊢
 have hemp:=UL P
 rw [hemp]
 generalize decide (((pwL P).length:Int)=0)=Z at hl0 ⊢
 clear hemp
 obtain ⟨k1,n1,s1,f1,l1⟩:=a
 obtain ⟨k2,n2,s2,f2,l2⟩:=e
 cases Z
 rotate_left
 · rw [if_pos rfl]
   simp only [Tm.cells,Yx] at hO hi hfa ⊢
   refine Jw tOk fe70.ok (hfa _ _) ?_
   repeat' first|refine Jc (hO _) ?_|refine Jc (hi _) ?_|refine Js ?_|refine Ji ?_|refine JJ ?_|refine Jl ?_|refine Jx ?_|refine Jt ?_|refine Jb ?_ ?_|refine Jo ?_|intro hb
   all_goals exact hfa _ _
 · rw [if_neg (by decide)]
   by_cases hv:v≠0
   · rw [if_pos hv]
     have hne:=YK hv
     obtain ⟨k3,n3,s3,f3,l3⟩:=U
     simp only [Tm.cells,Yx,Zm] at hO hi hT ⊢
     refine Jw tOk fe70.ok (Z6 _ _ _) ?_
     repeat' first|(apply qCl;rfl;rfl;rfl;rfl;first|exact hO _|exact hi _|exact hT _)|refine Js ?_|refine Ji ?_|refine JJ ?_|refine Jl ?_|refine Jx ?_|refine Jt ?_|refine Jb ?_ ?_|refine Jo ?_|intro hb
     all_goals rfl
   · have hv := Classical.not_not.1 hv
     subst hv
     rw [if_neg (by simp)]
     obtain ⟨k3,n3,s3,f3,l3⟩:=U
     simp only [Tm.cells,Yx,Za,Zp] at hO hi hT happ hfx ⊢
     refine Jw tOk fe70.ok (hfx _ _) ?_
     repeat' first|(apply qCl;rfl;rfl;rfl;rfl;first|exact hO _|exact hi _|exact hT _|exact happ _)|refine Js ?_|refine Ji ?_|refine JJ ?_|refine Jl ?_|refine Jx ?_|refine Jt ?_|refine Jb ?_ ?_|refine Jo ?_|intro hb
     all_goals exact hfx _ _
theorem Zpm {x y:Tm} {b:Bool} (h:(ofG e).2=0) (hy:y.Ok∧y.size≤100000) (he':e.Ok∧e.size≤100000):∀ H,CallOk E0 Tryz.prog 70 [.agg (Tm.mk 3 Yx 0 b [x,y]).cells,.agg e.cells] H (.tup [.agg (X2 true (Tm.mk 3 Yx 0 b [x,y]) e).1.cells,.int .i64 (X2 true (Tm.mk 3 Yx 0 b [x,y]) e).2]) H:=by
 obtain ⟨F,hO⟩:=c68 he'.1 he'.2
 obtain ⟨hA,hB⟩:=VM he'.1 he'.2
 obtain ⟨F2,hO2⟩:=c68 hy.1 hy.2
 obtain ⟨hA2,hB2⟩:=VM hy.1 hy.2
 obtain ⟨F3,hMl⟩:=Zow (fun x hx=>(hA2 x hx).1) (fun x hx=>(hA x hx).1) hB2 hB F2 F
 obtain ⟨hA3,hB3⟩:=ZeD hA2 hA
 have hT:=c69 hA3 hB3 F3
 have hi:=isP (.mk 3 Yx 0 b [x,y]) Yx
 rw [ZgN,if_neg (by rw [h];simp),if_pos (show isA (.mk 3 Yx 0 b [x,y]) Yx=true from rfl)]
 show ∀ H,CallOk E0 Tryz.prog 70 _ H (.tup [.agg (Tm.cells (if (ofG y).2≠0 then (Tm.zero,(ofG y).2) else if (Vd (ofG y).1 (ofG e).1).2≠0 then (Tm.zero,(Vd (ofG y).1 (ofG e).1).2) else UX true x (Vd (ofG y).1 (ofG e).1).1).1),.int .i64 (if (ofG y).2≠0 then (Tm.zero,(ofG y).2) else if (Vd (ofG y).1 (ofG e).1).2≠0 then (Tm.zero,(Vd (ofG y).1 (ofG e).1).2) else UX true x (Vd (ofG y).1 (ofG e).1).1).2]) H
 rw [h] at hO
 have hi:∀ H,CallOk E0 Tryz.prog 108 [.agg (Tm.mk 3 Yx 0 b [x,y]).cells,.str Yx] H (.bool true) H:=hi
 clear h hA hB hA2 hB2 hA3 hB3
 generalize (ofG y).2=v2 at hO2 ⊢
 by_cases hv2:v2≠0
 · rw [if_pos hv2]
   have hne:=YK hv2
   clear hMl hT
   obtain ⟨k1,n1,s1,f1,l1⟩:=x
   obtain ⟨k2,n2,s2,f2,l2⟩:=y
   obtain ⟨k3,n3,s3,f3,l3⟩:=e
   simp only [Tm.cells,WN,Yx,Zm] at hO hO2 hi ⊢
   refine Jw tOk fe70.ok (Z6 _ _ _) ?_
   repeat' first|(apply qCl;rfl;rfl;rfl;rfl;first|exact hO _|exact hi _|exact hO2 _)|refine Js ?_|refine Ji ?_|refine JJ ?_|refine Jl ?_|refine Jx ?_|refine Jt ?_|refine Jb ?_ ?_|refine Jo ?_|intro hb
   all_goals rfl
 rw [if_neg hv2]
 have hv2:=Classical.not_not.1 hv2
 subst hv2
 generalize (ofG y).1=P2 at hO2 hMl hT ⊢
 generalize (ofG e).1=P1 at hO hMl hT ⊢
 generalize (Vd P2 P1).2=v3 at hMl ⊢
 generalize (Vd P2 P1).1=P at hMl hT ⊢
 by_cases hv3:v3≠0
 · rw [if_pos hv3]
   have hne:=YK hv3
   clear hT
   obtain ⟨k1,n1,s1,f1,l1⟩:=x
   obtain ⟨k2,n2,s2,f2,l2⟩:=y
   obtain ⟨k3,n3,s3,f3,l3⟩:=e
   simp only [Tm.cells,WN,Yx,Zm] at hO hO2 hi ⊢
   refine Jw tOk fe70.ok (Z6 _ _ _) ?_
   repeat' first|(apply qCl;rfl;rfl;rfl;rfl;first|exact hO _|exact hi _|exact hO2 _|exact hMl _)|refine Js ?_|refine Ji ?_|refine JJ ?_|refine Jl ?_|refine Jx ?_|refine Jt ?_|refine Jb ?_ ?_|refine Jo ?_|intro hb
   all_goals rfl
 rw [if_neg hv3,ZiL]
 have hv3:=Classical.not_not.1 hv3
 subst hv3
 have hl0:=Uf ((pwL P).length:Int) 0
 have hfa:=fun m H=>Zx m H x 0
 have happ:=ZkB Yx x (XG true P).1
 have hfx:=fun m H=>Zx m H (.mk 3 Yx 0 true [x,(XG true P).1]) 0
 generalize (XG true P).2=v at hT ⊢
 generalize (XG true P).1=U at hT happ hfx ⊢
 have hemp:=UL P
 rw [hemp]
 generalize decide (((pwL P).length:Int)=0)=Z at hl0 ⊢
 clear hemp
 obtain ⟨k1,n1,s1,f1,l1⟩:=x
 obtain ⟨k2,n2,s2,f2,l2⟩:=y
 obtain ⟨k4,n4,s4,f4,l4⟩:=e
 cases Z
 rotate_left
 · rw [if_pos rfl]
   simp only [Tm.cells,WN,Yx] at hO hO2 hi hfa ⊢
   refine Jw tOk fe70.ok (hfa _ _) ?_
   repeat' first|(apply qCl;rfl;rfl;rfl;rfl;first|exact hO _|exact hi _|exact hO2 _|exact hMl _)|refine Js ?_|refine Ji ?_|refine JJ ?_|refine Jl ?_|refine Jx ?_|refine Jt ?_|refine Jb ?_ ?_|refine Jo ?_|intro hb
   all_goals exact hfa _ _
 · rw [if_neg (by decide)]
   by_cases hv:v≠0
   · rw [if_pos hv]
     have hne:=YK hv
     obtain ⟨k3,n3,s3,f3,l3⟩:=U
     simp only [Tm.cells,WN,Yx,Zm] at hO hO2 hi hT ⊢
     refine Jw tOk fe70.ok (Z6 _ _ _) ?_
     repeat' first|(apply qCl;rfl;rfl;rfl;rfl;first|exact hO _|exact hi _|exact hO2 _|exact hMl _|exact hT _)|refine Js ?_|refine Ji ?_|refine JJ ?_|refine Jl ?_|refine Jx ?_|refine Jt ?_|refine Jb ?_ ?_|refine Jo ?_|intro hb
     all_goals rfl
   · have hv := Classical.not_not.1 hv
     subst hv
     rw [if_neg (by simp)]
     obtain ⟨k3,n3,s3,f3,l3⟩:=U
     simp only [Tm.cells,Yx,Za,Zp] at hO hO2 hi hT happ hfx ⊢
     refine Jw tOk fe70.ok (hfx _ _) ?_
     repeat' first|(apply qCl;rfl;rfl;rfl;rfl;first|exact hO _|exact hi _|exact hO2 _|exact hMl _|exact hT _|exact happ _)|refine Js ?_|refine Ji ?_|refine JJ ?_|refine Jl ?_|refine Jx ?_|refine Jt ?_|refine Jb ?_ ?_|refine Jo ?_|intro hb
     all_goals exact hfx _ _
theorem c70 (ha:a.okA=true) (ha':a.Ok∧a.size≤100000) (he':e.Ok∧e.size≤100000):∀ H,CallOk E0 Tryz.prog 70 [.agg a.cells,.agg e.cells] H (.tup [.agg (X2 true a e).1.cells,.int .i64 (X2 true a e).2]) H:=by
 by_cases h:(ofG e).2=0
 · cases hx : isA a Yx with
   | false=>exact Zps h hx he'
   | true =>
     obtain ⟨b,x,y,rfl⟩:=Y1 ha hx rfl
     exact Zpm h (W4 ha' (x:=y) (by simp)) he'
 · exact ZpA h he'
