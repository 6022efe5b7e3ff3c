/-
  What is sent in a trace, the moments of a session, those of some kinds: both tex
-/
import Derived.Test.YtcopccjkfbmpcaaGreatDoorAwOr
set_option maxHeartbeats 0
set_option maxRecDepth 100000
namespace Go.Vm.Seat
variable {t:Tm} {a b:Int} {l:List Mo} {l':List Tm} {i:Nat}
open Go.Proofs
theorem Zcp (k:Int) (nm:List UInt8) (s:Int) (b:Bool) (kz:List Tm):XM [.int .i64 k,.str nm,.int .i64 s,slV b 4 (Za kz)]=some [.int .i64 k,.str nm,.int .i64 s,slV b 4 (Za kz)]:=by
 simp only [XM,ZE]
 rfl
theorem d56 (a b:Int):∀ H,CallOk E1 Tryz.prog 56 [.int .i64 a,.int .i64 b] H (.int .i64 (WR a b)) H:=by
 refine Jw ZfJ fe56.ok rfl ?_
 repeat' first|refine Jt ?_|refine Jb ?_ ?_|refine Jo ?_|intro hb
 all_goals (refine Ze ?_;simp [WR] at *;try omega)
theorem Zry (a b:Int):∀ H,CallOk E1 Tryz.prog 100 [.int .i64 a,.int .i64 b] H (.int .i64 (WR a b)) H:=by
 refine Jw ZfJ fe100.ok rfl ?_
 repeat' first|refine Jb ?_ ?_|refine Jo ?_|intro hb
 all_goals (refine Ze ?_;simp [WR] at *;try omega)
theorem Zvp (a b:List UInt8):∀ H,CallOk E1 Tryz.prog 126 [.str a,.str b] H (.int .i64 (QO a b)) H:=fun H=>by
 have:=(ZpQ [.str a,.str b] H _ _ rfl).1
 rwa [VK] at this
theorem d92 (a b:List UInt8):∀ H,CallOk E1 Tryz.prog 92 [.str a,.str b] H (.int .i64 (QO a b)) H:=by
 have hc:=Zvp a b
 refine Jw ZfJ fe92.ok rfl ?_
 repeat' first|refine Jc (hc _) ?_|refine Jo ?_|fail
 all_goals rfl
theorem d58 (a b:List UInt8):∀ H,CallOk E1 Tryz.prog 58 [.str a,.str b] H (.int .i64 (QO a b)) H:=by
 have hc:=d92 a b
 refine Jw ZfJ fe58.ok rfl ?_
 repeat' first|refine Jc (hc _) ?_|refine Jo ?_|fail
 all_goals rfl
theorem ZtV (ht:t.Ok):t.size<4611686018427387904→∀ H,CallOk E1 Tryz.prog 101 [.agg t.cells] H (.int .i64 (t.size:Int)) H:=by
 induction ht with
 | @mk k nm s b kz hk hs hn hl hok ih=>
 intro hsz
 refine Jw ZfJ fe101.ok rfl ?_ (by simp [Zx,frzG,Tm.cells,Zcp])
 repeat' first|refine Jo ?_|fail
 refine Wp.while (fun m tm H=>∃ i base,i+m=kz.length∧tm=ovr base [(1,.ptr 0 4 0 0),(3,.int .i64 ((1+Zl (kz.take i):Nat):Int)),(4,.int .i64 (i:Int))]∧H=⟨[.cells 4 [[.int .i64 k,.str nm,.int .i64 s,slV b 4 (Za kz)]]],0,[],0⟩)
  (fun m tm H hI=>?_) kz.length _ _ ⟨0,_,by omega,Zf ⟨rfl,rfl,rfl,trivial⟩,rfl⟩
 obtain ⟨i,base,hi,rfl,rfl⟩:=hI
 simp only [Tm.size] at hsz
 unfold maxLen at hl
 by_cases hlt:i<kz.length
 · obtain ⟨t', ht'⟩ : ∃ t', kz[i]? = some t' := ⟨kz[i], by simp⟩
   have hm:t'∈kz:=List.mem_of_getElem? ht'
   have hle:=XG hm
   have hst:=Wz ht'
   have hsl:=ZL kz (i+1)
   have hc:=ih t' hm (by omega)
   obtain ⟨k',nm',s',b',kz'⟩:=t'
   have hj:=Zk ht'
   repeat' first|refine Jc (hc _) ?_|refine Jl ?_|refine Jx ?_|refine Jb ?_ ?_|refine Jo ?_|intro hb
   · refine LoopI.go (m - 1) (by omega) ⟨i + 1, _, by omega, Zf ⟨rfl, ?_, ?_, trivial⟩, rfl⟩
     · refine Ze ?_
       rw [hst, ← Nat.add_assoc,Int.natCast_add (1+Zl (kz.take i)), ← Int.natCast_add]
       exact Zd (by omega)
     · exact Ze (Zd (n:=i+1) (by omega))
   · exfalso;rw [Zb] at hb;simp at hb<;>omega
 · have e : i = kz.length := by omega
   subst e
   repeat' first|refine Jl ?_|refine Jb ?_ ?_|refine Jo ?_|intro hb
   · exfalso;rw [Zb] at hb;simp at hb
   · simp [Tm.size]
theorem d57 (ht:t.Ok):t.size<4611686018427387904→∀ H,CallOk E1 Tryz.prog 57 [.agg t.cells] H (.int .i64 (t.size:Int)) H:=by
 induction ht with
 | @mk k nm s b kz hk hs hn hl hok ih=>
 intro hsz
 refine Jw ZfJ fe57.ok rfl ?_ (by simp [Zx,frzG,Tm.cells,Zcp])
 repeat' first|refine Jl ?_|refine Jo ?_|fail
 refine Wp.while (fun m tm H=>∃ (i:Nat),∃ base,i+m=kz.length∧tm=ovr base [(3,.int .i64 ((1+Zl (kz.take i):Nat):Int)),(7,slV b 4 (Za kz)),(8,.int .i64 (kz.length:Int)),(9,.int .i64 (i:Int))]∧H=⟨[.cells 4 [[.int .i64 k,.str nm,.int .i64 s,slV b 4 (Za kz)]]],0,[],0⟩)
  (fun m tm H hI=>Wp.drop ?_) kz.length _ _ ⟨0,_,by omega,Zf ⟨rfl,rfl,Ze (by rw [Zb]),rfl,trivial⟩,rfl⟩
 obtain ⟨i,base,hi,rfl,rfl⟩:=hI
 simp only [Tm.size] at hsz
 unfold maxLen at hl
 by_cases hlt:i<kz.length
 · obtain ⟨t', ht'⟩ : ∃ t', kz[i]? = some t' := ⟨kz[i], by simp⟩
   have hm:t'∈kz:=List.mem_of_getElem? ht'
   have hle:=XG hm
   have hst:=Wz ht'
   have hsl:=ZL kz (i+1)
   have hc:=ih t' hm (by omega)
   obtain ⟨k',nm',s',b',kz'⟩:=t'
   have hj:=Zk ht'
   repeat' first|refine Jc (hc _) ?_|refine Jx ?_|refine Jz ?_ ?_|refine Jo ?_|intro hb
   · refine DropQ.go [(3, .int .i64 ((1 + Zl (kz.take (i + 1)) : Nat) : Int)), (7, slV b 4 (Za kz)), (8, .int .i64 (kz.length : Int)), (9, .int .i64 ((i + 1 : Nat) : Int))] ⟨?_, rfl, rfl, Ze (Zd (n := i + 1) (by omega)), trivial⟩
       (by simp [Zh,under]) rfl (by simp [YJ,ZM,Zh,under]) (LoopI.go (m-1) (by omega) ⟨i+1,_,by omega,rfl,rfl⟩)
     refine Ze ?_
     rw [hst, ← Nat.add_assoc,Int.natCast_add (1+Zl (kz.take i)), ← Int.natCast_add]
     exact Zd (by omega)
   · exfalso;simp at hb<;>omega
 · have e : i = kz.length := by omega
   subst e
   repeat' first|refine Jz ?_ ?_|refine Jo ?_|intro hb
   · exfalso;simp at hb
   · simp [Tm.size]
theorem ZgA (k:Int) (nm:List UInt8) (s:Int) (b:Bool) (l:List Tm):((Tm.mk k nm s b l).size:Int)=((1+Zl l:Nat):Int):=by simp [Tm.size]
theorem Zrh (h:a≠0):thn a b=a:=if_pos h
theorem W4 (h:a=0):thn a b=b:=if_neg (by simpa using h)
theorem Zdq {l:List Tm} {a b:Tm} (h:l[i]? = some a) (h':l'[i]? = some b):VX (l.drop i) (l'.drop i)=thn (a.cmp b) (VX (l.drop (i+1)) (l'.drop (i+1))):=by
 rw [Zy h,Zy h'];simp only [VX]
theorem cmpL_end {l:List Tm}:VX (l.drop l.length) (l'.drop l.length)=0:=by simp [VX]
theorem d67:∀ {t u:Tm},t.Ok→u.Ok→t.size<4611686018427387904→u.size<4611686018427387904→∀ H,CallOk E1 Tryz.prog 67 [.agg t.cells,.agg u.cells] H (.int .i64 (t.cmp u)) H:=by
 intro t u ht
 induction ht generalizing u with
 | @mk k nm s b kz hk hs hn hl hok ih=>
 intro hu hsz hsz2
 have hu0:=hu
 cases hu with
 | @mk k2 nm2 s2 b2 kz2 hk2 hs2 hn2 hl2 hok2=>
 have hsize:=ZtV (Tm.Ok.mk (b:=b) hk hs hn hl hok) hsz
 have hsize2:=ZtV (Tm.Ok.mk (b:=b2) hk2 hs2 hn2 hl2 hok2) hsz2
 rw [ZgA] at hsize hsize2
 have hc1:=Zry ((1+Zl kz:Nat):Int) ((1+Zl kz2:Nat):Int)
 have hc2:=Zry k k2
 have hc4:=Zry s s2
 have hc5:=Zry (kz.length:Int) (kz2.length:Int)
 have hcmp:(Tm.mk k nm s b kz).cmp (Tm.mk k2 nm2 s2 b2 kz2)=thn (WR ((1+Zl kz:Nat):Int) ((1+Zl kz2:Nat):Int)) (thn (WR k k2) (thn (QO nm nm2) (thn (WR s s2) (thn (WR (kz.length:Int) (kz2.length:Int)) (VX kz kz2))))):=by simp only [Tm.cmp]
 rw [hcmp]
 generalize WR ((1+Zl kz:Nat):Int) ((1+Zl kz2:Nat):Int)=x1 at hc1 ⊢
 generalize WR k k2=x2 at hc2 ⊢
 generalize WR s s2=x4 at hc4 ⊢
 obtain ⟨x5,hx5⟩:∃ x5,x5=WR (kz.length:Int) (kz2.length:Int):=⟨_,rfl⟩
 rw [← hx5] at hc5 ⊢
 rw [← Zb kz, ← Zb kz2] at hc5
 refine Jw ZfJ fe67.ok rfl ?_ (by simp [Zx,frzG,Tm.cells,Zcp])
 repeat' first|(apply qCl;rfl;rfl;rfl;rfl;first|exact hc2 _|exact hc4 _|exact hc5 _)|refine Jl ?_|refine Jb ?_ ?_|refine Jo ?_|(apply dCl;rfl;rfl;rfl;rfl;rfl;first|exact hsize _|exact hsize2 _|exact hc1 _)|refine Jh ?_|(apply Wp.draw ZfJ follows;kernel_rfl)|intro hb
 all_goals first
  | (refine Ze ?_;clear hsize hsize2 hc1 hc2 hc4 hc5 ih hok hok2 hcmp hx5 hu0;simp_all [thn,QO];done)
  | skip
 have hb5:x5=0:=by simpa using hb
 have h5:kz.length=kz2.length:=by have:=Wx (hx5.symm.trans hb5);omega
 have hx:thn x1 (thn x2 (thn (QO nm nm2) (thn x4 (thn x5 (VX kz kz2)))))=VX kz kz2:=by
  clear hsize hsize2 hc1 hc2 hc4 hc5 ih hok hok2 hcmp hx5 hu0
  simp_all [thn,QO]
 rw [hx]
 clear hsize hsize2 hc1 hc2 hc4 hc5 hcmp hu0
 refine Wp.while (fun m tm H=>∃ (i:Nat),∃ base,i+m=kz.length∧VX kz kz2=VX (kz.drop i) (kz2.drop i)∧tm=ovr base [(2,.ptr 0 4 0 0),(3,.ptr 1 4 0 0),(9,.int .i64 (i:Int))]∧H=⟨[.cells 4 [[.int .i64 k,.str nm,.int .i64 s,slV b 4 (Za kz)]],.cells 4 [[.int .i64 k2,.str nm2,.int .i64 s2,slV b2 4 (Za kz2)]]],0,[],0⟩)
  (fun m tm H hI=>?_) kz.length _ _ ⟨0,_,by omega,by simp,Zf ⟨rfl,rfl,rfl,trivial⟩,rfl⟩
 obtain ⟨i,base,hi,hcm,rfl,rfl⟩:=hI
 rw [hcm]
 unfold maxLen at hl
 by_cases hlt:i<kz.length
 · obtain ⟨t', ht'⟩ : ∃ t', kz[i]? = some t' := ⟨kz[i], by simp⟩
   obtain ⟨u',hu'⟩:∃ u',kz2[i]? = some u':=⟨kz2[i]'(by omega),by simp⟩
   have hm:t'∈kz:=List.mem_of_getElem? ht'
   have hm2:u'∈kz2:=List.mem_of_getElem? hu'
   simp only [Tm.size] at hsz hsz2
   have hle:=XG hm
   have hle2:=XG hm2
   have hc:=ih t' hm (hok2 u' hm2) (by omega) (by omega)
   have hdr:=Zdq ht' hu'
   obtain ⟨y,hy⟩:∃ y,y=t'.cmp u':=⟨_,rfl⟩
   rw [← hy] at hc hdr
   rw [hdr]
   obtain ⟨k',nm',s',b',kz'⟩:=t'
   obtain ⟨k2',nm2',s2',b2',kz2'⟩:=u'
   have hj:=Zk ht'
   have hj2:=Zk hu'
   repeat' first|refine Jl ?_|refine Jb ?_ ?_|refine Jo ?_|refine Jd (hc _) ?_|refine JI ?_|refine Jh ?_|(apply Wp.draw ZfJ follows;kernel_rfl)|intro hb
   · refine Ze ?_
     rw [Zrh (by simpa using hb)]
   · have hy0 : y = 0 := by simpa using hb
     refine LoopI.go (m-1) (by omega) ⟨i+1,_,by omega,by rw [W4 hy0],Zf ⟨rfl,rfl,?_,trivial⟩,rfl⟩
     exact Ze (Zd (n:=i+1) (by omega))
   all_goals (exfalso;rw [Zb] at hb;simp at hb;omega)
 · have e : i = kz.length := by omega
   subst e
   repeat' first|refine Jl ?_|refine Jb ?_ ?_|refine Jo ?_|refine Jh ?_|(apply Wp.draw ZfJ follows;kernel_rfl)|intro hb
   · exfalso;rw [Zb] at hb;simp at hb
   · exact Ze cmpL_end.symm
theorem Qt (a b:Int):WR a b=0∨WR a b= -1∨WR a b=1:=by
 simp only [WR]
 split
 · simp
 · split<;>simp
theorem ZmA (a b:List UInt8):QO a b=0∨QO a b= -1∨QO a b=1:=by
 simp only [QO]
 split
 · simp
 · split<;>simp
theorem Zhp (h:a=0∨a= -1∨a=1) (h':b=0∨b= -1∨b=1):thn a b=0∨thn a b= -1∨thn a b=1:=by
 unfold thn;split<;>assumption
mutual
theorem ZpV:∀ t u:Tm,t.cmp u=0∨t.cmp u= -1∨t.cmp u=1
 | .mk k nm s b l, .mk k' nm' s' b' l' => by
   simp only [Tm.cmp]
   exact Zhp (Qt _ _) (Zhp (Qt _ _) (Zhp (ZmA _ _) (Zhp (Qt _ _) (Zhp (Qt _ _) (ZmF l l')))))
theorem ZmF:∀ l l':List Tm,VX l l'=0∨VX l l'= -1∨VX l l'=1
 | [],_=>by simp [VX]
 |_::_,[]=>by simp [VX]
 | a :: r, b :: r' => by
   simp only [VX]
   exact Zhp (ZpV a b) (ZmF r r')
end
theorem d28:∀ {t u:Tm},t.Ok→u.Ok→t.size<4611686018427387904→u.size<4611686018427387904→∀ H,CallOk E1 Tryz.prog 28 [.agg t.cells,.agg u.cells] H (.int .i64 (t.cmp u)) H:=by
 intro t u ht
 induction ht generalizing u with
 | @mk k nm s b kz hk hs hn hl hok ih=>
 intro hu hsz hsz2
 cases hu with
 | @mk k2 nm2 s2 b2 kz2 hk2 hs2 hn2 hl2 hok2=>
 have hsize:=d57 (Tm.Ok.mk (b:=b) hk hs hn hl hok) hsz
 have hsize2:=d57 (Tm.Ok.mk (b:=b2) hk2 hs2 hn2 hl2 hok2) hsz2
 rw [ZgA] at hsize hsize2
 have hc1:=d56 ((1+Zl kz:Nat):Int) ((1+Zl kz2:Nat):Int)
 have hc2:=d56 k k2
 have hc3:=d58 nm nm2
 have hc4:=d56 s s2
 have hc5:=d56 (kz.length:Int) (kz2.length:Int)
 have hcmp:(Tm.mk k nm s b kz).cmp (Tm.mk k2 nm2 s2 b2 kz2)=thn (WR ((1+Zl kz:Nat):Int) ((1+Zl kz2:Nat):Int)) (thn (WR k k2) (thn (QO nm nm2) (thn (WR s s2) (thn (WR (kz.length:Int) (kz2.length:Int)) (VX kz kz2))))):=by simp only [Tm.cmp]
 rw [hcmp]
 clear hcmp
 have v1:=Qt ((1+Zl kz:Nat):Int) ((1+Zl kz2:Nat):Int)
 have v2:=Qt k k2
 have v3:=ZmA nm nm2
 have v4:=Qt s s2
 have v5:=Qt (kz.length:Int) (kz2.length:Int)
 generalize WR ((1+Zl kz:Nat):Int) ((1+Zl kz2:Nat):Int)=x1 at hc1 v1 ⊢
 generalize WR k k2=x2 at hc2 v2 ⊢
 generalize QO nm nm2=x3 at hc3 v3 ⊢
 generalize WR s s2=x4 at hc4 v4 ⊢
 obtain ⟨x5,hx5⟩:∃ x5,x5=WR (kz.length:Int) (kz2.length:Int):=⟨_,rfl⟩
 rw [← hx5] at hc5 v5 ⊢
 rw [← Zb kz, ← Zb kz2] at hc5
 refine Jw ZfJ fe28.ok rfl ?_ (by simp [Zx,frzG,Tm.cells,Zcp])
 obtain ⟨G,hG⟩:∃ G,G=thn x1 (thn x2 (thn x3 (thn x4 (thn x5 (VX kz kz2))))):=⟨_,rfl⟩
 rw [← hG]
 have hlen:x5=0→kz.length=kz2.length:=fun h=>by have:=Wx (hx5.symm.trans h);omega
 clear hx5
 rcases v1 with rfl|rfl|rfl
 rcases v2 with rfl|rfl|rfl
 rcases v3 with rfl|rfl|rfl
 rcases v4 with rfl|rfl|rfl
 rcases v5 with rfl|rfl|rfl
 all_goals
  repeat' first|(apply qCl;rfl;rfl;rfl;rfl;first|exact hc2 _|exact hc3 _|exact hc4 _|exact hc5 _)|refine Jl ?_|refine Jt ?_|refine Jo ?_|(apply dCl;rfl;rfl;rfl;rfl;rfl;first|exact hsize _|exact hsize2 _|exact hc1 _)|refine Jh ?_|(apply Wp.draw ZfJ follows;kernel_rfl)|fail
  refine Wp.while (fun m tm H=>∃ (i:Nat),∃ base,∃ y:Int,i+m=kz.length∧(y=0∨y= -1∨y=1)∧(y=0→kz.length=kz2.length)∧G=thn y (VX (kz.drop i) (kz2.drop i))∧tm=ovr base [(2,.ptr 0 4 0 0),(3,.ptr 1 4 0 0),(5,.int .i64 y),(6,.int .i64 (i:Int))]∧H=⟨[.cells 4 [[.int .i64 k,.str nm,.int .i64 s,slV b 4 (Za kz)]],.cells 4 [[.int .i64 k2,.str nm2,.int .i64 s2,slV b2 4 (Za kz2)]]],0,[],0⟩)
   (fun m tm H hI=>?_) kz.length _ _ ⟨0,_,_,by omega,by omega,by first|exact hlen|(intro h;simp at h),by simp [hG,thn],Zf ⟨rfl,rfl,rfl,rfl,trivial⟩,rfl⟩
  clear hG hsize hsize2 hc1 hc2 hc3 hc4 hc5 hlen
  obtain ⟨i,base,y,hi,hy,hyl,hG,rfl,rfl⟩:=hI
  unfold maxLen at hl
  rcases hy with rfl|hy
  · have h5 := hyl rfl
    rw [W4 rfl] at hG
    by_cases hlt:i<kz.length
    · obtain ⟨t', ht'⟩ : ∃ t', kz[i]? = some t' := ⟨kz[i], by simp⟩
      obtain ⟨u',hu'⟩:∃ u',kz2[i]? = some u':=⟨kz2[i]'(by omega),by simp⟩
      have hm:t'∈kz:=List.mem_of_getElem? ht'
      have hm2:u'∈kz2:=List.mem_of_getElem? hu'
      simp only [Tm.size] at hsz hsz2
      have hle:=XG hm
      have hle2:=XG hm2
      have hc:=ih t' hm (hok2 u' hm2) (by omega) (by omega)
      have hdr:=Zdq ht' hu'
      have h3:=ZpV t' u'
      obtain ⟨z,hz⟩:∃ z,z=t'.cmp u':=⟨_,rfl⟩
      rw [← hz] at hc hdr h3
      obtain ⟨k',nm',s',b',kz'⟩:=t'
      obtain ⟨k2',nm2',s2',b2',kz2'⟩:=u'
      have hj:=Zk ht'
      have hj2:=Zk hu'
      repeat' first|refine Jl ?_|refine Jt ?_|refine Jb ?_ ?_|refine Jo ?_|refine Jd (hc _) ?_|refine JI ?_|refine Jh ?_|(apply Wp.draw ZfJ follows;kernel_rfl)|intro hb
      · refine LoopI.go (m - 1) (by omega) ⟨i + 1, _, z, by omega, h3, fun _ => h5, hG.trans hdr, Zf ⟨rfl, rfl, rfl, ?_, trivial⟩, rfl⟩
        exact Ze (Zd (n:=i+1) (by omega))
      · exfalso;rw [Zb] at hb;simp at hb;omega
    · have e : i = kz.length := by omega
      subst e
      repeat' first|refine Jl ?_|refine Jt ?_|refine Jb ?_ ?_|refine Jo ?_|refine Jh ?_|(apply Wp.draw ZfJ follows;kernel_rfl)|intro hb
      · exfalso;rw [Zb] at hb;simp at hb
      · exact Ze (by rw [hG];exact cmpL_end.symm)
  · rcases hy with rfl | rfl
    ·
      repeat' first|refine Jk ?_|refine Jt ?_|refine Jo ?_|fail
      exact Ze hG.symm
    ·
      repeat' first|refine Jk ?_|refine Jt ?_|refine Jo ?_|fail
      exact Ze hG.symm
theorem Xq (k:Int) (nm:List UInt8) (s:Int) (b:Bool) (kz:List Tm):XM [.int .i64 k,.str nm,.int .i64 s,slV b 4 (Za kz)]=some [.int .i64 k,.str nm,.int .i64 s,slV b 4 (Za kz)]:=by
 simp only [XM,ZE]
 rfl
theorem ZuW (ht:t.Ok):t.size<4611686018427387904→∀ H,CallOk E0 Tryz.prog 101 [.agg t.cells] H (.int .i64 (t.size:Int)) H:=by
 induction ht with
 | @mk k nm s b kz hk hs hn hl hok ih=>
 intro hsz
 refine Jw tOk fe101.ok rfl ?_
 repeat' first|refine Jo ?_|fail
 refine Wp.while (fun m tm H=>∃ i base,i+m=kz.length∧tm=ovr base [(1,.ptr 0 4 0 0),(3,.int .i64 ((1+Zl (kz.take i):Nat):Int)),(4,.int .i64 (i:Int))]∧H=⟨[.cells 4 [[.int .i64 k,.str nm,.int .i64 s,slV b 4 (Za kz)]]],0,[],0⟩)
  (fun m tm H hI=>?_) kz.length _ _ ⟨0,_,by omega,Zf ⟨rfl,rfl,rfl,trivial⟩,rfl⟩
 obtain ⟨i,base,hi,rfl,rfl⟩:=hI
 simp only [Tm.size] at hsz
 unfold maxLen at hl
 by_cases hlt:i<kz.length
 · obtain ⟨t', ht'⟩ : ∃ t', kz[i]? = some t' := ⟨kz[i], by simp⟩
   have hm:t'∈kz:=List.mem_of_getElem? ht'
   have hle:=XG hm
   have hst:=Wz ht'
   have hsl:=ZL kz (i+1)
   have hc:=ih t' hm (by omega)
   obtain ⟨k',nm',s',b',kz'⟩:=t'
   have hj:=Zk ht'
   repeat' first|refine Jc (hc _) ?_|refine Jl ?_|refine Jx ?_|refine Jb ?_ ?_|refine Jo ?_|intro hb
   · refine LoopI.go (m - 1) (by omega) ⟨i + 1, _, by omega, Zf ⟨rfl, ?_, ?_, trivial⟩, rfl⟩
     · refine Ze ?_
       rw [hst, ← Nat.add_assoc,Int.natCast_add (1+Zl (kz.take i)), ← Int.natCast_add]
       exact Zd (by omega)
     · exact Ze (Zd (n:=i+1) (by omega))
   · rw [Zb] at hb;simp at hb;omega
 · have e : i = kz.length := by omega
   subst e
   repeat' first|refine Jl ?_|refine Jb ?_ ?_|refine Jo ?_|intro hb
   · rw [Zb] at hb;simp at hb
   · simp [Tm.size]
theorem Zur (k:Int) (nm:List UInt8) (s:Int) (b:Bool) (kz:List Tm) (w:List UInt8):∀ H,CallOk E0 Tryz.prog 175 [.agg [.int .i64 k,.str nm,.int .i64 s,slV b 4 (Za kz)],.str w] H (.bool (isF k nm w)) H:=by
 refine Jw tOk fe175.ok rfl ?_ (by simp [Zx,frzG,Xq,frz1])
 repeat' first|refine Jk ?_|refine Jt ?_|refine Jb ?_ ?_|refine Jo ?_|intro hb
 all_goals simp_all [isF]
theorem ZD {n m by_:Nat} (h:n+m≤10000000) (hb:by_≤1000000):V3 n m by_=true:=by
 simp only [V3,Bool.and_eq_true,Nat.ble_eq]
 have:=Nat.mul_le_mul (show n+m+256≤10000256 by omega) hb
 omega
theorem Yh:ApT E0 29 29 4 56:=⟨_,_,_,_,_,rfl,rfl,rfl,rfl,rfl,rfl,rfl,by decide,rfl⟩
theorem Zgp:ApT E0 25 25 6 80:=⟨_,_,_,_,_,rfl,rfl,rfl,rfl,rfl,rfl,rfl,by decide,rfl⟩
theorem ZO (l:List Tm):noB (Za l)=true:=by
 simp only [YD,noB,List.all_map,List.all_eq_true]
 rintro ⟨k,nm,s,b,kz⟩ _
 rfl
theorem ZeW (l:List Mo):noB (moC l)=true:=by
 simp only [moC,noB,List.all_map,List.all_eq_true]
 rintro ⟨⟩ _
 rfl
theorem ZiI (l:List Mo):(moC l).all (fun c=>c.all ZX)=true:=by
 simp only [moC,List.all_map,List.all_eq_true]
 intro m _
 exact m.cells_ok
theorem c9 (hl : l.length ≤ 1000) (b : Bool) :
  ∀ H,CallOk E0 Tryz.prog 9 [slV b 6 (moC l)] H (slV b 6 (moC l)) H:=by
 refine Jw tOk fe9.ok (ZK _ _ _ _ _) ?_
 obtain ⟨out',lv',nt',hap,hA, -⟩:=(ApV.full (es:=6) [] [] 0 (rfl:false=false) rfl).app Zgp (.slV b 6 (moC l)) (ZiI l) (ZD (by simp [YH];omega) (by decide)) (ZeW l)
 cases hL:moC l with
 | nil =>
   rw [hL] at hap hA
   cases b with
   | true =>
     rw [Zg] at hap ⊢
     repeat' first|refine Jt ?_|refine Jo ?_|fail
     all_goals rfl
   | false =>
     rw [ZC] at hap ⊢
     repeat' first|refine Js ?_|refine JA ?_|refine Jt ?_|refine Jo ?_|fail
     first
      | exact hA.frz3 _ _
      | exact (hA.frz3 _ _).trans (by rw [List.append_nil,ZC])
 | cons c r =>
   rw [hL,Zm] at hap
   rw [hL] at hA
   rw [Zm]
   repeat' first|refine Js ?_|refine JA ?_|refine Jt ?_|refine Jo ?_|fail
   rw [← Zm false]
   exact hA.frz3 _ _
theorem Zdd {x:Mo} (h:l[i]? = some x):Yk (l.take (i+1))=Yk (l.take i)++(if x.kind=3 then x.terms else []):=by
 simp only [Yk,List.take_add_one,h,Option.toList_some,List.flatMap_append,List.flatMap_cons,List.flatMap_nil,List.append_nil]
theorem US (h:∀ m,m∈l→m.terms.length≤14):(Yk l).length≤14*l.length:=by
 induction l with
 |nil=>simp [Yk]
 | cons a r ih =>
   have h1:=h a List.mem_cons_self
   have h2:=ih fun m hm=>h m (List.mem_cons_of_mem _ hm)
   have e:Yk (a::r)=(if a.kind=3 then a.terms else [])++Yk r:=by simp only [Yk,List.flatMap_cons]
   have h3:(if a.kind=3 then a.terms else []).length≤14:=by split<;>simp [h1]
   rw [e,List.length_append,List.length_cons]
   omega
theorem c26 (hl : l.length ≤ 420) (ht : ∀ m, m ∈ l → m.terms.length ≤ 14) (b : Bool) :
  ∀ H,CallOk E0 Tryz.prog 26 [slV b 6 (moC l)] H (slV true 4 (Za (Yk l))) H:=by
 refine Jw tOk fe26.ok (ZK _ _ _ _ _) ?_
 repeat' first|refine Jl ?_|refine Jo ?_|fail
 refine Wp.while (fun m tm H => ∃ (i : Nat) (base : TM) (out : PV) (lv : List Nat) (nt : Nat), i + m = l.length ∧ ApV true 4 (Za (Yk (l.take i))) out lv nt ∧
   tm=ovr base [(3,out),(6,slV b 6 (moC l)),(7,.int .i64 (l.length:Int)),(8,.int .i64 (i:Int))]∧H=⟨[],0,lv,nt⟩)
  (fun m tm H hI=>Wp.drop ?_) l.length _ _ ⟨0,_,_,_,_,by omega,.nil _ _ rfl,Zf ⟨rfl,rfl,Ze (by rw [YH]),rfl,trivial⟩,rfl⟩
 obtain ⟨i,base,out,lv,nt,hi,hA,rfl,rfl⟩:=hI
 by_cases hlt:i<l.length
 · obtain ⟨x, hx⟩ : ∃ x, l[i]? = some x := ⟨l[i], by simp⟩
   have hm:x∈l:=List.mem_of_getElem? hx
   have hs:=Zdd hx
   have h14:=ht x hm
   have hsl:=US (l:=l.take i) fun m hm=>ht m (List.mem_of_mem_take hm)
   rw [List.length_take] at hsl
   obtain ⟨out',lv',nt',hap,hA', -⟩:=hA.app Yh (.slV x.tn 4 (Za x.terms)) (Zn _) (ZD (by simp only [Zb];omega) (by decide)) (ZO _)
   rw [← Zt] at hA'
   have hj:=WV hx
   obtain ⟨kd,nu,ro,an,ag,go,tn,te⟩:=x
   simp only [Mo.cells] at hj hs hap hA'
   repeat' first|refine JA ?_|refine Jx ?_|refine Jb ?_ ?_|refine Jz ?_ ?_|refine Jo ?_|intro hb
   · have e : kd = 3 := by simpa using hb
     rw [if_pos e] at hs
     exact DropQ.go [(3,out'),(6,slV b 6 (moC l)),(7,.int .i64 (l.length:Int)),(8,.int .i64 ((i+1:Nat):Int))] ⟨rfl,rfl,rfl,Ze (Zd (n:=i+1) (by omega)),trivial⟩
      (by simp [hA'.under,Zh,under]) rfl rfl (LoopI.go (m-1) (by omega) ⟨i+1,_,out',lv',nt',by omega,by rw [hs];exact hA',rfl,rfl⟩)
   · have e : ¬ kd = 3 := by simpa using hb
     rw [if_neg e,List.append_nil] at hs
     exact DropQ.go [(3,out),(6,slV b 6 (moC l)),(7,.int .i64 (l.length:Int)),(8,.int .i64 ((i+1:Nat):Int))] ⟨rfl,rfl,rfl,Ze (Zd (n:=i+1) (by omega)),trivial⟩
      (by simp [hA.under,Zh,under]) rfl rfl (LoopI.go (m-1) (by omega) ⟨i+1,_,out,lv,nt,by omega,by rw [hs];exact hA,rfl,rfl⟩)
   · simp at hb<;>omega
 · have e : i = l.length := by omega
   subst e
   rw [List.take_length] at hA
   repeat' first|refine Jz ?_ ?_|refine Jo ?_|intro hb
   · simp at hb
   · exact hA.frz3 _ _
