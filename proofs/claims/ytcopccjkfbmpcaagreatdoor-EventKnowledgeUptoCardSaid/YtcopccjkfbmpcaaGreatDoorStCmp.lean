/-
  Compare and Same of the reference, at one term twice.
-/
import Derived.Test.YtcopccjkfbmpcaaGreatDoorAwOr
set_option maxHeartbeats 0
set_option maxRecDepth 100000
namespace Go.Vm.Seat
variable {t:Tm} {a b:Int} {l l':List Tm}
open Go.Proofs
theorem ZbI (k:Int) (nm:List UInt8) (s:Int) (b:Bool) (kz:List Tm):XS [.int .i64 k,.str nm,.int .i64 s,slV b 4 (Za kz)]=some [.int .i64 k,.str nm,.int .i64 s,slV b 4 (Za kz)]:=by
 simp only [XS,ZC]
 rfl
theorem d56 (a b:Int):∀ H,CallOk E1 Tryz.prog 56 [.int .i64 a,.int .i64 b] H (.int .i64 (Wu a b)) H:=by
 refine Jw Zfb fe56.ok rfl ?_
 repeat' first|refine Jt ?_|refine Jb ?_ ?_|refine Jo ?_|intro hb
 all_goals (refine Ze ?_;simp [Wu] at *;try omega)
theorem Zot (a b:Int):∀ H,CallOk E1 Tryz.prog 100 [.int .i64 a,.int .i64 b] H (.int .i64 (Wu a b)) H:=by
 refine Jw Zfb fe100.ok rfl ?_
 repeat' first|refine Jb ?_ ?_|refine Jo ?_|intro hb
 all_goals (refine Ze ?_;simp [Wu] at *;try omega)
theorem ZsM (a b:List UInt8):∀ H,CallOk E1 Tryz.prog 126 [.str a,.str b] H (.int .i64 (Qo a b)) H:=fun H=>by
 have:=(ZmY [.str a,.str b] H _ _ rfl).1
 rwa [WP] at this
theorem d92 (a b:List UInt8):∀ H,CallOk E1 Tryz.prog 92 [.str a,.str b] H (.int .i64 (Qo a b)) H:=by
 have hc:=ZsM a b
 refine Jw Zfb fe92.ok rfl ?_
 repeat' first|refine Jc (hc _) ?_|refine Jo ?_|fail
 all_goals rfl
theorem d58 (a b:List UInt8):∀ H,CallOk E1 Tryz.prog 58 [.str a,.str b] H (.int .i64 (Qo a b)) H:=by
 have hc:=d92 a b
 refine Jw Zfb fe58.ok rfl ?_
 repeat' first|refine Jc (hc _) ?_|refine Jo ?_|fail
 all_goals rfl
theorem ZqA (ht:t.Ok):t.size<4611686018427387904→∀ H,CallOk E1 Tryz.prog 101 [.agg t.cells] H (.int .i64 (t.size:Int)) H:=by
 induction ht with
 | @mk k nm s b kz hk hs hn hl hok ih=>
 intro hsz
 refine Jw Zfb fe101.ok rfl ?_ (by simp [Zz,frzG,Tm.cells,ZbI])
 repeat' first|refine Jo ?_|fail
 refine Wp.while (fun m tm H=>∃ i base,i+m=kz.length∧tm=ovr base [(1,.ptr 0 4 0 0),(3,.int .i64 ((1+Zl (kz.take i):Nat):Int)),(4,.int .i64 (i:Int))]∧H=⟨[.cells 4 [[.int .i64 k,.str nm,.int .i64 s,slV b 4 (Za kz)]]],0,[],0⟩)
  (fun m tm H hI=>?_) kz.length _ _ ⟨0,_,by omega,Zf ⟨rfl,rfl,rfl,trivial⟩,rfl⟩
 obtain ⟨i,base,hi,rfl,rfl⟩:=hI
 simp only [Tm.size] at hsz
 unfold maxLen at hl
 by_cases hlt:i<kz.length
 · obtain ⟨t', ht'⟩ : ∃ t', kz[i]? = some t' := ⟨kz[i], by simp⟩
   have hm:t'∈kz:=List.mem_of_getElem? ht'
   have hle:=Xu hm
   have hst:=Vu ht'
   have hsl:=ZI kz (i+1)
   have hc:=ih t' hm (by omega)
   obtain ⟨k',nm',s',b',kz'⟩:=t'
   have hj:=Zk ht'
   repeat' first|refine Jc (hc _) ?_|refine Jl ?_|refine Jx ?_|refine Jb ?_ ?_|refine Jo ?_|intro hb
   · refine LoopI.go (m - 1) (by omega) ⟨i + 1, _, by omega, Zf ⟨rfl, ?_, ?_, trivial⟩, rfl⟩
     · refine Ze ?_
       rw [hst, ← Nat.add_assoc,Int.natCast_add (1+Zl (kz.take i)), ← Int.natCast_add]
       exact Zd (by omega)
     · exact Ze (Zd (n:=i+1) (by omega))
   · exfalso;rw [Zb] at hb;simp at hb<;>omega
 · have e : i = kz.length := by omega
   subst e
   repeat' first|refine Jl ?_|refine Jb ?_ ?_|refine Jo ?_|intro hb
   · exfalso;rw [Zb] at hb;simp at hb
   · simp [Tm.size]
theorem d57 (ht:t.Ok):t.size<4611686018427387904→∀ H,CallOk E1 Tryz.prog 57 [.agg t.cells] H (.int .i64 (t.size:Int)) H:=by
 induction ht with
 | @mk k nm s b kz hk hs hn hl hok ih=>
 intro hsz
 refine Jw Zfb fe57.ok rfl ?_ (by simp [Zz,frzG,Tm.cells,ZbI])
 repeat' first|refine Jl ?_|refine Jo ?_|fail
 refine Wp.while (fun m tm H=>∃ (i:Nat),∃ base,i+m=kz.length∧tm=ovr base [(3,.int .i64 ((1+Zl (kz.take i):Nat):Int)),(7,slV b 4 (Za kz)),(8,.int .i64 (kz.length:Int)),(9,.int .i64 (i:Int))]∧H=⟨[.cells 4 [[.int .i64 k,.str nm,.int .i64 s,slV b 4 (Za kz)]]],0,[],0⟩)
  (fun m tm H hI=>Wp.drop ?_) kz.length _ _ ⟨0,_,by omega,Zf ⟨rfl,rfl,Ze (by rw [Zb]),rfl,trivial⟩,rfl⟩
 obtain ⟨i,base,hi,rfl,rfl⟩:=hI
 simp only [Tm.size] at hsz
 unfold maxLen at hl
 by_cases hlt:i<kz.length
 · obtain ⟨t', ht'⟩ : ∃ t', kz[i]? = some t' := ⟨kz[i], by simp⟩
   have hm:t'∈kz:=List.mem_of_getElem? ht'
   have hle:=Xu hm
   have hst:=Vu ht'
   have hsl:=ZI kz (i+1)
   have hc:=ih t' hm (by omega)
   obtain ⟨k',nm',s',b',kz'⟩:=t'
   have hj:=Zk ht'
   repeat' first|refine Jc (hc _) ?_|refine Jx ?_|refine Jz ?_ ?_|refine Jo ?_|intro hb
   · refine DropQ.go [(3, .int .i64 ((1 + Zl (kz.take (i + 1)) : Nat) : Int)), (7, slV b 4 (Za kz)), (8, .int .i64 (kz.length : Int)), (9, .int .i64 ((i + 1 : Nat) : Int))] ⟨?_, rfl, rfl, Ze (Zd (n := i + 1) (by omega)), trivial⟩
       (by simp [Zj,under]) rfl (by simp [YS,ZN,Zj,under]) (LoopI.go (m-1) (by omega) ⟨i+1,_,by omega,rfl,rfl⟩)
     refine Ze ?_
     rw [hst, ← Nat.add_assoc,Int.natCast_add (1+Zl (kz.take i)), ← Int.natCast_add]
     exact Zd (by omega)
   · exfalso;simp at hb<;>omega
 · have e : i = kz.length := by omega
   subst e
   repeat' first|refine Jz ?_ ?_|refine Jo ?_|intro hb
   · exfalso;simp at hb
   · simp [Tm.size]
theorem ZeA (k:Int) (nm:List UInt8) (s:Int) (b:Bool) (l:List Tm):((Tm.mk k nm s b l).size:Int)=((1+Zl l:Nat):Int):=by simp [Tm.size]
theorem ZnT (h:a≠0):thn a b=a:=if_pos h
theorem Wx (h:a=0):thn a b=b:=if_neg (by simpa using h)
theorem ZcB {i:Nat} {a b:Tm} (h:l[i]? = some a) (h':l'[i]? = some b):Vy (l.drop i) (l'.drop i)=thn (a.cmp b) (Vy (l.drop (i+1)) (l'.drop (i+1))):=by
 rw [Zu h,Zu h'];simp only [Vy]
theorem cmpL_end:Vy (l.drop l.length) (l'.drop l.length)=0:=by simp [Vy]
theorem d67:∀ {t u:Tm},t.Ok→u.Ok→t.size<4611686018427387904→u.size<4611686018427387904→∀ H,CallOk E1 Tryz.prog 67 [.agg t.cells,.agg u.cells] H (.int .i64 (t.cmp u)) H:=by
 intro t u ht
 induction ht generalizing u with
 | @mk k nm s b kz hk hs hn hl hok ih=>
 intro hu hsz hsz2
 have hu0:=hu
 cases hu with
 | @mk k2 nm2 s2 b2 kz2 hk2 hs2 hn2 hl2 hok2=>
 have hsize:=ZqA (Tm.Ok.mk (b:=b) hk hs hn hl hok) hsz
 have hsize2:=ZqA (Tm.Ok.mk (b:=b2) hk2 hs2 hn2 hl2 hok2) hsz2
 rw [ZeA] at hsize hsize2
 have hc1:=Zot ((1+Zl kz:Nat):Int) ((1+Zl kz2:Nat):Int)
 have hc2:=Zot k k2
 have hc4:=Zot s s2
 have hc5:=Zot (kz.length:Int) (kz2.length:Int)
 have hcmp:(Tm.mk k nm s b kz).cmp (Tm.mk k2 nm2 s2 b2 kz2)=thn (Wu ((1+Zl kz:Nat):Int) ((1+Zl kz2:Nat):Int)) (thn (Wu k k2) (thn (Qo nm nm2) (thn (Wu s s2) (thn (Wu (kz.length:Int) (kz2.length:Int)) (Vy kz kz2))))):=by simp only [Tm.cmp]
 rw [hcmp]
 generalize Wu ((1+Zl kz:Nat):Int) ((1+Zl kz2:Nat):Int)=x1 at hc1 ⊢
 generalize Wu k k2=x2 at hc2 ⊢
 generalize Wu s s2=x4 at hc4 ⊢
 obtain ⟨x5,hx5⟩:∃ x5,x5=Wu (kz.length:Int) (kz2.length:Int):=⟨_,rfl⟩
 rw [← hx5] at hc5 ⊢
 rw [← Zb kz, ← Zb kz2] at hc5
 refine Jw Zfb fe67.ok rfl ?_ (by simp [Zz,frzG,Tm.cells,ZbI])
 repeat' first|(apply qCl;rfl;rfl;rfl;rfl;first|exact hc2 _|exact hc4 _|exact hc5 _)|refine Jl ?_|refine Jb ?_ ?_|refine Jo ?_|(apply dCl;rfl;rfl;rfl;rfl;rfl;first|exact hsize _|exact hsize2 _|exact hc1 _)|refine Jh ?_|(apply Wp.draw Zfb follows;kernel_rfl)|intro hb
 all_goals first
  | (refine Ze ?_;clear hsize hsize2 hc1 hc2 hc4 hc5 ih hok hok2 hcmp hx5 hu0;simp_all [thn,Qo];done)
  | skip
 have hb5:x5=0:=by simpa using hb
 have h5:kz.length=kz2.length:=by have:=Wk (hx5.symm.trans hb5);omega
 have hx:thn x1 (thn x2 (thn (Qo nm nm2) (thn x4 (thn x5 (Vy kz kz2)))))=Vy kz kz2:=by
  clear hsize hsize2 hc1 hc2 hc4 hc5 ih hok hok2 hcmp hx5 hu0
  simp_all [thn,Qo]
 rw [hx]
 clear hsize hsize2 hc1 hc2 hc4 hc5 hcmp hu0
 refine Wp.while (fun m tm H=>∃ (i:Nat),∃ base,i+m=kz.length∧Vy kz kz2=Vy (kz.drop i) (kz2.drop i)∧tm=ovr base [(2,.ptr 0 4 0 0),(3,.ptr 1 4 0 0),(9,.int .i64 (i:Int))]∧H=⟨[.cells 4 [[.int .i64 k,.str nm,.int .i64 s,slV b 4 (Za kz)]],.cells 4 [[.int .i64 k2,.str nm2,.int .i64 s2,slV b2 4 (Za kz2)]]],0,[],0⟩)
  (fun m tm H hI=>?_) kz.length _ _ ⟨0,_,by omega,by simp,Zf ⟨rfl,rfl,rfl,trivial⟩,rfl⟩
 obtain ⟨i,base,hi,hcm,rfl,rfl⟩:=hI
 rw [hcm]
 unfold maxLen at hl
 by_cases hlt:i<kz.length
 · obtain ⟨t', ht'⟩ : ∃ t', kz[i]? = some t' := ⟨kz[i], by simp⟩
   obtain ⟨u',hu'⟩:∃ u',kz2[i]? = some u':=⟨kz2[i]'(by omega),by simp⟩
   have hm:t'∈kz:=List.mem_of_getElem? ht'
   have hm2:u'∈kz2:=List.mem_of_getElem? hu'
   simp only [Tm.size] at hsz hsz2
   have hle:=Xu hm
   have hle2:=Xu hm2
   have hc:=ih t' hm (hok2 u' hm2) (by omega) (by omega)
   have hdr:=ZcB ht' hu'
   obtain ⟨y,hy⟩:∃ y,y=t'.cmp u':=⟨_,rfl⟩
   rw [← hy] at hc hdr
   rw [hdr]
   obtain ⟨k',nm',s',b',kz'⟩:=t'
   obtain ⟨k2',nm2',s2',b2',kz2'⟩:=u'
   have hj:=Zk ht'
   have hj2:=Zk hu'
   repeat' first|refine Jl ?_|refine Jb ?_ ?_|refine Jo ?_|refine Jd (hc _) ?_|refine JI ?_|refine Jh ?_|(apply Wp.draw Zfb follows;kernel_rfl)|intro hb
   · refine Ze ?_
     rw [ZnT (by simpa using hb)]
   · have hy0 : y = 0 := by simpa using hb
     refine LoopI.go (m-1) (by omega) ⟨i+1,_,by omega,by rw [Wx hy0],Zf ⟨rfl,rfl,?_,trivial⟩,rfl⟩
     exact Ze (Zd (n:=i+1) (by omega))
   all_goals (exfalso;rw [Zb] at hb;simp at hb;omega)
 · have e : i = kz.length := by omega
   subst e
   repeat' first|refine Jl ?_|refine Jb ?_ ?_|refine Jo ?_|refine Jh ?_|(apply Wp.draw Zfb follows;kernel_rfl)|intro hb
   · exfalso;rw [Zb] at hb;simp at hb
   · exact Ze cmpL_end.symm
theorem U5 (a b:Int):Wu a b=0∨Wu a b= -1∨Wu a b=1:=by
 simp only [Wu]
 split
 · simp
 · split<;>simp
theorem Zk0 (a b:List UInt8):Qo a b=0∨Qo a b= -1∨Qo a b=1:=by
 simp only [Qo]
 split
 · simp
 · split<;>simp
theorem Zf8 (h:a=0∨a= -1∨a=1) (h':b=0∨b= -1∨b=1):thn a b=0∨thn a b= -1∨thn a b=1:=by
 unfold thn;split<;>assumption
mutual
theorem Zm1:∀ t u:Tm,t.cmp u=0∨t.cmp u= -1∨t.cmp u=1
 | .mk k nm s b l, .mk k' nm' s' b' l' => by
   simp only [Tm.cmp]
   exact Zf8 (U5 _ _) (Zf8 (U5 _ _) (Zf8 (Zk0 _ _) (Zf8 (U5 _ _) (Zf8 (U5 _ _) (ZkO l l')))))
theorem ZkO:∀ l l':List Tm,Vy l l'=0∨Vy l l'= -1∨Vy l l'=1
 | [],_=>by simp [Vy]
 |_::_,[]=>by simp [Vy]
 | a :: r, b :: r' => by
   simp only [Vy]
   exact Zf8 (Zm1 a b) (ZkO r r')
end
theorem d28:∀ {t u:Tm},t.Ok→u.Ok→t.size<4611686018427387904→u.size<4611686018427387904→∀ H,CallOk E1 Tryz.prog 28 [.agg t.cells,.agg u.cells] H (.int .i64 (t.cmp u)) H:=by
 intro t u ht
 induction ht generalizing u with
 | @mk k nm s b kz hk hs hn hl hok ih=>
 intro hu hsz hsz2
 cases hu with
 | @mk k2 nm2 s2 b2 kz2 hk2 hs2 hn2 hl2 hok2=>
 have hsize:=d57 (Tm.Ok.mk (b:=b) hk hs hn hl hok) hsz
 have hsize2:=d57 (Tm.Ok.mk (b:=b2) hk2 hs2 hn2 hl2 hok2) hsz2
 rw [ZeA] at hsize hsize2
 have hc1:=d56 ((1+Zl kz:Nat):Int) ((1+Zl kz2:Nat):Int)
 have hc2:=d56 k k2
 have hc3:=d58 nm nm2
 have hc4:=d56 s s2
 have hc5:=d56 (kz.length:Int) (kz2.length:Int)
 have hcmp:(Tm.mk k nm s b kz).cmp (Tm.mk k2 nm2 s2 b2 kz2)=thn (Wu ((1+Zl kz:Nat):Int) ((1+Zl kz2:Nat):Int)) (thn (Wu k k2) (thn (Qo nm nm2) (thn (Wu s s2) (thn (Wu (kz.length:Int) (kz2.length:Int)) (Vy kz kz2))))):=by simp only [Tm.cmp]
 rw [hcmp]
 clear hcmp
 have v1:=U5 ((1+Zl kz:Nat):Int) ((1+Zl kz2:Nat):Int)
 have v2:=U5 k k2
 have v3:=Zk0 nm nm2
 have v4:=U5 s s2
 have v5:=U5 (kz.length:Int) (kz2.length:Int)
 generalize Wu ((1+Zl kz:Nat):Int) ((1+Zl kz2:Nat):Int)=x1 at hc1 v1 ⊢
 generalize Wu k k2=x2 at hc2 v2 ⊢
 generalize Qo nm nm2=x3 at hc3 v3 ⊢
 generalize Wu s s2=x4 at hc4 v4 ⊢
 obtain ⟨x5,hx5⟩:∃ x5,x5=Wu (kz.length:Int) (kz2.length:Int):=⟨_,rfl⟩
 rw [← hx5] at hc5 v5 ⊢
 rw [← Zb kz, ← Zb kz2] at hc5
 refine Jw Zfb fe28.ok rfl ?_ (by simp [Zz,frzG,Tm.cells,ZbI])
 obtain ⟨G,hG⟩:∃ G,G=thn x1 (thn x2 (thn x3 (thn x4 (thn x5 (Vy kz kz2))))):=⟨_,rfl⟩
 rw [← hG]
 have hlen:x5=0→kz.length=kz2.length:=fun h=>by have:=Wk (hx5.symm.trans h);omega
 clear hx5
 rcases v1 with rfl|rfl|rfl
 rcases v2 with rfl|rfl|rfl
 rcases v3 with rfl|rfl|rfl
 rcases v4 with rfl|rfl|rfl
 rcases v5 with rfl|rfl|rfl
 all_goals
  repeat' first|(apply qCl;rfl;rfl;rfl;rfl;first|exact hc2 _|exact hc3 _|exact hc4 _|exact hc5 _)|refine Jl ?_|refine Jt ?_|refine Jo ?_|(apply dCl;rfl;rfl;rfl;rfl;rfl;first|exact hsize _|exact hsize2 _|exact hc1 _)|refine Jh ?_|(apply Wp.draw Zfb follows;kernel_rfl)|fail
  refine Wp.while (fun m tm H=>∃ (i:Nat),∃ base,∃ y:Int,i+m=kz.length∧(y=0∨y= -1∨y=1)∧(y=0→kz.length=kz2.length)∧G=thn y (Vy (kz.drop i) (kz2.drop i))∧tm=ovr base [(2,.ptr 0 4 0 0),(3,.ptr 1 4 0 0),(5,.int .i64 y),(6,.int .i64 (i:Int))]∧H=⟨[.cells 4 [[.int .i64 k,.str nm,.int .i64 s,slV b 4 (Za kz)]],.cells 4 [[.int .i64 k2,.str nm2,.int .i64 s2,slV b2 4 (Za kz2)]]],0,[],0⟩)
   (fun m tm H hI=>?_) kz.length _ _ ⟨0,_,_,by omega,by omega,by first|exact hlen|(intro h;simp at h),by simp [hG,thn],Zf ⟨rfl,rfl,rfl,rfl,trivial⟩,rfl⟩
  clear hG hsize hsize2 hc1 hc2 hc3 hc4 hc5 hlen
  obtain ⟨i,base,y,hi,hy,hyl,hG,rfl,rfl⟩:=hI
  unfold maxLen at hl
  rcases hy with rfl|hy
  · have h5 := hyl rfl
    rw [Wx rfl] at hG
    by_cases hlt:i<kz.length
    · obtain ⟨t', ht'⟩ : ∃ t', kz[i]? = some t' := ⟨kz[i], by simp⟩
      obtain ⟨u',hu'⟩:∃ u',kz2[i]? = some u':=⟨kz2[i]'(by omega),by simp⟩
      have hm:t'∈kz:=List.mem_of_getElem? ht'
      have hm2:u'∈kz2:=List.mem_of_getElem? hu'
      simp only [Tm.size] at hsz hsz2
      have hle:=Xu hm
      have hle2:=Xu hm2
      have hc:=ih t' hm (hok2 u' hm2) (by omega) (by omega)
      have hdr:=ZcB ht' hu'
      have h3:=Zm1 t' u'
      obtain ⟨z,hz⟩:∃ z,z=t'.cmp u':=⟨_,rfl⟩
      rw [← hz] at hc hdr h3
      obtain ⟨k',nm',s',b',kz'⟩:=t'
      obtain ⟨k2',nm2',s2',b2',kz2'⟩:=u'
      have hj:=Zk ht'
      have hj2:=Zk hu'
      repeat' first|refine Jl ?_|refine Jt ?_|refine Jb ?_ ?_|refine Jo ?_|refine Jd (hc _) ?_|refine JI ?_|refine Jh ?_|(apply Wp.draw Zfb follows;kernel_rfl)|intro hb
      · refine LoopI.go (m - 1) (by omega) ⟨i + 1, _, z, by omega, h3, fun _ => h5, hG.trans hdr, Zf ⟨rfl, rfl, rfl, ?_, trivial⟩, rfl⟩
        exact Ze (Zd (n:=i+1) (by omega))
      · exfalso;rw [Zb] at hb;simp at hb;omega
    · have e : i = kz.length := by omega
      subst e
      repeat' first|refine Jl ?_|refine Jt ?_|refine Jb ?_ ?_|refine Jo ?_|refine Jh ?_|(apply Wp.draw Zfb follows;kernel_rfl)|intro hb
      · exfalso;rw [Zb] at hb;simp at hb
      · exact Ze (by rw [hG];exact cmpL_end.symm)
  · rcases hy with rfl | rfl
    ·
      repeat' first|refine Jk ?_|refine Jt ?_|refine Jo ?_|fail
      exact Ze hG.symm
    ·
      repeat' first|refine Jk ?_|refine Jt ?_|refine Jo ?_|fail
      exact Ze hG.symm
theorem Xr (k:Int) (nm:List UInt8) (s:Int) (b:Bool) (kz:List Tm):XS [.int .i64 k,.str nm,.int .i64 s,slV b 4 (Za kz)]=some [.int .i64 k,.str nm,.int .i64 s,slV b 4 (Za kz)]:=by
 simp only [XS,ZC]
 rfl
theorem ZsH (ht:t.Ok):t.size<4611686018427387904→∀ H,CallOk E0 Tryz.prog 101 [.agg t.cells] H (.int .i64 (t.size:Int)) H:=by
 induction ht with
 | @mk k nm s b kz hk hs hn hl hok ih=>
 intro hsz
 refine Jw tOk fe101.ok rfl ?_
 repeat' first|refine Jo ?_|fail
 refine Wp.while (fun m tm H=>∃ i base,i+m=kz.length∧tm=ovr base [(1,.ptr 0 4 0 0),(3,.int .i64 ((1+Zl (kz.take i):Nat):Int)),(4,.int .i64 (i:Int))]∧H=⟨[.cells 4 [[.int .i64 k,.str nm,.int .i64 s,slV b 4 (Za kz)]]],0,[],0⟩)
  (fun m tm H hI=>?_) kz.length _ _ ⟨0,_,by omega,Zf ⟨rfl,rfl,rfl,trivial⟩,rfl⟩
 obtain ⟨i,base,hi,rfl,rfl⟩:=hI
 simp only [Tm.size] at hsz
 unfold maxLen at hl
 by_cases hlt:i<kz.length
 · obtain ⟨t', ht'⟩ : ∃ t', kz[i]? = some t' := ⟨kz[i], by simp⟩
   have hm:t'∈kz:=List.mem_of_getElem? ht'
   have hle:=Xu hm
   have hst:=Vu ht'
   have hsl:=ZI kz (i+1)
   have hc:=ih t' hm (by omega)
   obtain ⟨k',nm',s',b',kz'⟩:=t'
   have hj:=Zk ht'
   repeat' first|refine Jc (hc _) ?_|refine Jl ?_|refine Jx ?_|refine Jb ?_ ?_|refine Jo ?_|intro hb
   · refine LoopI.go (m - 1) (by omega) ⟨i + 1, _, by omega, Zf ⟨rfl, ?_, ?_, trivial⟩, rfl⟩
     · refine Ze ?_
       rw [hst, ← Nat.add_assoc,Int.natCast_add (1+Zl (kz.take i)), ← Int.natCast_add]
       exact Zd (by omega)
     · exact Ze (Zd (n:=i+1) (by omega))
   · rw [Zb] at hb;simp at hb;omega
 · have e : i = kz.length := by omega
   subst e
   repeat' first|refine Jl ?_|refine Jb ?_ ?_|refine Jo ?_|intro hb
   · rw [Zb] at hb;simp at hb
   · simp [Tm.size]
theorem ZrV (k:Int) (nm:List UInt8) (s:Int) (b:Bool) (kz:List Tm) (w:List UInt8):∀ H,CallOk E0 Tryz.prog 175 [.agg [.int .i64 k,.str nm,.int .i64 s,slV b 4 (Za kz)],.str w] H (.bool (isF k nm w)) H:=by
 refine Jw tOk fe175.ok rfl ?_ (by simp [Zz,frzG,Xr,frz1])
 repeat' first|refine Jk ?_|refine Jt ?_|refine Jb ?_ ?_|refine Jo ?_|intro hb
 all_goals simp_all [isF]
theorem c45 (ht:t.Ok):∀ n:Int, -9223372036854775808≤n→n≤9223372036854775807→∀ H,CallOk E0 Tryz.prog 45 [.agg t.cells,.int .i64 n] H (.int .i64 (t.budget n)) H:=by
 induction ht with
 | @mk k nm s b kz hk hs hn hl hok ih=>
 intro n hn1 hn2
 refine Jw tOk fe45.ok rfl ?_ (by simp [Zz,frzG,Tm.cells,Xr,frz1])
 repeat' first|refine Jk ?_|refine Jt ?_|refine Jb ?_ ?_|refine Jo ?_|intro hb
 · refine Ze ?_
   simp at hb
   simp [Tm.budget,hb]
 · refine Ze ?_
   rename_i hb1
   simp at hb hb1
   have:40<nm.length:=by omega
   simp [Tm.budget,this]
 rename_i hb1
 simp at hb hb1
 have h40:¬ (n≤0∨40<nm.length):=by omega
 refine Wp.while (fun m tm H=>∃ i base x,i+m=kz.length∧0≤x∧x≤n∧X3 kz (n-1)=X3 (kz.drop i) x∧tm=ovr base [(2,.ptr 0 4 0 0),(1,.int .i64 x),(5,.int .i64 (i:Int))]∧H=⟨[.cells 4 [[.int .i64 k,.str nm,.int .i64 s,slV b 4 (Za kz)]]],0,[],0⟩)
  (fun m tm H hI=>?_) kz.length _ _ ⟨0,_,n-1,by omega,by omega,by omega,by simp,Zf ⟨rfl,Ze (IntWalk.i64_in _ (by omega)),rfl,trivial⟩,rfl⟩
 obtain ⟨i,base,x,hi,hx0,hxn,hbud,rfl,rfl⟩:=hI
 unfold maxLen at hl
 by_cases hlt:i<kz.length
 · obtain ⟨t', ht'⟩ : ∃ t', kz[i]? = some t' := ⟨kz[i], by simp⟩
   have hm:t'∈kz:=List.mem_of_getElem? ht'
   have hdr:=Zu ht'
   have hc:=ih t' hm x (by omega) (by omega)
   have hbe:=t'.budget_eq x
   obtain ⟨bx,hbx⟩:∃ bx,bx=t'.budget x:=⟨_,rfl⟩
   rw [← hbx] at hc hbe
   rw [hdr] at hbud
   simp only [X3, ← hbx] at hbud
   obtain ⟨k',nm',s',b',kz'⟩:=t'
   have hj:=Zk ht'
   repeat' first|refine Jc (hc _) ?_|refine Jl ?_|refine Jx ?_|refine Jb ?_ ?_|refine Jo ?_|intro hb
   · refine Ze ?_
     rename_i hb2
     have hb:bx<0:=by simpa using hb
     simp only [Tm.budget,if_neg h40,hbud,if_pos hb]
   · have hb : ¬ bx < 0 := by simpa using hb
     rw [if_neg hb] at hbud
     refine LoopI.go (m-1) (by omega) ⟨i+1,_,bx,by omega,by omega,by have:=hbe (by omega);omega,hbud,Zf ⟨rfl,rfl,?_,trivial⟩,rfl⟩
     exact Ze (Zd (n:=i+1) (by omega))
   · rw [Zb] at hb;simp at hb;omega
 · have e : i = kz.length := by omega
   subst e
   repeat' first|refine Jl ?_|refine Jb ?_ ?_|refine Jo ?_|intro hb
   · rw [Zb] at hb;simp at hb
   · refine Ze ?_
     simp only [Tm.budget,if_neg h40,hbud]
     simp [X3]
theorem c21 (hok : ∀ t, t ∈ l → t.Ok) (hl : l.length ≤ maxLen) (b : Bool) {n most : Int} (hm1 : -9223372036854775808 ≤ most) (hm2 : most ≤ 9223372036854775807) :
  ∀ H,CallOk E0 Tryz.prog 21 [slV b 4 (Za l),.int .i64 n,.int .i64 most] H (.bool (Zi5 l n most)) H:=by
 refine Jw tOk fe21.ok rfl ?_
 repeat' first|refine Jl ?_|refine Jt ?_|refine Jb ?_ ?_|refine Jo ?_|intro hb
 · simp at hb
   rw [Zb] at hb
   simp [Zi5,hb]
 rw [Zb] at hb
 simp at hb
 have hnl:¬ n<(l.length:Int):=by omega
 refine Wp.while (fun m tm H=>∃ i base x,i+m=l.length∧ -9223372036854775808≤x∧x≤9223372036854775807∧Zk8 l most=Zk8 (l.drop i) x∧tm=ovr base [(0,slV b 4 (Za l)),(2,.int .i64 x),(7,.int .i64 (i:Int))]∧H=⟨[],0,[],0⟩)
  (fun m tm H hI=>?_) l.length _ _ ⟨0,_,most,by omega,by omega,by omega,by simp,Zf ⟨rfl,rfl,rfl,trivial⟩,rfl⟩
 obtain ⟨i,base,x,hi,hx0,hxn,hbud,rfl,rfl⟩:=hI
 unfold maxLen at hl
 by_cases hlt:i<l.length
 · obtain ⟨t', ht'⟩ : ∃ t', l[i]? = some t' := ⟨l[i], by simp⟩
   have hm:t'∈l:=List.mem_of_getElem? ht'
   have hdr:=Zu ht'
   have hc:=c45 (hok t' hm) x (by omega) (by omega)
   have hbe:=t'.budget_eq x
   obtain ⟨bx,hbx⟩:∃ bx,bx=t'.budget x:=⟨_,rfl⟩
   rw [← hbx] at hc hbe
   rw [hdr] at hbud
   simp only [Zk8, ← hbx] at hbud
   obtain ⟨k',nm',s',b',kz'⟩:=t'
   have hj:=Zk ht'
   repeat' first|refine Jc (hc _) ?_|refine Jl ?_|refine Jx ?_|refine Jt ?_|refine Jb ?_ ?_|refine Jo ?_|intro hb
   · have hb : bx < 0 := by simpa using hb
     simp [Zi5,hbud,if_pos hb]
   · have hb : ¬ bx < 0 := by simpa using hb
     rw [if_neg hb] at hbud
     refine LoopI.go (m-1) (by omega) ⟨i+1,_,bx,by omega,by omega,by have:=hbe (by omega);omega,hbud,Zf ⟨rfl,rfl,?_,trivial⟩,rfl⟩
     exact Ze (Zd (n:=i+1) (by omega))
   · rw [Zb] at hb;simp at hb;omega
 · have e : i = l.length := by omega
   subst e
   repeat' first|refine Jl ?_|refine Jt ?_|refine Jb ?_ ?_|refine Jo ?_|intro hb
   · rw [Zb] at hb;simp at hb
   · simp [Zi5,if_neg hnl,hbud,Zk8]
