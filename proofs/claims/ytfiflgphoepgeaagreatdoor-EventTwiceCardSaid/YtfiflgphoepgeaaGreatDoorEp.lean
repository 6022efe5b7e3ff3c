/-
  What is sent in a trace, the moments of a session, those of some kinds: both tex
-/
import Derived.Test.YtfiflgphoepgeaaGreatDoorAwOr
set_option maxHeartbeats 0
set_option maxRecDepth 100000
namespace Go.Vm.Seat
variable {t:Tm} {a b:Int} {l:List Mo} {l':List Tm} {i:Nat}
open Go.Proofs
theorem Zbg (k:Int) (nm:List UInt8) (s:Int) (b:Bool) (kz:List Tm):UU [.int .i64 k,.str nm,.int .i64 s,slV b 4 (Za kz)]=some [.int .i64 k,.str nm,.int .i64 s,slV b 4 (Za kz)]:=by
 simp only [UU,YI]
 rfl
theorem d60 (a b:Int):∀ H,CallOk E1 Tryz.prog 60 [.int .i64 a,.int .i64 b] H (.int .i64 (Wh a b)) H:=by
 refine Jw Zdo fe60.ok rfl ?_
 repeat' first|refine Jt ?_|refine Jb ?_ ?_|refine Jo ?_|intro hb
 all_goals (refine Zd ?_;simp [Wh] at *;try omega)
theorem Zpe (a b:Int):∀ H,CallOk E1 Tryz.prog 130 [.int .i64 a,.int .i64 b] H (.int .i64 (Wh a b)) H:=by
 refine Jw Zdo fe130.ok rfl ?_
 repeat' first|refine Jb ?_ ?_|refine Jo ?_|intro hb
 all_goals (refine Zd ?_;simp [Wh] at *;try omega)
theorem ZtG (a b:List UInt8):∀ H,CallOk E1 Tryz.prog 148 [.str a,.str b] H (.int .i64 (US a b)) H:=fun H=>by
 have:=(ZoY [.str a,.str b] H _ _ rfl).1
 rwa [WG] at this
theorem ZtI (a b:List UInt8):∀ H,CallOk E1 Tryz.prog 102 [.str a,.str b] H (.int .i64 (US a b)) H:=by
 have hc:=ZtG a b
 refine Jw Zdo fe102.ok rfl ?_
 repeat' first|refine Jc (hc _) ?_|refine Jo ?_|fail
 all_goals rfl
theorem d62 (a b:List UInt8):∀ H,CallOk E1 Tryz.prog 62 [.str a,.str b] H (.int .i64 (US a b)) H:=by
 have hc:=ZtI a b
 refine Jw Zdo fe62.ok rfl ?_
 repeat' first|refine Jc (hc _) ?_|refine Jo ?_|fail
 all_goals rfl
theorem Zrs (ht:t.Ok):t.size<4611686018427387904→∀ H,CallOk E1 Tryz.prog 131 [.agg t.cells] H (.int .i64 (t.size:Int)) H:=by
 induction ht with
 | @mk k nm s b kz hk hs hn hl hok ih=>
 intro hsz
 refine Jw Zdo fe131.ok rfl ?_ (by simp [ZM,frzG,Tm.cells,Zbg])
 repeat' first|refine Jo ?_|fail
 refine Wp.while (fun m tm H=>∃ i base,i+m=kz.length∧tm=ovr base [(1,.ptr 0 4 0 0),(3,.int .i64 ((1+Zl (kz.take i):Nat):Int)),(4,.int .i64 (i:Int))]∧H=⟨[.cells 4 [[.int .i64 k,.str nm,.int .i64 s,slV b 4 (Za kz)]]],0,[],0⟩)
  (fun m tm H hI=>?_) kz.length _ _ ⟨0,_,by omega,Zf ⟨rfl,rfl,rfl,trivial⟩,rfl⟩
 obtain ⟨i,base,hi,rfl,rfl⟩:=hI
 simp only [Tm.size] at hsz
 unfold maxLen at hl
 by_cases hlt:i<kz.length
 · obtain ⟨t', ht'⟩ : ∃ t', kz[i]? = some t' := ⟨kz[i], by simp⟩
   have hm:t'∈kz:=List.mem_of_getElem? ht'
   have hle:=Xq hm
   have hst:=Uq ht'
   have hsl:=ZD kz (i+1)
   have hc:=ih t' hm (by omega)
   obtain ⟨k',nm',s',b',kz'⟩:=t'
   have hj:=Zk ht'
   repeat' first|refine Jc (hc _) ?_|refine Jl ?_|refine Jx ?_|refine Jb ?_ ?_|refine Jo ?_|intro hb
   · refine LoopI.go (m - 1) (by omega) ⟨i + 1, _, by omega, Zf ⟨rfl, ?_, ?_, trivial⟩, rfl⟩
     · refine Zd ?_
       rw [hst, ← Nat.add_assoc,Int.natCast_add (1+Zl (kz.take i)), ← Int.natCast_add]
       exact Zc (by omega)
     · exact Zd (Zc (n:=i+1) (by omega))
   · exfalso;rw [Zb] at hb;simp at hb<;>omega
 · have e : i = kz.length := by omega
   subst e
   repeat' first|refine Jl ?_|refine Jb ?_ ?_|refine Jo ?_|intro hb
   · exfalso;rw [Zb] at hb;simp at hb
   · simp [Tm.size]
theorem d61 (ht:t.Ok):t.size<4611686018427387904→∀ H,CallOk E1 Tryz.prog 61 [.agg t.cells] H (.int .i64 (t.size:Int)) H:=by
 induction ht with
 | @mk k nm s b kz hk hs hn hl hok ih=>
 intro hsz
 refine Jw Zdo fe61.ok rfl ?_ (by simp [ZM,frzG,Tm.cells,Zbg])
 repeat' first|refine Jl ?_|refine Jo ?_|fail
 refine Wp.while (fun m tm H=>∃ (i:Nat),∃ base,i+m=kz.length∧tm=ovr base [(3,.int .i64 ((1+Zl (kz.take i):Nat):Int)),(7,slV b 4 (Za kz)),(8,.int .i64 (kz.length:Int)),(9,.int .i64 (i:Int))]∧H=⟨[.cells 4 [[.int .i64 k,.str nm,.int .i64 s,slV b 4 (Za kz)]]],0,[],0⟩)
  (fun m tm H hI=>Wp.drop ?_) kz.length _ _ ⟨0,_,by omega,Zf ⟨rfl,rfl,Zd (by rw [Zb]),rfl,trivial⟩,rfl⟩
 obtain ⟨i,base,hi,rfl,rfl⟩:=hI
 simp only [Tm.size] at hsz
 unfold maxLen at hl
 by_cases hlt:i<kz.length
 · obtain ⟨t', ht'⟩ : ∃ t', kz[i]? = some t' := ⟨kz[i], by simp⟩
   have hm:t'∈kz:=List.mem_of_getElem? ht'
   have hle:=Xq hm
   have hst:=Uq ht'
   have hsl:=ZD kz (i+1)
   have hc:=ih t' hm (by omega)
   obtain ⟨k',nm',s',b',kz'⟩:=t'
   have hj:=Zk ht'
   repeat' first|refine Jc (hc _) ?_|refine Jx ?_|refine Jz ?_ ?_|refine Jo ?_|intro hb
   · refine DropQ.go [(3, .int .i64 ((1 + Zl (kz.take (i + 1)) : Nat) : Int)), (7, slV b 4 (Za kz)), (8, .int .i64 (kz.length : Int)), (9, .int .i64 ((i + 1 : Nat) : Int))] ⟨?_, rfl, rfl, Zd (Zc (n := i + 1) (by omega)), trivial⟩
       (by simp [Zg,under]) rfl (by simp [Yq,ZL,Zg,under]) (LoopI.go (m-1) (by omega) ⟨i+1,_,by omega,rfl,rfl⟩)
     refine Zd ?_
     rw [hst, ← Nat.add_assoc,Int.natCast_add (1+Zl (kz.take i)), ← Int.natCast_add]
     exact Zc (by omega)
   · exfalso;simp at hb<;>omega
 · have e : i = kz.length := by omega
   subst e
   repeat' first|refine Jz ?_ ?_|refine Jo ?_|intro hb
   · exfalso;simp at hb
   · simp [Tm.size]
theorem Zfy (k:Int) (nm:List UInt8) (s:Int) (b:Bool) (l:List Tm):((Tm.mk k nm s b l).size:Int)=((1+Zl l:Nat):Int):=by simp [Tm.size]
theorem Zoe (h:a≠0):thn a b=a:=if_pos h
theorem Wj (h:a=0):thn a b=b:=if_neg (by simpa using h)
theorem ZcW {l:List Tm} {a b:Tm} (h:l[i]? = some a) (h':l'[i]? = some b):W9 (l.drop i) (l'.drop i)=thn (a.cmp b) (W9 (l.drop (i+1)) (l'.drop (i+1))):=by
 rw [ZC h,ZC h'];simp only [W9]
theorem cmpL_end {l:List Tm}:W9 (l.drop l.length) (l'.drop l.length)=0:=by simp [W9]
theorem d81:∀ {t u:Tm},t.Ok→u.Ok→t.size<4611686018427387904→u.size<4611686018427387904→∀ H,CallOk E1 Tryz.prog 81 [.agg t.cells,.agg u.cells] H (.int .i64 (t.cmp u)) H:=by
 intro t u ht
 induction ht generalizing u with
 | @mk k nm s b kz hk hs hn hl hok ih=>
 intro hu hsz hsz2
 have hu0:=hu
 cases hu with
 | @mk k2 nm2 s2 b2 kz2 hk2 hs2 hn2 hl2 hok2=>
 have hsize:=Zrs (Tm.Ok.mk (b:=b) hk hs hn hl hok) hsz
 have hsize2:=Zrs (Tm.Ok.mk (b:=b2) hk2 hs2 hn2 hl2 hok2) hsz2
 rw [Zfy] at hsize hsize2
 have hc1:=Zpe ((1+Zl kz:Nat):Int) ((1+Zl kz2:Nat):Int)
 have hc2:=Zpe k k2
 have hc4:=Zpe s s2
 have hc5:=Zpe (kz.length:Int) (kz2.length:Int)
 have hcmp:(Tm.mk k nm s b kz).cmp (Tm.mk k2 nm2 s2 b2 kz2)=thn (Wh ((1+Zl kz:Nat):Int) ((1+Zl kz2:Nat):Int)) (thn (Wh k k2) (thn (US nm nm2) (thn (Wh s s2) (thn (Wh (kz.length:Int) (kz2.length:Int)) (W9 kz kz2))))):=by simp only [Tm.cmp]
 rw [hcmp]
 generalize Wh ((1+Zl kz:Nat):Int) ((1+Zl kz2:Nat):Int)=x1 at hc1 ⊢
 generalize Wh k k2=x2 at hc2 ⊢
 generalize Wh s s2=x4 at hc4 ⊢
 obtain ⟨x5,hx5⟩:∃ x5,x5=Wh (kz.length:Int) (kz2.length:Int):=⟨_,rfl⟩
 rw [← hx5] at hc5 ⊢
 rw [← Zb kz, ← Zb kz2] at hc5
 refine Jw Zdo fe81.ok rfl ?_ (by simp [ZM,frzG,Tm.cells,Zbg])
 repeat' first|(apply qCl;rfl;rfl;rfl;rfl;first|exact hc2 _|exact hc4 _|exact hc5 _)|refine Jl ?_|refine Jb ?_ ?_|refine Jo ?_|(apply dCl;rfl;rfl;rfl;rfl;rfl;first|exact hsize _|exact hsize2 _|exact hc1 _)|refine Jh ?_|(apply Wp.draw Zdo follows;kernel_rfl)|intro hb
 all_goals first
  | (refine Zd ?_;clear hsize hsize2 hc1 hc2 hc4 hc5 ih hok hok2 hcmp hx5 hu0;simp_all [thn,US];done)
  | skip
 have hb5:x5=0:=by simpa using hb
 have h5:kz.length=kz2.length:=by have:=X5 (hx5.symm.trans hb5);omega
 have hx:thn x1 (thn x2 (thn (US nm nm2) (thn x4 (thn x5 (W9 kz kz2)))))=W9 kz kz2:=by
  clear hsize hsize2 hc1 hc2 hc4 hc5 ih hok hok2 hcmp hx5 hu0
  simp_all [thn,US]
 rw [hx]
 clear hsize hsize2 hc1 hc2 hc4 hc5 hcmp hu0
 refine Wp.while (fun m tm H=>∃ (i:Nat),∃ base,i+m=kz.length∧W9 kz kz2=W9 (kz.drop i) (kz2.drop i)∧tm=ovr base [(2,.ptr 0 4 0 0),(3,.ptr 1 4 0 0),(9,.int .i64 (i:Int))]∧H=⟨[.cells 4 [[.int .i64 k,.str nm,.int .i64 s,slV b 4 (Za kz)]],.cells 4 [[.int .i64 k2,.str nm2,.int .i64 s2,slV b2 4 (Za kz2)]]],0,[],0⟩)
  (fun m tm H hI=>?_) kz.length _ _ ⟨0,_,by omega,by simp,Zf ⟨rfl,rfl,rfl,trivial⟩,rfl⟩
 obtain ⟨i,base,hi,hcm,rfl,rfl⟩:=hI
 rw [hcm]
 unfold maxLen at hl
 by_cases hlt:i<kz.length
 · obtain ⟨t', ht'⟩ : ∃ t', kz[i]? = some t' := ⟨kz[i], by simp⟩
   obtain ⟨u',hu'⟩:∃ u',kz2[i]? = some u':=⟨kz2[i]'(by omega),by simp⟩
   have hm:t'∈kz:=List.mem_of_getElem? ht'
   have hm2:u'∈kz2:=List.mem_of_getElem? hu'
   simp only [Tm.size] at hsz hsz2
   have hle:=Xq hm
   have hle2:=Xq hm2
   have hc:=ih t' hm (hok2 u' hm2) (by omega) (by omega)
   have hdr:=ZcW ht' hu'
   obtain ⟨y,hy⟩:∃ y,y=t'.cmp u':=⟨_,rfl⟩
   rw [← hy] at hc hdr
   rw [hdr]
   obtain ⟨k',nm',s',b',kz'⟩:=t'
   obtain ⟨k2',nm2',s2',b2',kz2'⟩:=u'
   have hj:=Zk ht'
   have hj2:=Zk hu'
   repeat' first|refine Jl ?_|refine Jb ?_ ?_|refine Jo ?_|refine Jd (hc _) ?_|refine JI ?_|refine Jh ?_|(apply Wp.draw Zdo follows;kernel_rfl)|intro hb
   · refine Zd ?_
     rw [Zoe (by simpa using hb)]
   · have hy0 : y = 0 := by simpa using hb
     refine LoopI.go (m-1) (by omega) ⟨i+1,_,by omega,by rw [Wj hy0],Zf ⟨rfl,rfl,?_,trivial⟩,rfl⟩
     exact Zd (Zc (n:=i+1) (by omega))
   all_goals (exfalso;rw [Zb] at hb;simp at hb;omega)
 · have e : i = kz.length := by omega
   subst e
   repeat' first|refine Jl ?_|refine Jb ?_ ?_|refine Jo ?_|refine Jh ?_|(apply Wp.draw Zdo follows;kernel_rfl)|intro hb
   · exfalso;rw [Zb] at hb;simp at hb
   · exact Zd cmpL_end.symm
theorem UD (a b:Int):Wh a b=0∨Wh a b= -1∨Wh a b=1:=by
 simp only [Wh]
 split
 · simp
 · split<;>simp
theorem ZlI (a b:List UInt8):US a b=0∨US a b= -1∨US a b=1:=by
 simp only [US]
 split
 · simp
 · split<;>simp
theorem ZfT (h:a=0∨a= -1∨a=1) (h':b=0∨b= -1∨b=1):thn a b=0∨thn a b= -1∨thn a b=1:=by
 unfold thn;split<;>assumption
mutual
theorem Zn4:∀ t u:Tm,t.cmp u=0∨t.cmp u= -1∨t.cmp u=1
 | .mk k nm s b l, .mk k' nm' s' b' l' => by
   simp only [Tm.cmp]
   exact ZfT (UD _ _) (ZfT (UD _ _) (ZfT (ZlI _ _) (ZfT (UD _ _) (ZfT (UD _ _) (ZkP l l')))))
theorem ZkP:∀ l l':List Tm,W9 l l'=0∨W9 l l'= -1∨W9 l l'=1
 | [],_=>by simp [W9]
 |_::_,[]=>by simp [W9]
 | a :: r, b :: r' => by
   simp only [W9]
   exact ZfT (Zn4 a b) (ZkP r r')
end
theorem d33:∀ {t u:Tm},t.Ok→u.Ok→t.size<4611686018427387904→u.size<4611686018427387904→∀ H,CallOk E1 Tryz.prog 33 [.agg t.cells,.agg u.cells] H (.int .i64 (t.cmp u)) H:=by
 intro t u ht
 induction ht generalizing u with
 | @mk k nm s b kz hk hs hn hl hok ih=>
 intro hu hsz hsz2
 cases hu with
 | @mk k2 nm2 s2 b2 kz2 hk2 hs2 hn2 hl2 hok2=>
 have hsize:=d61 (Tm.Ok.mk (b:=b) hk hs hn hl hok) hsz
 have hsize2:=d61 (Tm.Ok.mk (b:=b2) hk2 hs2 hn2 hl2 hok2) hsz2
 rw [Zfy] at hsize hsize2
 have hc1:=d60 ((1+Zl kz:Nat):Int) ((1+Zl kz2:Nat):Int)
 have hc2:=d60 k k2
 have hc3:=d62 nm nm2
 have hc4:=d60 s s2
 have hc5:=d60 (kz.length:Int) (kz2.length:Int)
 have hcmp:(Tm.mk k nm s b kz).cmp (Tm.mk k2 nm2 s2 b2 kz2)=thn (Wh ((1+Zl kz:Nat):Int) ((1+Zl kz2:Nat):Int)) (thn (Wh k k2) (thn (US nm nm2) (thn (Wh s s2) (thn (Wh (kz.length:Int) (kz2.length:Int)) (W9 kz kz2))))):=by simp only [Tm.cmp]
 rw [hcmp]
 clear hcmp
 have v1:=UD ((1+Zl kz:Nat):Int) ((1+Zl kz2:Nat):Int)
 have v2:=UD k k2
 have v3:=ZlI nm nm2
 have v4:=UD s s2
 have v5:=UD (kz.length:Int) (kz2.length:Int)
 generalize Wh ((1+Zl kz:Nat):Int) ((1+Zl kz2:Nat):Int)=x1 at hc1 v1 ⊢
 generalize Wh k k2=x2 at hc2 v2 ⊢
 generalize US nm nm2=x3 at hc3 v3 ⊢
 generalize Wh s s2=x4 at hc4 v4 ⊢
 obtain ⟨x5,hx5⟩:∃ x5,x5=Wh (kz.length:Int) (kz2.length:Int):=⟨_,rfl⟩
 rw [← hx5] at hc5 v5 ⊢
 rw [← Zb kz, ← Zb kz2] at hc5
 refine Jw Zdo fe33.ok rfl ?_ (by simp [ZM,frzG,Tm.cells,Zbg])
 obtain ⟨G,hG⟩:∃ G,G=thn x1 (thn x2 (thn x3 (thn x4 (thn x5 (W9 kz kz2))))):=⟨_,rfl⟩
 rw [← hG]
 have hlen:x5=0→kz.length=kz2.length:=fun h=>by have:=X5 (hx5.symm.trans h);omega
 clear hx5
 rcases v1 with rfl|rfl|rfl
 rcases v2 with rfl|rfl|rfl
 rcases v3 with rfl|rfl|rfl
 rcases v4 with rfl|rfl|rfl
 rcases v5 with rfl|rfl|rfl
 all_goals
  repeat' first|(apply qCl;rfl;rfl;rfl;rfl;first|exact hc2 _|exact hc3 _|exact hc4 _|exact hc5 _)|refine Jl ?_|refine Jt ?_|refine Jo ?_|(apply dCl;rfl;rfl;rfl;rfl;rfl;first|exact hsize _|exact hsize2 _|exact hc1 _)|refine Jh ?_|(apply Wp.draw Zdo follows;kernel_rfl)|fail
  refine Wp.while (fun m tm H=>∃ (i:Nat),∃ base,∃ y:Int,i+m=kz.length∧(y=0∨y= -1∨y=1)∧(y=0→kz.length=kz2.length)∧G=thn y (W9 (kz.drop i) (kz2.drop i))∧tm=ovr base [(2,.ptr 0 4 0 0),(3,.ptr 1 4 0 0),(5,.int .i64 y),(6,.int .i64 (i:Int))]∧H=⟨[.cells 4 [[.int .i64 k,.str nm,.int .i64 s,slV b 4 (Za kz)]],.cells 4 [[.int .i64 k2,.str nm2,.int .i64 s2,slV b2 4 (Za kz2)]]],0,[],0⟩)
   (fun m tm H hI=>?_) kz.length _ _ ⟨0,_,_,by omega,by omega,by first|exact hlen|(intro h;simp at h),by simp [hG,thn],Zf ⟨rfl,rfl,rfl,rfl,trivial⟩,rfl⟩
  clear hG hsize hsize2 hc1 hc2 hc3 hc4 hc5 hlen
  obtain ⟨i,base,y,hi,hy,hyl,hG,rfl,rfl⟩:=hI
  unfold maxLen at hl
  rcases hy with rfl|hy
  · have h5 := hyl rfl
    rw [Wj rfl] at hG
    by_cases hlt:i<kz.length
    · obtain ⟨t', ht'⟩ : ∃ t', kz[i]? = some t' := ⟨kz[i], by simp⟩
      obtain ⟨u',hu'⟩:∃ u',kz2[i]? = some u':=⟨kz2[i]'(by omega),by simp⟩
      have hm:t'∈kz:=List.mem_of_getElem? ht'
      have hm2:u'∈kz2:=List.mem_of_getElem? hu'
      simp only [Tm.size] at hsz hsz2
      have hle:=Xq hm
      have hle2:=Xq hm2
      have hc:=ih t' hm (hok2 u' hm2) (by omega) (by omega)
      have hdr:=ZcW ht' hu'
      have h3:=Zn4 t' u'
      obtain ⟨z,hz⟩:∃ z,z=t'.cmp u':=⟨_,rfl⟩
      rw [← hz] at hc hdr h3
      obtain ⟨k',nm',s',b',kz'⟩:=t'
      obtain ⟨k2',nm2',s2',b2',kz2'⟩:=u'
      have hj:=Zk ht'
      have hj2:=Zk hu'
      repeat' first|refine Jl ?_|refine Jt ?_|refine Jb ?_ ?_|refine Jo ?_|refine Jd (hc _) ?_|refine JI ?_|refine Jh ?_|(apply Wp.draw Zdo follows;kernel_rfl)|intro hb
      · refine LoopI.go (m - 1) (by omega) ⟨i + 1, _, z, by omega, h3, fun _ => h5, hG.trans hdr, Zf ⟨rfl, rfl, rfl, ?_, trivial⟩, rfl⟩
        exact Zd (Zc (n:=i+1) (by omega))
      · exfalso;rw [Zb] at hb;simp at hb;omega
    · have e : i = kz.length := by omega
      subst e
      repeat' first|refine Jl ?_|refine Jt ?_|refine Jb ?_ ?_|refine Jo ?_|refine Jh ?_|(apply Wp.draw Zdo follows;kernel_rfl)|intro hb
      · exfalso;rw [Zb] at hb;simp at hb
      · exact Zd (by rw [hG];exact cmpL_end.symm)
  · rcases hy with rfl | rfl
    ·
      repeat' first|refine Jk ?_|refine Jt ?_|refine Jo ?_|fail
      exact Zd hG.symm
    ·
      repeat' first|refine Jk ?_|refine Jt ?_|refine Jo ?_|fail
      exact Zd hG.symm
theorem Xr (k:Int) (nm:List UInt8) (s:Int) (b:Bool) (kz:List Tm):UU [.int .i64 k,.str nm,.int .i64 s,slV b 4 (Za kz)]=some [.int .i64 k,.str nm,.int .i64 s,slV b 4 (Za kz)]:=by
 simp only [UU,YI]
 rfl
theorem ZsV (ht:t.Ok):t.size<4611686018427387904→∀ H,CallOk E0 Tryz.prog 131 [.agg t.cells] H (.int .i64 (t.size:Int)) H:=by
 induction ht with
 | @mk k nm s b kz hk hs hn hl hok ih=>
 intro hsz
 refine Jw tOk fe131.ok rfl ?_
 repeat' first|refine Jo ?_|fail
 refine Wp.while (fun m tm H=>∃ i base,i+m=kz.length∧tm=ovr base [(1,.ptr 0 4 0 0),(3,.int .i64 ((1+Zl (kz.take i):Nat):Int)),(4,.int .i64 (i:Int))]∧H=⟨[.cells 4 [[.int .i64 k,.str nm,.int .i64 s,slV b 4 (Za kz)]]],0,[],0⟩)
  (fun m tm H hI=>?_) kz.length _ _ ⟨0,_,by omega,Zf ⟨rfl,rfl,rfl,trivial⟩,rfl⟩
 obtain ⟨i,base,hi,rfl,rfl⟩:=hI
 simp only [Tm.size] at hsz
 unfold maxLen at hl
 by_cases hlt:i<kz.length
 · obtain ⟨t', ht'⟩ : ∃ t', kz[i]? = some t' := ⟨kz[i], by simp⟩
   have hm:t'∈kz:=List.mem_of_getElem? ht'
   have hle:=Xq hm
   have hst:=Uq ht'
   have hsl:=ZD kz (i+1)
   have hc:=ih t' hm (by omega)
   obtain ⟨k',nm',s',b',kz'⟩:=t'
   have hj:=Zk ht'
   repeat' first|refine Jc (hc _) ?_|refine Jl ?_|refine Jx ?_|refine Jb ?_ ?_|refine Jo ?_|intro hb
   · refine LoopI.go (m - 1) (by omega) ⟨i + 1, _, by omega, Zf ⟨rfl, ?_, ?_, trivial⟩, rfl⟩
     · refine Zd ?_
       rw [hst, ← Nat.add_assoc,Int.natCast_add (1+Zl (kz.take i)), ← Int.natCast_add]
       exact Zc (by omega)
     · exact Zd (Zc (n:=i+1) (by omega))
   · rw [Zb] at hb;simp at hb;omega
 · have e : i = kz.length := by omega
   subst e
   repeat' first|refine Jl ?_|refine Jb ?_ ?_|refine Jo ?_|intro hb
   · rw [Zb] at hb;simp at hb
   · simp [Tm.size]
theorem Zs0 (k:Int) (nm:List UInt8) (s:Int) (b:Bool) (kz:List Tm) (w:List UInt8):∀ H,CallOk E0 Tryz.prog 181 [.agg [.int .i64 k,.str nm,.int .i64 s,slV b 4 (Za kz)],.str w] H (.bool (isF k nm w)) H:=by
 refine Jw tOk fe181.ok rfl ?_ (by simp [ZM,frzG,Xr,frz1])
 repeat' first|refine Jk ?_|refine Jt ?_|refine Jb ?_ ?_|refine Jo ?_|intro hb
 all_goals simp_all [isF]
theorem ZS {n m by_:Nat} (h:n+m≤10000000) (hb:by_≤1000000):Vn n m by_=true:=by
 simp only [Vn,Bool.and_eq_true,Nat.ble_eq]
 have:=Nat.mul_le_mul (show n+m+256≤10000256 by omega) hb
 omega
theorem YZ:ApT E0 32 32 4 56:=⟨_,_,_,_,_,rfl,rfl,rfl,rfl,rfl,rfl,rfl,by decide,rfl⟩
theorem ZaQ:ApT E0 27 27 6 80:=⟨_,_,_,_,_,rfl,rfl,rfl,rfl,rfl,rfl,rfl,by decide,rfl⟩
theorem ZW (l:List Tm):noB (Za l)=true:=by
 simp only [Xn,noB,List.all_map,List.all_eq_true]
 rintro ⟨k,nm,s,b,kz⟩ _
 rfl
theorem Zbs (l:List Mo):noB (moC l)=true:=by
 simp only [moC,noB,List.all_map,List.all_eq_true]
 rintro ⟨⟩ _
 rfl
theorem Zcr (l:List Mo):(moC l).all (fun c=>c.all Z0)=true:=by
 simp only [moC,List.all_map,List.all_eq_true]
 intro m _
 exact m.cells_ok
theorem c9 (hl : l.length ≤ 1000) (b : Bool) :
  ∀ H,CallOk E0 Tryz.prog 9 [slV b 6 (moC l)] H (slV b 6 (moC l)) H:=by
 refine Jw tOk fe9.ok (Zw _ _ _ _ _) ?_
 obtain ⟨out',lv',nt',hap,hA, -⟩:=(ApV.full (es:=6) [] [] 0 (rfl:false=false) rfl).app ZaQ (.slV b 6 (moC l)) (Zcr l) (ZS (by simp [XE];omega) (by decide)) (Zbs l)
 cases hL:moC l with
 | nil =>
   rw [hL] at hap hA
   cases b with
   | true =>
     rw [Zh] at hap ⊢
     repeat' first|refine Jt ?_|refine Jo ?_|fail
     all_goals rfl
   | false =>
     rw [Zq] at hap ⊢
     repeat' first|refine Js ?_|refine JA ?_|refine Jt ?_|refine Jo ?_|fail
     first
      | exact hA.frz3 _ _
      | exact (hA.frz3 _ _).trans (by rw [List.append_nil,Zq])
 | cons c r =>
   rw [hL,Zm] at hap
   rw [hL] at hA
   rw [Zm]
   repeat' first|refine Js ?_|refine JA ?_|refine Jt ?_|refine Jo ?_|fail
   rw [← Zm false]
   exact hA.frz3 _ _
theorem ZmB {n:Int} {x:Mo} (h:l[i]? = some x):ofF n (l.take (i+1))=ofF n (l.take i)++(if x.kind≠6∧x.num=n then [x] else []):=by
 simp only [ofF,List.take_add_one,h,Option.toList_some,List.filter_append]
 congr 1
 by_cases c:x.kind≠6∧x.num=n
 · rw [if_pos c];simp [c.1,c.2]
 · rw [if_neg c]
   simp only [List.filter_cons,List.filter_nil]
   rw [if_neg (by simpa [Bool.and_eq_true] using c)]
theorem ZnZ (n:Int) (l:List Mo):(ofF n l).length≤l.length:=List.length_filter_le _ _
theorem ZmI (kd nu ro:Int) (an:Bool) (ag:List Znc) (go:Int) (tn:Bool) (te:List Tm):moC [⟨kd,nu,ro,an,ag,go,tn,te⟩]= [[.int .i64 kd,.int .i64 nu,.int .i64 ro,slV an 1 (Y1 ag),.int .i64 go,slV tn 4 (Za te)]]:=rfl
theorem c12 (hl : l.length ≤ 420) (n : Int) (b : Bool) :
  ∀ H,CallOk E0 Tryz.prog 12 [slV b 6 (moC l),.int .i64 n] H (slV true 6 (moC (ofF n l))) H:=by
 refine Jw tOk fe12.ok (Zw _ _ _ _ _) ?_
 repeat' first|refine Jk ?_|refine Js ?_|refine JA ?_|refine Ji ?_|refine JJ ?_|refine Jl ?_|refine Jx ?_|refine Jt ?_|refine Jb ?_ ?_|(apply qT (ty:=0);rfl;rfl;rfl)|(apply qF (ty:=0);rfl;rfl;rfl)|refine Jz ?_ ?_|refine Jo ?_|intro hb
 refine Wp.while (fun m tm H => ∃ (i : Nat) (base : TM) (out : PV) (lv : List Nat) (nt : Nat), i + m = l.length ∧ ApV true 6 (moC (ofF n (l.take i))) out lv nt ∧
   tm=ovr base [(1,.int .i64 n),(5,out),(8,slV b 6 (moC l)),(9,.int .i64 (l.length:Int)),(10,.int .i64 (i:Int))]∧H=⟨[],0,lv,nt⟩)
  (fun m tm H hI=>Wp.drop ?_) l.length _ _ ⟨0,_,_,_,_,by omega,.nil _ _ rfl,Zf ⟨rfl,rfl,rfl,Zd (by rw [XE]),rfl,trivial⟩,rfl⟩
 obtain ⟨i,base,out,lv,nt,hi,hA,rfl,rfl⟩:=hI
 by_cases hlt:i<l.length
 · obtain ⟨x, hx⟩ : ∃ x, l[i]? = some x := ⟨l[i], by simp⟩
   have hs:=ZmB (n:=n) hx
   have hsl:=ZnZ n (l.take i)
   rw [List.length_take] at hsl
   obtain ⟨out',lv',nt',hap,hA', -⟩:=hA.app ZaQ (.sl .full 6 (moC [x])) (Zcr _) (ZS (by simp only [XE,List.length_cons,List.length_nil];omega) (by decide)) (Zbs _)
   rw [← ZaW] at hA'
   have hj:=WH hx
   obtain ⟨kd,nu,ro,an,ag,go,tn,te⟩:=x
   simp only [Mo.cells] at hj hs
   rw [ZmI] at hap
   repeat' first|refine Jk ?_|refine Js ?_|refine JA ?_|refine Ji ?_|refine JJ ?_|refine Jl ?_|refine Jx ?_|refine Jt ?_|refine Jb ?_ ?_|(apply qT (ty:=0);rfl;rfl;rfl)|(apply qF (ty:=0);rfl;rfl;rfl)|refine Jz ?_ ?_|refine Jo ?_|intro hb
   all_goals first
    | (have e : kd ≠ 6 ∧ nu = n := by simp_all
       rw [if_pos e] at hs
       exact DropQ.go [(1,.int .i64 n),(5,out'),(8,slV b 6 (moC l)),(9,.int .i64 (l.length:Int)),(10,.int .i64 ((i+1:Nat):Int))] ⟨rfl,rfl,rfl,rfl,Zd (Zc (n:=i+1) (by omega)),trivial⟩
        (by simp [hA'.under,Zg,under]) rfl rfl (LoopI.go (m-1) (by omega) ⟨i+1,_,out',lv',nt',by omega,by rw [hs];exact hA',rfl,rfl⟩))
    | (have e : ¬ (kd ≠ 6 ∧ nu = n) := by simp_all
       rw [if_neg e,List.append_nil] at hs
       exact DropQ.go [(1,.int .i64 n),(5,out),(8,slV b 6 (moC l)),(9,.int .i64 (l.length:Int)),(10,.int .i64 ((i+1:Nat):Int))] ⟨rfl,rfl,rfl,rfl,Zd (Zc (n:=i+1) (by omega)),trivial⟩
        (by simp [hA.under,Zg,under]) rfl rfl (LoopI.go (m-1) (by omega) ⟨i+1,_,out,lv,nt,by omega,by rw [hs];exact hA,rfl,rfl⟩))
    | (exfalso;simp at hb<;>omega)
 · have e : i = l.length := by omega
   subst e
   rw [List.take_length] at hA
   repeat' first|refine Jk ?_|refine Js ?_|refine JA ?_|refine Ji ?_|refine JJ ?_|refine Jl ?_|refine Jx ?_|refine Jt ?_|refine Jb ?_ ?_|(apply qT (ty:=0);rfl;rfl;rfl)|(apply qF (ty:=0);rfl;rfl;rfl)|refine Jz ?_ ?_|refine Jo ?_|intro hb
   · simp at hb
   · exact hA.frz3 _ _
