/-
  The size of a term, and the comparison of two numbers, as the reference computes
-/
import Derived.Test.YtnnfkocifnflgaaGreatDoorAwOr
set_option maxHeartbeats 0
set_option maxRecDepth 100000
namespace Go.Vm.Seat
variable {t:Tm} {a b:Int} {l l':List Tm}
open Go.Proofs
theorem Zaz (k:Int) (nm:List UInt8) (s:Int) (b:Bool) (kz:List Tm):Uq [.int .i64 k,.str nm,.int .i64 s,slV b 4 (Za kz)]=some [.int .i64 k,.str nm,.int .i64 s,slV b 4 (Za kz)]:=by
 simp only [Uq,Yq]
 rfl
theorem d60 (a b:Int):∀ H,CallOk E1 Tryz.prog 60 [.int .i64 a,.int .i64 b] H (.int .i64 (X0 a b)) H:=by
 refine Jw Zcl fe60.ok rfl ?_
 repeat' first|refine Jt ?_|refine Jb ?_ ?_|refine Jo ?_|intro hb
 all_goals (refine Ze ?_;simp [X0] at *;try omega)
theorem d73 (a b:Int):∀ H,CallOk E1 Tryz.prog 73 [.int .i64 a,.int .i64 b] H (.int .i64 (X0 a b)) H:=by
 refine Jw Zcl fe73.ok rfl ?_
 repeat' first|refine Jt ?_|refine Jb ?_ ?_|refine Jo ?_|intro hb
 all_goals (refine Ze ?_;simp [X0] at *;try omega)
theorem ZnR (a b:List UInt8):∀ H,CallOk E1 Tryz.prog 151 [.str a,.str b] H (.int .i64 (Uv a b)) H:=fun H=>by
 have:=(ZkO [.str a,.str b] H _ _ rfl).1
 rwa [Wy] at this
theorem ZoL (a b:List UInt8):∀ H,CallOk E1 Tryz.prog 104 [.str a,.str b] H (.int .i64 (Uv a b)) H:=by
 have hc:=ZnR a b
 refine Jw Zcl fe104.ok rfl ?_
 repeat' first|refine Jc (hc _) ?_|refine Jo ?_|intro hb
 all_goals rfl
theorem d62 (a b:List UInt8):∀ H,CallOk E1 Tryz.prog 62 [.str a,.str b] H (.int .i64 (Uv a b)) H:=by
 have hc:=ZoL a b
 refine Jw Zcl fe62.ok rfl ?_
 repeat' first|refine Jc (hc _) ?_|refine Jo ?_|intro hb
 all_goals rfl
theorem d74 (ht:t.Ok):t.size<4611686018427387904→∀ H,CallOk E1 Tryz.prog 74 [.agg t.cells] H (.int .i64 (t.size:Int)) H:=by
 induction ht with
 | @mk k nm s b kz hk hs hn hl hok ih=>
 intro hsz
 refine Jw Zcl fe74.ok rfl ?_ (by simp [ZP,frzG,Tm.cells,Zaz])
 repeat' first|refine Ji ?_|refine JJ ?_|refine Jl ?_|refine Jx ?_|refine Jt ?_|refine Jb ?_ ?_|refine Jo ?_|intro hb
 refine Wp.while (fun m tm H=>∃ i base,i+m=kz.length∧tm=ovr base [(1,.ptr 0 4 0 0),(3,.int .i64 ((1+Zl (kz.take i):Nat):Int)),(4,.int .i64 (i:Int))]∧H=⟨[.cells 4 [[.int .i64 k,.str nm,.int .i64 s,slV b 4 (Za kz)]]],0,[],0⟩)
  (fun m tm H hI=>?_) kz.length _ _ ⟨0,_,by omega,Zf ⟨rfl,rfl,rfl,trivial⟩,rfl⟩
 obtain ⟨i,base,hi,rfl,rfl⟩:=hI
 simp only [Tm.size] at hsz
 unfold maxLen at hl
 by_cases hlt:i<kz.length
 · obtain ⟨t', ht'⟩ : ∃ t', kz[i]? = some t' := ⟨kz[i], by simp⟩
   have hm:t'∈kz:=List.mem_of_getElem? ht'
   have hle:=Xi hm
   have hst:=V2 ht'
   have hsl:=ZE kz (i+1)
   have hc:=ih t' hm (by omega)
   obtain ⟨k',nm',s',b',kz'⟩:=t'
   have hj:=Zh ht'
   repeat' first|refine Jc (hc _) ?_|refine Ji ?_|refine JJ ?_|refine Jl ?_|refine Jx ?_|refine Jt ?_|refine Jb ?_ ?_|refine Jo ?_|intro hb
   · refine LoopI.go (m - 1) (by omega) ⟨i + 1, _, by omega, Zf ⟨rfl, ?_, ?_, trivial⟩, rfl⟩
     · refine Ze ?_
       rw [hst, ← Nat.add_assoc,Int.natCast_add (1+Zl (kz.take i)), ← Int.natCast_add]
       exact Zc (by omega)
     · exact Ze (Zc (n:=i+1) (by omega))
   · exfalso;rw [Zb] at hb;simp at hb<;>omega
 · have e : i = kz.length := by omega
   subst e
   repeat' first|refine Ji ?_|refine JJ ?_|refine Jl ?_|refine Jx ?_|refine Jt ?_|refine Jb ?_ ?_|refine Jo ?_|intro hb
   · exfalso;rw [Zb] at hb;simp at hb
   · simp [Tm.size]
theorem d61 (ht:t.Ok):t.size<4611686018427387904→∀ H,CallOk E1 Tryz.prog 61 [.agg t.cells] H (.int .i64 (t.size:Int)) H:=by
 induction ht with
 | @mk k nm s b kz hk hs hn hl hok ih=>
 intro hsz
 refine Jw Zcl fe61.ok rfl ?_ (by simp [ZP,frzG,Tm.cells,Zaz])
 repeat' first|refine Ji ?_|refine JJ ?_|refine Jl ?_|refine Jx ?_|(apply qT (ty:=0);rfl;rfl;rfl)|(apply qF (ty:=0);rfl;rfl;rfl)|refine Jz ?_ ?_|refine Jo ?_|intro hb
 refine Wp.while (fun m tm H=>∃ (i:Nat),∃ base,i+m=kz.length∧tm=ovr base [(3,.int .i64 ((1+Zl (kz.take i):Nat):Int)),(7,slV b 4 (Za kz)),(8,.int .i64 (kz.length:Int)),(9,.int .i64 (i:Int))]∧H=⟨[.cells 4 [[.int .i64 k,.str nm,.int .i64 s,slV b 4 (Za kz)]]],0,[],0⟩)
  (fun m tm H hI=>Wp.drop ?_) kz.length _ _ ⟨0,_,by omega,Zf ⟨rfl,rfl,Ze (by rw [Zb]),rfl,trivial⟩,rfl⟩
 obtain ⟨i,base,hi,rfl,rfl⟩:=hI
 simp only [Tm.size] at hsz
 unfold maxLen at hl
 by_cases hlt:i<kz.length
 · obtain ⟨t', ht'⟩ : ∃ t', kz[i]? = some t' := ⟨kz[i], by simp⟩
   have hm:t'∈kz:=List.mem_of_getElem? ht'
   have hle:=Xi hm
   have hst:=V2 ht'
   have hsl:=ZE kz (i+1)
   have hc:=ih t' hm (by omega)
   obtain ⟨k',nm',s',b',kz'⟩:=t'
   have hj:=Zh ht'
   repeat' first|refine Jc (hc _) ?_|refine Ji ?_|refine JJ ?_|refine Jl ?_|refine Jx ?_|(apply qT (ty:=0);rfl;rfl;rfl)|(apply qF (ty:=0);rfl;rfl;rfl)|refine Jz ?_ ?_|refine Jo ?_|intro hb
   · refine DropQ.go [(3, .int .i64 ((1 + Zl (kz.take (i + 1)) : Nat) : Int)), (7, slV b 4 (Za kz)), (8, .int .i64 (kz.length : Int)), (9, .int .i64 ((i + 1 : Nat) : Int))] ⟨?_, rfl, rfl, Ze (Zc (n := i + 1) (by omega)), trivial⟩
       (by simp [Zj,under]) rfl (by simp [Yb,ZA,Zj,under]) (LoopI.go (m-1) (by omega) ⟨i+1,_,by omega,rfl,rfl⟩)
     refine Ze ?_
     rw [hst, ← Nat.add_assoc,Int.natCast_add (1+Zl (kz.take i)), ← Int.natCast_add]
     exact Zc (by omega)
   · exfalso;simp at hb<;>omega
 · have e : i = kz.length := by omega
   subst e
   repeat' first|refine Ji ?_|refine JJ ?_|refine Jl ?_|refine Jx ?_|(apply qT (ty:=0);rfl;rfl;rfl)|(apply qF (ty:=0);rfl;rfl;rfl)|refine Jz ?_ ?_|refine Jo ?_|intro hb
   · exfalso;simp at hb
   · simp [Tm.size]
theorem ZdD (k:Int) (nm:List UInt8) (s:Int) (b:Bool) (l:List Tm):((Tm.mk k nm s b l).size:Int)=((1+Zl l:Nat):Int):=by simp [Tm.size]
theorem Zkm (h:a≠0):thn a b=a:=if_pos h
theorem Wc (h:a=0):thn a b=b:=if_neg (by simpa using h)
theorem Zcj {i:Nat} {a b:Tm} (h:l[i]? = some a) (h':l'[i]? = some b):WR (l.drop i) (l'.drop i)=thn (a.cmp b) (WR (l.drop (i+1)) (l'.drop (i+1))):=by
 rw [ZL h,ZL h'];simp only [WR]
theorem cmpL_end:WR (l.drop l.length) (l'.drop l.length)=0:=by simp [WR]
theorem d41:∀ {t u:Tm},t.Ok→u.Ok→t.size<4611686018427387904→u.size<4611686018427387904→∀ H,CallOk E1 Tryz.prog 41 [.agg t.cells,.agg u.cells] H (.int .i64 (t.cmp u)) H:=by
 intro t u ht
 induction ht generalizing u with
 | @mk k nm s b kz hk hs hn hl hok ih=>
 intro hu hsz hsz2
 have hu0:=hu
 cases hu with
 | @mk k2 nm2 s2 b2 kz2 hk2 hs2 hn2 hl2 hok2=>
 have hsize:=d74 (Tm.Ok.mk (b:=b) hk hs hn hl hok) hsz
 have hsize2:=d74 (Tm.Ok.mk (b:=b2) hk2 hs2 hn2 hl2 hok2) hsz2
 rw [ZdD] at hsize hsize2
 have hc1:=d73 ((1+Zl kz:Nat):Int) ((1+Zl kz2:Nat):Int)
 have hc2:=d73 k k2
 have hc4:=d73 s s2
 have hc5:=d73 (kz.length:Int) (kz2.length:Int)
 have hcmp:(Tm.mk k nm s b kz).cmp (Tm.mk k2 nm2 s2 b2 kz2)=thn (X0 ((1+Zl kz:Nat):Int) ((1+Zl kz2:Nat):Int)) (thn (X0 k k2) (thn (Uv nm nm2) (thn (X0 s s2) (thn (X0 (kz.length:Int) (kz2.length:Int)) (WR kz kz2))))):=by simp only [Tm.cmp]
 rw [hcmp]
 generalize X0 ((1+Zl kz:Nat):Int) ((1+Zl kz2:Nat):Int)=x1 at hc1 ⊢
 generalize X0 k k2=x2 at hc2 ⊢
 generalize X0 s s2=x4 at hc4 ⊢
 obtain ⟨x5,hx5⟩:∃ x5,x5=X0 (kz.length:Int) (kz2.length:Int):=⟨_,rfl⟩
 rw [← hx5] at hc5 ⊢
 rw [← Zb kz, ← Zb kz2] at hc5
 refine Jw Zcl fe41.ok rfl ?_ (by simp [ZP,frzG,Tm.cells,Zaz])
 repeat' first|(apply qCl;rfl;rfl;rfl;rfl;first|exact hsize _|exact hsize2 _|exact hc1 _|exact hc2 _|exact hc4 _|exact hc5 _)|refine Ji ?_|refine JJ ?_|refine Jl ?_|refine Jx ?_|refine Jt ?_|refine Jb ?_ ?_|refine Jo ?_|(apply dCl;rfl;rfl;rfl;rfl;rfl;first|exact hsize _|exact hsize2 _|exact hc1 _|exact hc2 _|exact hc4 _|exact hc5 _)|refine JD ?_|refine JK ?_|(apply dLn;rfl;rfl;rfl;rfl;rfl)|refine JI ?_|(apply dT (ty:=4);rfl;rfl;rfl;rfl)|(apply dF (ty:=4);rfl;rfl;rfl;rfl)|(apply dB (ty:=4);rfl;rfl;rfl;rfl)|refine Jh ?_|(apply Wp.draw Zcl follows;kernel_rfl)|intro hb
 all_goals first
  | (refine Ze ?_;clear hsize hsize2 hc1 hc2 hc4 hc5 ih hok hok2 hcmp hx5 hu0;simp_all [thn,Uv];done)
  | skip
 have hb5:x5=0:=by simpa using hb
 have h5:kz.length=kz2.length:=by have:=XP (hx5.symm.trans hb5);omega
 have hx:thn x1 (thn x2 (thn (Uv nm nm2) (thn x4 (thn x5 (WR kz kz2)))))=WR kz kz2:=by
  clear hsize hsize2 hc1 hc2 hc4 hc5 ih hok hok2 hcmp hx5 hu0
  simp_all [thn,Uv]
 rw [hx]
 clear hsize hsize2 hc1 hc2 hc4 hc5 hcmp hu0
 refine Wp.while (fun m tm H=>∃ (i:Nat),∃ base,i+m=kz.length∧WR kz kz2=WR (kz.drop i) (kz2.drop i)∧tm=ovr base [(2,.ptr 0 4 0 0),(3,.ptr 1 4 0 0),(9,.int .i64 (i:Int))]∧H=⟨[.cells 4 [[.int .i64 k,.str nm,.int .i64 s,slV b 4 (Za kz)]],.cells 4 [[.int .i64 k2,.str nm2,.int .i64 s2,slV b2 4 (Za kz2)]]],0,[],0⟩)
  (fun m tm H hI=>?_) kz.length _ _ ⟨0,_,by omega,by simp,Zf ⟨rfl,rfl,rfl,trivial⟩,rfl⟩
 obtain ⟨i,base,hi,hcm,rfl,rfl⟩:=hI
 rw [hcm]
 unfold maxLen at hl
 by_cases hlt:i<kz.length
 · obtain ⟨t', ht'⟩ : ∃ t', kz[i]? = some t' := ⟨kz[i], by simp⟩
   obtain ⟨u',hu'⟩:∃ u',kz2[i]? = some u':=⟨kz2[i]'(by omega),by simp⟩
   have hm:t'∈kz:=List.mem_of_getElem? ht'
   have hm2:u'∈kz2:=List.mem_of_getElem? hu'
   simp only [Tm.size] at hsz hsz2
   have hle:=Xi hm
   have hle2:=Xi hm2
   have hc:=ih t' hm (hok2 u' hm2) (by omega) (by omega)
   have hdr:=Zcj ht' hu'
   obtain ⟨y,hy⟩:∃ y,y=t'.cmp u':=⟨_,rfl⟩
   rw [← hy] at hc hdr
   rw [hdr]
   obtain ⟨k',nm',s',b',kz'⟩:=t'
   obtain ⟨k2',nm2',s2',b2',kz2'⟩:=u'
   have hj:=Zh ht'
   have hj2:=Zh hu'
   repeat' first|refine Jc (hc _) ?_|refine Ji ?_|refine JJ ?_|refine Jl ?_|refine Jx ?_|refine Jt ?_|refine Jb ?_ ?_|refine Jo ?_|refine Jd (hc _) ?_|refine JD ?_|refine JK ?_|(apply dLn;rfl;rfl;rfl;rfl;rfl)|refine JI ?_|(apply dT (ty:=4);rfl;rfl;rfl;rfl)|(apply dF (ty:=4);rfl;rfl;rfl;rfl)|(apply dB (ty:=4);rfl;rfl;rfl;rfl)|refine Jh ?_|(apply Wp.draw Zcl follows;kernel_rfl)|intro hb
   · refine Ze ?_
     rw [Zkm (by simpa using hb)]
   · have hy0 : y = 0 := by simpa using hb
     refine LoopI.go (m-1) (by omega) ⟨i+1,_,by omega,by rw [Wc hy0],Zf ⟨rfl,rfl,?_,trivial⟩,rfl⟩
     exact Ze (Zc (n:=i+1) (by omega))
   all_goals (exfalso;rw [Zb] at hb;simp at hb;omega)
 · have e : i = kz.length := by omega
   subst e
   repeat' first|refine Ji ?_|refine JJ ?_|refine Jl ?_|refine Jx ?_|refine Jt ?_|refine Jb ?_ ?_|refine Jo ?_|refine JD ?_|refine JK ?_|(apply dLn;rfl;rfl;rfl;rfl;rfl)|refine JI ?_|(apply dT (ty:=4);rfl;rfl;rfl;rfl)|(apply dF (ty:=4);rfl;rfl;rfl;rfl)|(apply dB (ty:=4);rfl;rfl;rfl;rfl)|refine Jh ?_|(apply Wp.draw Zcl follows;kernel_rfl)|intro hb
   · exfalso;rw [Zb] at hb;simp at hb
   · exact Ze cmpL_end.symm
theorem Uu (a b:Int):X0 a b=0∨X0 a b= -1∨X0 a b=1:=by
 simp only [X0]
 split
 · simp
 · split<;>simp
theorem ZiI (a b:List UInt8):Uv a b=0∨Uv a b= -1∨Uv a b=1:=by
 simp only [Uv]
 split
 · simp
 · split<;>simp
theorem Zez (h:a=0∨a= -1∨a=1) (h':b=0∨b= -1∨b=1):thn a b=0∨thn a b= -1∨thn a b=1:=by
 unfold thn;split<;>assumption
mutual
theorem ZkX:∀ t u:Tm,t.cmp u=0∨t.cmp u= -1∨t.cmp u=1
 | .mk k nm s b l, .mk k' nm' s' b' l' => by
   simp only [Tm.cmp]
   exact Zez (Uu _ _) (Zez (Uu _ _) (Zez (ZiI _ _) (Zez (Uu _ _) (Zez (Uu _ _) (Ziw l l')))))
theorem Ziw:∀ l l':List Tm,WR l l'=0∨WR l l'= -1∨WR l l'=1
 | [],_=>by simp [WR]
 |_::_,[]=>by simp [WR]
 | a :: r, b :: r' => by
   simp only [WR]
   exact Zez (ZkX a b) (Ziw r r')
end
theorem d32:∀ {t u:Tm},t.Ok→u.Ok→t.size<4611686018427387904→u.size<4611686018427387904→∀ H,CallOk E1 Tryz.prog 32 [.agg t.cells,.agg u.cells] H (.int .i64 (t.cmp u)) H:=by
 intro t u ht
 induction ht generalizing u with
 | @mk k nm s b kz hk hs hn hl hok ih=>
 intro hu hsz hsz2
 cases hu with
 | @mk k2 nm2 s2 b2 kz2 hk2 hs2 hn2 hl2 hok2=>
 have hsize:=d61 (Tm.Ok.mk (b:=b) hk hs hn hl hok) hsz
 have hsize2:=d61 (Tm.Ok.mk (b:=b2) hk2 hs2 hn2 hl2 hok2) hsz2
 rw [ZdD] at hsize hsize2
 have hc1:=d60 ((1+Zl kz:Nat):Int) ((1+Zl kz2:Nat):Int)
 have hc2:=d60 k k2
 have hc3:=d62 nm nm2
 have hc4:=d60 s s2
 have hc5:=d60 (kz.length:Int) (kz2.length:Int)
 have hcmp:(Tm.mk k nm s b kz).cmp (Tm.mk k2 nm2 s2 b2 kz2)=thn (X0 ((1+Zl kz:Nat):Int) ((1+Zl kz2:Nat):Int)) (thn (X0 k k2) (thn (Uv nm nm2) (thn (X0 s s2) (thn (X0 (kz.length:Int) (kz2.length:Int)) (WR kz kz2))))):=by simp only [Tm.cmp]
 rw [hcmp]
 clear hcmp
 have v1:=Uu ((1+Zl kz:Nat):Int) ((1+Zl kz2:Nat):Int)
 have v2:=Uu k k2
 have v3:=ZiI nm nm2
 have v4:=Uu s s2
 have v5:=Uu (kz.length:Int) (kz2.length:Int)
 generalize X0 ((1+Zl kz:Nat):Int) ((1+Zl kz2:Nat):Int)=x1 at hc1 v1 ⊢
 generalize X0 k k2=x2 at hc2 v2 ⊢
 generalize Uv nm nm2=x3 at hc3 v3 ⊢
 generalize X0 s s2=x4 at hc4 v4 ⊢
 obtain ⟨x5,hx5⟩:∃ x5,x5=X0 (kz.length:Int) (kz2.length:Int):=⟨_,rfl⟩
 rw [← hx5] at hc5 v5 ⊢
 rw [← Zb kz, ← Zb kz2] at hc5
 refine Jw Zcl fe32.ok rfl ?_ (by simp [ZP,frzG,Tm.cells,Zaz])
 obtain ⟨G,hG⟩:∃ G,G=thn x1 (thn x2 (thn x3 (thn x4 (thn x5 (WR kz kz2))))):=⟨_,rfl⟩
 rw [← hG]
 have hlen:x5=0→kz.length=kz2.length:=fun h=>by have:=XP (hx5.symm.trans h);omega
 clear hx5
 rcases v1 with rfl|rfl|rfl
 rcases v2 with rfl|rfl|rfl
 rcases v3 with rfl|rfl|rfl
 rcases v4 with rfl|rfl|rfl
 rcases v5 with rfl|rfl|rfl
 all_goals
  repeat' first|refine Jk ?_|(apply qCl;rfl;rfl;rfl;rfl;first|exact hsize _|exact hsize2 _|exact hc1 _|exact hc2 _|exact hc3 _|exact hc4 _|exact hc5 _)|refine Ji ?_|refine JJ ?_|refine Jl ?_|refine Jx ?_|refine Jt ?_|refine Jb ?_ ?_|refine Jo ?_|(apply dK;rfl;rfl;rfl)|(apply dCl;rfl;rfl;rfl;rfl;rfl;first|exact hsize _|exact hsize2 _|exact hc1 _|exact hc2 _|exact hc3 _|exact hc4 _|exact hc5 _)|refine JD ?_|refine JK ?_|(apply dLn;rfl;rfl;rfl;rfl;rfl)|refine JI ?_|(apply dT (ty:=4);rfl;rfl;rfl;rfl)|(apply dF (ty:=4);rfl;rfl;rfl;rfl)|(apply dB (ty:=4);rfl;rfl;rfl;rfl)|refine Jh ?_|(apply Wp.draw Zcl follows;kernel_rfl)|intro hb
  refine Wp.while (fun m tm H=>∃ (i:Nat),∃ base,∃ y:Int,i+m=kz.length∧(y=0∨y= -1∨y=1)∧(y=0→kz.length=kz2.length)∧G=thn y (WR (kz.drop i) (kz2.drop i))∧tm=ovr base [(2,.ptr 0 4 0 0),(3,.ptr 1 4 0 0),(5,.int .i64 y),(6,.int .i64 (i:Int))]∧H=⟨[.cells 4 [[.int .i64 k,.str nm,.int .i64 s,slV b 4 (Za kz)]],.cells 4 [[.int .i64 k2,.str nm2,.int .i64 s2,slV b2 4 (Za kz2)]]],0,[],0⟩)
   (fun m tm H hI=>?_) kz.length _ _ ⟨0,_,_,by omega,by omega,by first|exact hlen|(intro h;simp at h),by simp [hG,thn],Zf ⟨rfl,rfl,rfl,rfl,trivial⟩,rfl⟩
  clear hG hsize hsize2 hc1 hc2 hc3 hc4 hc5 hlen
  obtain ⟨i,base,y,hi,hy,hyl,hG,rfl,rfl⟩:=hI
  unfold maxLen at hl
  rcases hy with rfl|hy
  · have h5 := hyl rfl
    rw [Wc rfl] at hG
    by_cases hlt:i<kz.length
    · obtain ⟨t', ht'⟩ : ∃ t', kz[i]? = some t' := ⟨kz[i], by simp⟩
      obtain ⟨u',hu'⟩:∃ u',kz2[i]? = some u':=⟨kz2[i]'(by omega),by simp⟩
      have hm:t'∈kz:=List.mem_of_getElem? ht'
      have hm2:u'∈kz2:=List.mem_of_getElem? hu'
      simp only [Tm.size] at hsz hsz2
      have hle:=Xi hm
      have hle2:=Xi hm2
      have hc:=ih t' hm (hok2 u' hm2) (by omega) (by omega)
      have hdr:=Zcj ht' hu'
      have h3:=ZkX t' u'
      obtain ⟨z,hz⟩:∃ z,z=t'.cmp u':=⟨_,rfl⟩
      rw [← hz] at hc hdr h3
      obtain ⟨k',nm',s',b',kz'⟩:=t'
      obtain ⟨k2',nm2',s2',b2',kz2'⟩:=u'
      have hj:=Zh ht'
      have hj2:=Zh hu'
      repeat' first|refine Jk ?_|refine Jc (hc _) ?_|refine Ji ?_|refine JJ ?_|refine Jl ?_|refine Jx ?_|refine Jt ?_|refine Jb ?_ ?_|refine Jo ?_|(apply dK;rfl;rfl;rfl)|refine Jd (hc _) ?_|refine JD ?_|refine JK ?_|(apply dLn;rfl;rfl;rfl;rfl;rfl)|refine JI ?_|(apply dT (ty:=4);rfl;rfl;rfl;rfl)|(apply dF (ty:=4);rfl;rfl;rfl;rfl)|(apply dB (ty:=4);rfl;rfl;rfl;rfl)|refine Jh ?_|(apply Wp.draw Zcl follows;kernel_rfl)|intro hb
      · refine LoopI.go (m - 1) (by omega) ⟨i + 1, _, z, by omega, h3, fun _ => h5, hG.trans hdr, Zf ⟨rfl, rfl, rfl, ?_, trivial⟩, rfl⟩
        exact Ze (Zc (n:=i+1) (by omega))
      · exfalso;rw [Zb] at hb;simp at hb;omega
    · have e : i = kz.length := by omega
      subst e
      repeat' first|refine Jk ?_|refine Ji ?_|refine JJ ?_|refine Jl ?_|refine Jx ?_|refine Jt ?_|refine Jb ?_ ?_|refine Jo ?_|(apply dK;rfl;rfl;rfl)|refine JD ?_|refine JK ?_|(apply dLn;rfl;rfl;rfl;rfl;rfl)|refine JI ?_|(apply dT (ty:=4);rfl;rfl;rfl;rfl)|(apply dF (ty:=4);rfl;rfl;rfl;rfl)|(apply dB (ty:=4);rfl;rfl;rfl;rfl)|refine Jh ?_|(apply Wp.draw Zcl follows;kernel_rfl)|intro hb
      · exfalso;rw [Zb] at hb;simp at hb
      · exact Ze (by rw [hG];exact cmpL_end.symm)
  · rcases hy with rfl | rfl
    ·
      repeat' first|refine Jk ?_|refine Ji ?_|refine JJ ?_|refine Jl ?_|refine Jx ?_|refine Jt ?_|refine Jb ?_ ?_|refine Jo ?_|(apply dK;rfl;rfl;rfl)|refine JD ?_|refine JK ?_|(apply dLn;rfl;rfl;rfl;rfl;rfl)|refine JI ?_|(apply dT (ty:=4);rfl;rfl;rfl;rfl)|(apply dF (ty:=4);rfl;rfl;rfl;rfl)|(apply dB (ty:=4);rfl;rfl;rfl;rfl)|refine Jh ?_|(apply Wp.draw Zcl follows;kernel_rfl)|intro hb
      exact Ze hG.symm
    ·
      repeat' first|refine Jk ?_|refine Ji ?_|refine JJ ?_|refine Jl ?_|refine Jx ?_|refine Jt ?_|refine Jb ?_ ?_|refine Jo ?_|(apply dK;rfl;rfl;rfl)|refine JD ?_|refine JK ?_|(apply dLn;rfl;rfl;rfl;rfl;rfl)|refine JI ?_|(apply dT (ty:=4);rfl;rfl;rfl;rfl)|(apply dF (ty:=4);rfl;rfl;rfl;rfl)|(apply dB (ty:=4);rfl;rfl;rfl;rfl)|refine Jh ?_|(apply Wp.draw Zcl follows;kernel_rfl)|intro hb
      exact Ze hG.symm
def Znj (a b:Int):Int:=if a<b then -1 else if b<a then 1 else 0
theorem c73 (a b:Int):∀ H,CallOk E0 Tryz.prog 73 [.int .i64 a,.int .i64 b] H (.int .i64 (Znj a b)) H:=by
 refine Jw tOk fe73.ok rfl ?_
 repeat' first|refine Jt ?_|refine Jb ?_ ?_|refine Jo ?_|intro hb
 all_goals simp_all [Znj]
 all_goals omega
theorem Xv (k:Int) (nm:List UInt8) (s:Int) (b:Bool) (kz:List Tm):Uq [.int .i64 k,.str nm,.int .i64 s,slV b 4 (Za kz)]=some [.int .i64 k,.str nm,.int .i64 s,slV b 4 (Za kz)]:=by
 simp only [Uq,Yq]
 rfl
theorem c74 (ht:t.Ok):t.size<4611686018427387904→∀ H,CallOk E0 Tryz.prog 74 [.agg t.cells] H (.int .i64 (t.size:Int)) H:=by
 induction ht with
 | @mk k nm s b kz hk hs hn hl hok ih=>
 intro hsz
 refine Jw tOk fe74.ok rfl ?_
 repeat' first|refine Ji ?_|refine JJ ?_|refine Jl ?_|refine Jx ?_|refine Jt ?_|refine Jb ?_ ?_|refine Jo ?_|intro hb
 refine Wp.while (fun m tm H=>∃ i base,i+m=kz.length∧tm=ovr base [(1,.ptr 0 4 0 0),(3,.int .i64 ((1+Zl (kz.take i):Nat):Int)),(4,.int .i64 (i:Int))]∧H=⟨[.cells 4 [[.int .i64 k,.str nm,.int .i64 s,slV b 4 (Za kz)]]],0,[],0⟩)
  (fun m tm H hI=>?_) kz.length _ _ ⟨0,_,by omega,Zf ⟨rfl,rfl,rfl,trivial⟩,rfl⟩
 obtain ⟨i,base,hi,rfl,rfl⟩:=hI
 simp only [Tm.size] at hsz
 unfold maxLen at hl
 by_cases hlt:i<kz.length
 · obtain ⟨t', ht'⟩ : ∃ t', kz[i]? = some t' := ⟨kz[i], by simp⟩
   have hm:t'∈kz:=List.mem_of_getElem? ht'
   have hle:=Xi hm
   have hst:=V2 ht'
   have hsl:=ZE kz (i+1)
   have hc:=ih t' hm (by omega)
   obtain ⟨k',nm',s',b',kz'⟩:=t'
   have hj:=Zh ht'
   repeat' first|refine Jc (hc _) ?_|refine Ji ?_|refine JJ ?_|refine Jl ?_|refine Jx ?_|refine Jt ?_|refine Jb ?_ ?_|refine Jo ?_|intro hb
   · refine LoopI.go (m - 1) (by omega) ⟨i + 1, _, by omega, Zf ⟨rfl, ?_, ?_, trivial⟩, rfl⟩
     · refine Ze ?_
       rw [hst, ← Nat.add_assoc,Int.natCast_add (1+Zl (kz.take i)), ← Int.natCast_add]
       exact Zc (by omega)
     · exact Ze (Zc (n:=i+1) (by omega))
   · rw [Zb] at hb;simp at hb;omega
 · have e : i = kz.length := by omega
   subst e
   repeat' first|refine Ji ?_|refine JJ ?_|refine Jl ?_|refine Jx ?_|refine Jt ?_|refine Jb ?_ ?_|refine Jo ?_|intro hb
   · rw [Zb] at hb;simp at hb
   · simp [Tm.size]
