/-
  The order of terms: the program's and the reference's text compute it; no draw is taken back.
-/
import Derived.Test.YtjokjgoppbmaiaaGreatDoorCrStr
import Derived.Test.YtjokjgoppbmaiaaGreatDoorFh
import Derived.Test.YtjokjgoppbmaiaaGreatDoorFg
set_option maxHeartbeats 64000000
set_option maxRecDepth 100000
namespace Go.Vm.Seat
open Go.Proofs
theorem frz_tm1 (k:Int) (nm:List UInt8) (s:Int) (b:Bool) (kids:List Tm):frzL [.int .i64 k,.str nm,.int .i64 s,slV b 4 (cellsL kids)]=some [.int .i64 k,.str nm,.int .i64 s,slV b 4 (cellsL kids)]:=by
 simp only [frzL,frz1_slV]
 rfl
theorem d171 (a b:Int):∀ H,CallOk E1 Tryz.prog 171 [.int .i64 a,.int .i64 b] H (.int .i64 (cmpI a b)) H:=by
 refine κw tOk1 fe171.ok rfl ?_
 repeat' first | refine κn ?_ | refine κt ?_ | refine κb ?_ ?_ | refine κg ?_ | refine κa ?_ | refine κf ?_ | intro hb
 all_goals (refine int_eq ?_;simp [cmpI] at *;try omega)
theorem d90 (a b:Int):∀ H,CallOk E1 Tryz.prog 90 [.int .i64 a,.int .i64 b] H (.int .i64 (cmpI a b)) H:=by
 refine κw tOk1 fe90.ok rfl ?_
 repeat' first | refine κn ?_ | refine κb ?_ ?_ | refine κg ?_ | refine κa ?_ | refine κf ?_ | intro hb
 all_goals (refine int_eq ?_;simp [cmpI] at *;try omega)
theorem d263 (a b:List UInt8):∀ H,CallOk E1 Tryz.prog 263 [.str a,.str b] H (.int .i64 (cmpB a b)) H:=fun H=>by
 have:=(z1_263 [.str a,.str b] H _ _ rfl).1
 rwa [compareBytes_eq] at this
theorem d231 (a b:List UInt8):∀ H,CallOk E1 Tryz.prog 231 [.str a,.str b] H (.int .i64 (cmpB a b)) H:=by
 have hc:=d263 a b
 refine κw tOk1 fe231.ok rfl ?_
 repeat' first | refine κn ?_ | refine κc (hc _) ?_ | refine κg ?_ | refine κa ?_ | refine κf ?_ | fail
 all_goals rfl
theorem d173 (a b:List UInt8):∀ H,CallOk E1 Tryz.prog 173 [.str a,.str b] H (.int .i64 (cmpB a b)) H:=by
 have hc:=d231 a b
 refine κw tOk1 fe173.ok rfl ?_
 repeat' first | refine κn ?_ | refine κc (hc _) ?_ | refine κg ?_ | refine κa ?_ | refine κf ?_ | fail
 all_goals rfl
theorem d91 {t:Tm} (ht:t.Ok):t.size < 4611686018427387904→∀ H,CallOk E1 Tryz.prog 91 [.agg t.cells] H (.int .i64 (t.size:Int)) H:=by
 induction ht with
 | @mk k nm s b kids hk hs hn hl hok ih=>
 intro hsz
 refine κw tOk1 fe91.ok rfl ?_ (by simp [frzGL,frzG,Tm.cells,frz_tm1])
 repeat' first | refine κn ?_ | refine κg ?_ | refine κa ?_ | fail
 refine Wp.while (fun m tm H=>∃ i base,i+m=kids.length∧tm=ovr base [(1,.ptr 0 4 0 0),(3,.int .i64 ((1+sizeL (kids.take i):Nat):Int)),(4,.int .i64 (i:Int))]∧H=⟨[.cells 4 [[.int .i64 k,.str nm,.int .i64 s,slV b 4 (cellsL kids)]]],0,[],0⟩)
  (fun m tm H hI=> ?_) kids.length _ _ ⟨0,_,by omega,ovr_mk ⟨rfl,rfl,rfl,trivial⟩,rfl⟩
 obtain ⟨i,base,hi,rfl,rfl⟩:=hI
 simp only [Tm.size] at hsz
 unfold maxLen at hl
 by_cases hlt:i < kids.length
 · obtain ⟨t', ht'⟩ : ∃ t', kids[i]? = some t' := ⟨kids[i], by simp⟩
   have hm:t'∈kids:=List.mem_of_getElem? ht'
   have hle:=size_le hm
   have hst:=sizeL_take ht'
   have hsl:=sizeL_take_le kids (i+1)
   have hc:=ih t' hm (by omega)
   obtain ⟨k',nm',s',b',kids'⟩:=t'
   have hj:=cellsL_get ht'
   repeat' first | refine κn ?_ | refine κc (hc _) ?_ | refine κl ?_ | refine κx ?_ | refine κb ?_ ?_ | refine κg ?_ | refine κa ?_ | refine κf ?_ | intro hb
   · refine LoopI.go (m - 1) (by omega) ⟨i + 1, _, by omega, ovr_mk ⟨rfl, ?_, ?_, trivial⟩, rfl⟩
     · refine int_eq ?_
       rw [hst, ← Nat.add_assoc,Int.natCast_add (1+sizeL (kids.take i)), ← Int.natCast_add]
       exact wrap_nat (by omega)
     · exact int_eq (wrap_nat (n:=i+1) (by omega))
   · exfalso;rw [cellsL_length] at hb;simp at hb <;> omega
 · have e : i = kids.length := by omega
   subst e
   repeat' first | refine κn ?_ | refine κl ?_ | refine κb ?_ ?_ | refine κg ?_ | refine κa ?_ | refine κf ?_ | intro hb
   · exfalso;rw [cellsL_length] at hb;simp at hb
   · simp [Tm.size]
theorem d172 {t:Tm} (ht:t.Ok):t.size < 4611686018427387904→∀ H,CallOk E1 Tryz.prog 172 [.agg t.cells] H (.int .i64 (t.size:Int)) H:=by
 induction ht with
 | @mk k nm s b kids hk hs hn hl hok ih=>
 intro hsz
 refine κw tOk1 fe172.ok rfl ?_ (by simp [frzGL,frzG,Tm.cells,frz_tm1])
 repeat' first | refine κn ?_ | refine κl ?_ | refine κg ?_ | refine κa ?_ | fail
 refine Wp.while (fun m tm H=>∃ (i:Nat),∃ base,i+m=kids.length∧tm=ovr base [(3,.int .i64 ((1+sizeL (kids.take i):Nat):Int)),(7,slV b 4 (cellsL kids)),(8,.int .i64 (kids.length:Int)),(9,.int .i64 (i:Int))]∧H=⟨[.cells 4 [[.int .i64 k,.str nm,.int .i64 s,slV b 4 (cellsL kids)]]],0,[],0⟩)
  (fun m tm H hI=>Wp.drop ?_) kids.length _ _ ⟨0,_,by omega,ovr_mk ⟨rfl,rfl,int_eq (by rw [cellsL_length]),rfl,trivial⟩,rfl⟩
 obtain ⟨i,base,hi,rfl,rfl⟩:=hI
 simp only [Tm.size] at hsz
 unfold maxLen at hl
 by_cases hlt:i < kids.length
 · obtain ⟨t', ht'⟩ : ∃ t', kids[i]? = some t' := ⟨kids[i], by simp⟩
   have hm:t'∈kids:=List.mem_of_getElem? ht'
   have hle:=size_le hm
   have hst:=sizeL_take ht'
   have hsl:=sizeL_take_le kids (i+1)
   have hc:=ih t' hm (by omega)
   obtain ⟨k',nm',s',b',kids'⟩:=t'
   have hj:=cellsL_get ht'
   repeat' first | refine κn ?_ | refine κc (hc _) ?_ | refine κx ?_ | refine κz ?_ ?_ | refine κg ?_ | refine κa ?_ | refine κf ?_ | intro hb
   · refine DropQ.go [(3, .int .i64 ((1 + sizeL (kids.take (i + 1)) : Nat) : Int)), (7, slV b 4 (cellsL kids)), (8, .int .i64 (kids.length : Int)), (9, .int .i64 ((i + 1 : Nat) : Int))] ⟨?_, rfl, rfl, int_eq (wrap_nat (n := i + 1) (by omega)), trivial⟩
       (by simp [under_slV,under]) rfl (by simp [boxU,underL,under_slV,under]) (LoopI.go (m - 1) (by omega) ⟨i+1,_,by omega,rfl,rfl⟩)
     refine int_eq ?_
     rw [hst, ← Nat.add_assoc,Int.natCast_add (1+sizeL (kids.take i)), ← Int.natCast_add]
     exact wrap_nat (by omega)
   · exfalso;simp at hb <;> omega
 · have e : i = kids.length := by omega
   subst e
   repeat' first | refine κn ?_ | refine κz ?_ ?_ | refine κg ?_ | refine κa ?_ | refine κf ?_ | intro hb
   · exfalso;simp at hb
   · simp [Tm.size]
theorem cmp_size (k:Int) (nm:List UInt8) (s:Int) (b:Bool) (l:List Tm):((Tm.mk k nm s b l).size:Int)=((1+sizeL l:Nat):Int):=by simp [Tm.size]
theorem thn_ne {a b:Int} (h:a≠0):thn a b=a:=if_pos h
theorem thn_zero {a b:Int} (h:a=0):thn a b=b:=if_neg (by simpa using h)
theorem cmpL_drop {l l':List Tm} {i:Nat} {a b:Tm} (h:l[i]? = some a) (h':l'[i]? = some b):cmpL (l.drop i) (l'.drop i)=thn (a.cmp b) (cmpL (l.drop (i+1)) (l'.drop (i+1))):=by
 rw [drop_cons h,drop_cons h'];simp only [cmpL]
theorem cmpL_end {l l':List Tm}:cmpL (l.drop l.length) (l'.drop l.length)=0:=by simp [cmpL]
theorem d40:∀ {t u:Tm},t.Ok→u.Ok→t.size < 4611686018427387904→u.size < 4611686018427387904→∀ H,CallOk E1 Tryz.prog 40 [.agg t.cells,.agg u.cells] H (.int .i64 (t.cmp u)) H:=by
 intro t u ht
 induction ht generalizing u with
 | @mk k nm s b kids hk hs hn hl hok ih=>
 intro hu hsz hsz2
 have hu0:=hu
 cases hu with
 | @mk k2 nm2 s2 b2 kids2 hk2 hs2 hn2 hl2 hok2=>
 have hsize:=d91 (Tm.Ok.mk (b:=b) hk hs hn hl hok) hsz
 have hsize2:=d91 (Tm.Ok.mk (b:=b2) hk2 hs2 hn2 hl2 hok2) hsz2
 rw [cmp_size] at hsize hsize2
 have hc1:=d90 ((1+sizeL kids:Nat):Int) ((1+sizeL kids2:Nat):Int)
 have hc2:=d90 k k2
 have hc4:=d90 s s2
 have hc5:=d90 (kids.length:Int) (kids2.length:Int)
 have hcmp:(Tm.mk k nm s b kids).cmp (Tm.mk k2 nm2 s2 b2 kids2)=thn (cmpI ((1+sizeL kids:Nat):Int) ((1+sizeL kids2:Nat):Int)) (thn (cmpI k k2) (thn (cmpB nm nm2) (thn (cmpI s s2) (thn (cmpI (kids.length:Int) (kids2.length:Int)) (cmpL kids kids2))))):=by simp only [Tm.cmp]
 rw [hcmp]
 generalize cmpI ((1+sizeL kids:Nat):Int) ((1+sizeL kids2:Nat):Int)=x1 at hc1 ⊢
 generalize cmpI k k2=x2 at hc2 ⊢
 generalize cmpI s s2=x4 at hc4 ⊢
 obtain ⟨x5,hx5⟩:∃ x5,x5=cmpI (kids.length:Int) (kids2.length:Int):=⟨_,rfl⟩
 rw [← hx5] at hc5 ⊢
 rw [← cellsL_length kids, ← cellsL_length kids2] at hc5
 refine κw tOk1 fe40.ok rfl ?_ (by simp [frzGL,frzG,Tm.cells,frz_tm1])
 repeat' first | refine κn ?_ | (apply qCl;rfl;rfl;rfl;rfl;first | exact hc2 _ | exact hc4 _ | exact hc5 _) | refine κl ?_ | refine κb ?_ ?_ | refine κg ?_ | (apply dCl;rfl;rfl;rfl;rfl;rfl;first | exact hsize _ | exact hsize2 _ | exact hc1 _) | refine κh ?_ | refine κa ?_ | (apply Wp.draw tOk1 follows;kernel_rfl) | refine κf ?_ | intro hb
 all_goals first
  | (refine int_eq ?_;clear hsize hsize2 hc1 hc2 hc4 hc5 ih hok hok2 hcmp hx5 hu0;simp_all [thn,cmpB];done)
  | skip
 have hb5:x5=0:=by simpa using hb
 have h5:kids.length=kids2.length:=by have:=cmpI_zero (hx5.symm.trans hb5);omega
 have hx:thn x1 (thn x2 (thn (cmpB nm nm2) (thn x4 (thn x5 (cmpL kids kids2)))))=cmpL kids kids2:=by
  clear hsize hsize2 hc1 hc2 hc4 hc5 ih hok hok2 hcmp hx5 hu0
  simp_all [thn,cmpB]
 rw [hx]
 clear hsize hsize2 hc1 hc2 hc4 hc5 hcmp hu0
 refine Wp.while (fun m tm H=>∃ (i:Nat),∃ base,i+m=kids.length∧cmpL kids kids2=cmpL (kids.drop i) (kids2.drop i)∧tm=ovr base [(2,.ptr 0 4 0 0),(3,.ptr 1 4 0 0),(9,.int .i64 (i:Int))]∧H=⟨[.cells 4 [[.int .i64 k,.str nm,.int .i64 s,slV b 4 (cellsL kids)]],.cells 4 [[.int .i64 k2,.str nm2,.int .i64 s2,slV b2 4 (cellsL kids2)]]],0,[],0⟩)
  (fun m tm H hI=> ?_) kids.length _ _ ⟨0,_,by omega,by simp,ovr_mk ⟨rfl,rfl,rfl,trivial⟩,rfl⟩
 obtain ⟨i,base,hi,hcm,rfl,rfl⟩:=hI
 rw [hcm]
 unfold maxLen at hl
 by_cases hlt:i < kids.length
 · obtain ⟨t', ht'⟩ : ∃ t', kids[i]? = some t' := ⟨kids[i], by simp⟩
   obtain ⟨u',hu'⟩:∃ u',kids2[i]? = some u':=⟨kids2[i]'(by omega),by simp⟩
   have hm:t'∈kids:=List.mem_of_getElem? ht'
   have hm2:u'∈kids2:=List.mem_of_getElem? hu'
   simp only [Tm.size] at hsz hsz2
   have hle:=size_le hm
   have hle2:=size_le hm2
   have hc:=ih t' hm (hok2 u' hm2) (by omega) (by omega)
   have hdr:=cmpL_drop ht' hu'
   obtain ⟨y,hy⟩:∃ y,y=t'.cmp u':=⟨_,rfl⟩
   rw [← hy] at hc hdr
   rw [hdr]
   obtain ⟨k',nm',s',b',kids'⟩:=t'
   obtain ⟨k2',nm2',s2',b2',kids2'⟩:=u'
   have hj:=cellsL_get ht'
   have hj2:=cellsL_get hu'
   repeat' first | refine κn ?_ | refine κl ?_ | refine κb ?_ ?_ | refine κg ?_ | refine κd (hc _) ?_ | refine κI ?_ | refine κh ?_ | refine κa ?_ | (apply Wp.draw tOk1 follows;kernel_rfl) | refine κf ?_ | intro hb
   · refine int_eq ?_
     rw [thn_ne (by simpa using hb)]
   · have hy0 : y = 0 := by simpa using hb
     refine LoopI.go (m - 1) (by omega) ⟨i+1,_,by omega,by rw [thn_zero hy0],ovr_mk ⟨rfl,rfl,?_,trivial⟩,rfl⟩
     exact int_eq (wrap_nat (n:=i+1) (by omega))
   all_goals (exfalso;rw [cellsL_length] at hb;simp at hb;omega)
 · have e : i = kids.length := by omega
   subst e
   repeat' first | refine κn ?_ | refine κl ?_ | refine κb ?_ ?_ | refine κg ?_ | refine κh ?_ | refine κa ?_ | (apply Wp.draw tOk1 follows;kernel_rfl) | refine κf ?_ | intro hb
   · exfalso;rw [cellsL_length] at hb;simp at hb
   · exact int_eq cmpL_end.symm
theorem cmpI_3 (a b:Int):cmpI a b=0∨cmpI a b= -1∨cmpI a b=1:=by
 simp only [cmpI]
 split
 · simp
 · split <;> simp
theorem cmpB_3 (a b:List UInt8):cmpB a b=0∨cmpB a b= -1∨cmpB a b=1:=by
 simp only [cmpB]
 split
 · simp
 · split <;> simp
theorem thn_3 {a b:Int} (h:a=0∨a= -1∨a=1) (h':b=0∨b= -1∨b=1):thn a b=0∨thn a b= -1∨thn a b=1:=by
 unfold thn;split <;> assumption
mutual
theorem cmp_3:∀ t u:Tm,t.cmp u=0∨t.cmp u= -1∨t.cmp u=1
 | .mk k nm s b l, .mk k' nm' s' b' l' => by
   simp only [Tm.cmp]
   exact thn_3 (cmpI_3 _ _) (thn_3 (cmpI_3 _ _) (thn_3 (cmpB_3 _ _) (thn_3 (cmpI_3 _ _) (thn_3 (cmpI_3 _ _) (cmpL_3 l l')))))
theorem cmpL_3:∀ l l':List Tm,cmpL l l'=0∨cmpL l l'= -1∨cmpL l l'=1
 | [],_=>by simp [cmpL]
 | _ :: _,[]=>by simp [cmpL]
 | a :: r, b :: r' => by
   simp only [cmpL]
   exact thn_3 (cmp_3 a b) (cmpL_3 r r')
end
theorem d87:∀ {t u:Tm},t.Ok→u.Ok→t.size < 4611686018427387904→u.size < 4611686018427387904→∀ H,CallOk E1 Tryz.prog 87 [.agg t.cells,.agg u.cells] H (.int .i64 (t.cmp u)) H:=by
 intro t u ht
 induction ht generalizing u with
 | @mk k nm s b kids hk hs hn hl hok ih=>
 intro hu hsz hsz2
 cases hu with
 | @mk k2 nm2 s2 b2 kids2 hk2 hs2 hn2 hl2 hok2=>
 have hsize:=d172 (Tm.Ok.mk (b:=b) hk hs hn hl hok) hsz
 have hsize2:=d172 (Tm.Ok.mk (b:=b2) hk2 hs2 hn2 hl2 hok2) hsz2
 rw [cmp_size] at hsize hsize2
 have hc1:=d171 ((1+sizeL kids:Nat):Int) ((1+sizeL kids2:Nat):Int)
 have hc2:=d171 k k2
 have hc3:=d173 nm nm2
 have hc4:=d171 s s2
 have hc5:=d171 (kids.length:Int) (kids2.length:Int)
 have hcmp:(Tm.mk k nm s b kids).cmp (Tm.mk k2 nm2 s2 b2 kids2)=thn (cmpI ((1+sizeL kids:Nat):Int) ((1+sizeL kids2:Nat):Int)) (thn (cmpI k k2) (thn (cmpB nm nm2) (thn (cmpI s s2) (thn (cmpI (kids.length:Int) (kids2.length:Int)) (cmpL kids kids2))))):=by simp only [Tm.cmp]
 rw [hcmp]
 clear hcmp
 have v1:=cmpI_3 ((1+sizeL kids:Nat):Int) ((1+sizeL kids2:Nat):Int)
 have v2:=cmpI_3 k k2
 have v3:=cmpB_3 nm nm2
 have v4:=cmpI_3 s s2
 have v5:=cmpI_3 (kids.length:Int) (kids2.length:Int)
 generalize cmpI ((1+sizeL kids:Nat):Int) ((1+sizeL kids2:Nat):Int)=x1 at hc1 v1 ⊢
 generalize cmpI k k2=x2 at hc2 v2 ⊢
 generalize cmpB nm nm2=x3 at hc3 v3 ⊢
 generalize cmpI s s2=x4 at hc4 v4 ⊢
 obtain ⟨x5,hx5⟩:∃ x5,x5=cmpI (kids.length:Int) (kids2.length:Int):=⟨_,rfl⟩
 rw [← hx5] at hc5 v5 ⊢
 rw [← cellsL_length kids, ← cellsL_length kids2] at hc5
 refine κw tOk1 fe87.ok rfl ?_ (by simp [frzGL,frzG,Tm.cells,frz_tm1])
 obtain ⟨G,hG⟩:∃ G,G=thn x1 (thn x2 (thn x3 (thn x4 (thn x5 (cmpL kids kids2))))):=⟨_,rfl⟩
 rw [← hG]
 have hlen:x5=0→kids.length=kids2.length:=fun h=>by have:=cmpI_zero (hx5.symm.trans h);omega
 clear hx5
 rcases v1 with rfl | rfl | rfl
 rcases v2 with rfl | rfl | rfl
 rcases v3 with rfl | rfl | rfl
 rcases v4 with rfl | rfl | rfl
 rcases v5 with rfl | rfl | rfl
 all_goals
  repeat' first | refine κn ?_ | (apply qCl;rfl;rfl;rfl;rfl;first | exact hc2 _ | exact hc3 _ | exact hc4 _ | exact hc5 _) | refine κl ?_ | refine κt ?_ | refine κg ?_ | (apply dCl;rfl;rfl;rfl;rfl;rfl;first | exact hsize _ | exact hsize2 _ | exact hc1 _) | refine κh ?_ | refine κa ?_ | (apply Wp.draw tOk1 follows;kernel_rfl) | fail
  refine Wp.while (fun m tm H=>∃ (i:Nat),∃ base,∃ y:Int,i+m=kids.length∧(y=0∨y= -1∨y=1)∧(y=0→kids.length=kids2.length)∧G=thn y (cmpL (kids.drop i) (kids2.drop i))∧tm=ovr base [(2,.ptr 0 4 0 0),(3,.ptr 1 4 0 0),(5,.int .i64 y),(6,.int .i64 (i:Int))]∧H=⟨[.cells 4 [[.int .i64 k,.str nm,.int .i64 s,slV b 4 (cellsL kids)]],.cells 4 [[.int .i64 k2,.str nm2,.int .i64 s2,slV b2 4 (cellsL kids2)]]],0,[],0⟩)
   (fun m tm H hI=> ?_) kids.length _ _ ⟨0,_,_,by omega,by omega,by first | exact hlen | (intro h;simp at h),by simp [hG,thn],ovr_mk ⟨rfl,rfl,rfl,rfl,trivial⟩,rfl⟩
  clear hG hsize hsize2 hc1 hc2 hc3 hc4 hc5 hlen
  obtain ⟨i,base,y,hi,hy,hyl,hG,rfl,rfl⟩:=hI
  unfold maxLen at hl
  rcases hy with rfl | hy
  · have h5 := hyl rfl
    rw [thn_zero rfl] at hG
    by_cases hlt:i < kids.length
    · obtain ⟨t', ht'⟩ : ∃ t', kids[i]? = some t' := ⟨kids[i], by simp⟩
      obtain ⟨u',hu'⟩:∃ u',kids2[i]? = some u':=⟨kids2[i]'(by omega),by simp⟩
      have hm:t'∈kids:=List.mem_of_getElem? ht'
      have hm2:u'∈kids2:=List.mem_of_getElem? hu'
      simp only [Tm.size] at hsz hsz2
      have hle:=size_le hm
      have hle2:=size_le hm2
      have hc:=ih t' hm (hok2 u' hm2) (by omega) (by omega)
      have hdr:=cmpL_drop ht' hu'
      have h3:=cmp_3 t' u'
      obtain ⟨z,hz⟩:∃ z,z=t'.cmp u':=⟨_,rfl⟩
      rw [← hz] at hc hdr h3
      obtain ⟨k',nm',s',b',kids'⟩:=t'
      obtain ⟨k2',nm2',s2',b2',kids2'⟩:=u'
      have hj:=cellsL_get ht'
      have hj2:=cellsL_get hu'
      repeat' first | refine κn ?_ | refine κl ?_ | refine κt ?_ | refine κb ?_ ?_ | refine κg ?_ | refine κd (hc _) ?_ | refine κI ?_ | refine κh ?_ | refine κa ?_ | (apply Wp.draw tOk1 follows;kernel_rfl) | refine κf ?_ | intro hb
      · refine LoopI.go (m - 1) (by omega) ⟨i + 1, _, z, by omega, h3, fun _ => h5, hG.trans hdr, ovr_mk ⟨rfl, rfl, rfl, ?_, trivial⟩, rfl⟩
        exact int_eq (wrap_nat (n:=i+1) (by omega))
      · exfalso;rw [cellsL_length] at hb;simp at hb;omega
    · have e : i = kids.length := by omega
      subst e
      repeat' first | refine κn ?_ | refine κl ?_ | refine κt ?_ | refine κb ?_ ?_ | refine κg ?_ | refine κh ?_ | refine κa ?_ | (apply Wp.draw tOk1 follows;kernel_rfl) | refine κf ?_ | intro hb
      · exfalso;rw [cellsL_length] at hb;simp at hb
      · exact int_eq (by rw [hG];exact cmpL_end.symm)
  · rcases hy with rfl | rfl
    ·
      repeat' first | refine κn ?_ | refine κk ?_ | refine κt ?_ | refine κg ?_ | refine κa ?_ | refine κf ?_ | fail
      exact int_eq hG.symm
    ·
      repeat' first | refine κn ?_ | refine κk ?_ | refine κt ?_ | refine κg ?_ | refine κa ?_ | refine κf ?_ | fail
      exact int_eq hG.symm
end Go.Vm.Seat
