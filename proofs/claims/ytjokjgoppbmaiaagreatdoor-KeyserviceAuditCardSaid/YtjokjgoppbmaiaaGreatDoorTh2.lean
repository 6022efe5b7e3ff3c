/-
  The symbols of the theory, and the terms that it allows: the reference's text.
-/
import Derived.Test.YtjokjgoppbmaiaaGreatDoorTh
set_option maxHeartbeats 64000000
set_option maxRecDepth 100000
namespace Go.Vm.Seat
open Go.Proofs
theorem c233:∀ H,CallOk E0 Tryz.prog 233 [] H (slV true 4 (symC syms)) H:=by
 have e:slV true 4 (symC syms)= .sl .none 4 (symC syms):=slV_cons _ _ _ _
 rw [e]
 exact okFact_ok (x:=⟨233,[],.sl .none 4 (symC syms)⟩) tOk follows fOk zOk (fuel:=100) (k:=20) (by kernel_rfl)
theorem c178 (nm:List UInt8):∀ H,CallOk E0 Tryz.prog 178 [.str nm] H (.int .i64 (symF nm).kind) H:=by
 have hc:=c233
 obtain ⟨l,hl⟩:∃ l,l=syms:=⟨_,rfl⟩
 have hlen:l.length=21:=by rw [hl];rfl
 unfold symF
 rw [← hl] at hc ⊢
 refine κw tOk fe178.ok rfl ?_
 repeat' first | refine κn ?_ | refine κc (hc _) ?_ | refine κg ?_ | refine κa ?_ | fail
 refine Wp.while (fun m tm H=>∃ (i:Nat),∃ base,i+m=l.length∧findS nm l=findS nm (l.drop i)∧tm=ovr base [(0,.str nm),(3,slV true 4 (symC l)),(4,.int .i64 (i:Int))]∧H=⟨[],0,[],0⟩)
  (fun m tm H hI=> ?_) l.length _ _ ⟨0,_,by omega,by simp,ovr_mk ⟨rfl,rfl,rfl,trivial⟩,rfl⟩
 clear hc hl
 obtain ⟨i,base,hi,hgo,rfl,rfl⟩:=hI
 rw [hgo]
 by_cases hlt:i < l.length
 · obtain ⟨s, hs⟩ : ∃ s, l[i]? = some s := ⟨l[i], by simp⟩
   rw [findS_drop hs]
   obtain ⟨sn,sl,sm,sk⟩:=s
   have hj:(symC l)[i]? = some [.str sn,.int .i64 sl,.int .i64 sm,.int .i64 sk]:=symC_get hs
   repeat' first | refine κn ?_ | refine κl ?_ | refine κx ?_ | refine κb ?_ ?_ | refine κg ?_ | refine κa ?_ | refine κf ?_ | intro hb
   · rw [if_pos (by simpa using hb)]
     rfl
   · rw [if_neg (by simpa using hb)]
     exact LoopI.go (m - 1) (by omega) ⟨i+1,_,by omega,rfl,ovr_mk ⟨rfl,rfl,int_eq (wrap_nat (n:=i+1) (by omega)),trivial⟩,rfl⟩
   · exfalso;rw [symC_len] at hb;simp at hb;omega
 · have e : i = l.length := by omega
   subst e
   repeat' first | refine κn ?_ | refine κl ?_ | refine κb ?_ ?_ | refine κg ?_ | refine κa ?_ | refine κf ?_ | intro hb
   · exfalso;rw [symC_len] at hb;simp at hb
   · rw [List.drop_length]
     rfl
def fitsO (o:Option Sym) (n:Int):Bool:=match o with
 | none=>false
 | some s=>decide (s.least≤n) && decide (n≤s.most)
theorem c264 (k:Int) (nm:List UInt8) (s:Int) (b:Bool) (kids:List Tm):∀ H,CallOk E0 Tryz.prog 264 [.agg [.int .i64 k,.str nm,.int .i64 s,slV b 4 (cellsL kids)]] H (.bool (fitsO (findS nm syms) (kids.length:Int))) H:=by
 have hc:=c233
 obtain ⟨l,hl⟩:∃ l,l=syms:=⟨_,rfl⟩
 have hlen:l.length=21:=by rw [hl];rfl
 rw [← hl] at hc ⊢
 refine κw tOk fe264.ok rfl ?_
 repeat' first | refine κn ?_ | refine κc (hc _) ?_ | refine κt ?_ | refine κg ?_ | refine κa ?_ | fail
 refine Wp.while (fun m tm H=>∃ (i:Nat),∃ base,i+m=l.length∧findS nm l=findS nm (l.drop i)∧tm=ovr base [(1,.ptr 0 4 0 0),(3,slV true 4 (symC l)),(4,.int .i64 (i:Int))]∧H=⟨[.cells 4 [[.int .i64 k,.str nm,.int .i64 s,slV b 4 (cellsL kids)]]],0,[],0⟩)
  (fun m tm H hI=> ?_) l.length _ _ ⟨0,_,by omega,by simp,ovr_mk ⟨rfl,rfl,rfl,trivial⟩,rfl⟩
 clear hc hl
 obtain ⟨i,base,hi,hgo,rfl,rfl⟩:=hI
 rw [hgo]
 by_cases hlt:i < l.length
 · obtain ⟨s, hs⟩ : ∃ s, l[i]? = some s := ⟨l[i], by simp⟩
   rw [findS_drop hs]
   obtain ⟨sn,sl,sm,sk⟩:=s
   have hj:(symC l)[i]? = some [.str sn,.int .i64 sl,.int .i64 sm,.int .i64 sk]:=symC_get hs
   repeat' first | refine κn ?_ | refine κl ?_ | refine κt ?_ | refine κb ?_ ?_ | refine κg ?_ | (apply dK;rfl;rfl;rfl) | (apply dLn;rfl;rfl;rfl;rfl;rfl) | refine κI ?_ | (apply dT (ty:=4);rfl;rfl;rfl;rfl) | (apply dF (ty:=4);rfl;rfl;rfl;rfl) | (apply dB (ty:=4);rfl;rfl;rfl;rfl) | refine κh ?_ | refine κa ?_ | (apply Wp.draw tOk follows;kernel_rfl) | refine κf ?_ | intro hb
   · rw [if_pos (by simpa using ‹(sn == nm) = true›)]
     have h1:= ‹decide (sl≤((cellsL kids).length:Int))=true›
     rw [cellsL_length] at h1 hb
     simp only [fitsO,h1,hb,Bool.and_self]
   · rw [if_pos (by simpa using ‹(sn == nm) = true›)]
     rw [cellsL_length] at hb
     simp only [fitsO,hb,Bool.and_false]
   · rw [if_pos (by simpa using ‹(sn == nm) = true›)]
     rw [cellsL_length] at hb
     simp only [fitsO,hb,Bool.false_and]
   · rw [if_neg (by simpa using hb)]
     exact LoopI.go (m - 1) (by omega) ⟨i+1,_,by omega,rfl,ovr_mk ⟨rfl,rfl,int_eq (wrap_nat (n:=i+1) (by omega)),trivial⟩,rfl⟩
   · exfalso;rw [symC_len] at hb;simp at hb;omega
 · have e : i = l.length := by omega
   subst e
   repeat' first | refine κn ?_ | refine κl ?_ | refine κt ?_ | refine κb ?_ ?_ | refine κg ?_ | refine κh ?_ | refine κa ?_ | (apply Wp.draw tOk follows;kernel_rfl) | refine κf ?_ | intro hb
   · exfalso;rw [symC_len] at hb;simp at hb
   · rw [List.drop_length]
     rfl
theorem c265 (k:Int) (nm:List UInt8) (s:Int) (b:Bool) (kids:List Tm) (hl:kids.length≤maxLen) (hne:nm= [110,101,119]→kids≠ []):∀ H,CallOk E0 Tryz.prog 265 [.agg [.int .i64 k,.str nm,.int .i64 s,slV b 4 (cellsL kids)]] H (.bool (privF nm kids)) H:=by
 refine κw tOk fe265.ok rfl ?_
 by_cases e:nm= [110,101,119]
 · subst e
   obtain ⟨a,r,rfl⟩:∃ a r,kids=a :: r:=by
    cases kids with
    | nil=>exact absurd rfl (hne rfl)
    | cons a r=>exact ⟨a,r,rfl⟩
   obtain ⟨ka,na,sa,ba,la⟩:=a
   have hj:=idxT (b:=b) (show (Tm.mk ka na sa ba la :: r)[0]? = some (Tm.mk ka na sa ba la) from rfl)
   repeat' first | refine κn ?_ | refine κJ ?_ | refine κt ?_ | refine κb ?_ ?_ | refine κg ?_ | refine κa ?_ | refine κf ?_ | intro hb
   · simp at hb;simp [privF,hb]
   · simp at hb;simp [privF,hb]
 · rw [privF_all e]
   repeat' first | refine κn ?_ | refine κt ?_ | refine κb ?_ ?_ | refine κg ?_ | refine κa ?_ | intro hb
   · exfalso;exact e (by simpa using hb)
   unfold maxLen at hl
   refine Wp.while (fun m tm H=>∃ (i:Nat),∃ base,i+m=kids.length∧kids.all agentB=(kids.drop i).all agentB∧tm=ovr base [(1,.ptr 0 4 0 0),(3,.int .i64 (i:Int))]∧H=⟨[.cells 4 [[.int .i64 k,.str nm,.int .i64 s,slV b 4 (cellsL kids)]]],0,[],0⟩)
    (fun m tm H hI=> ?_) kids.length _ _ ⟨0,_,by omega,by simp,ovr_mk ⟨rfl,rfl,trivial⟩,rfl⟩
   obtain ⟨i,base,hi,hall,rfl,rfl⟩:=hI
   rw [hall]
   by_cases hlt:i < kids.length
   · obtain ⟨t', ht'⟩ : ∃ t', kids[i]? = some t' := ⟨kids[i], by simp⟩
     rw [all_drop ht']
     obtain ⟨k',nm',s',b',kids'⟩:=t'
     have hj:=cellsL_get ht'
     repeat' first | refine κn ?_ | refine κk ?_ | refine κl ?_ | refine κx ?_ | refine κt ?_ | refine κb ?_ ?_ | refine κg ?_ | refine κa ?_ | refine κf ?_ | intro hb
     · simp at hb;simp [agentB,hb]
     · simp at hb;simp [agentB,hb]
     · have hA : agentB (Tm.mk k' nm' s' b' kids') = true := by
         have h1:= ‹(k' == 3)=false›
         have h2:= ‹(s' != 1)=false›
         simp at h1 h2
         simp [agentB,h1,h2]
       rw [hA,Bool.true_and]
       exact LoopI.go (m - 1) (by omega) ⟨i+1,_,by omega,rfl,ovr_mk ⟨rfl,int_eq (wrap_nat (n:=i+1) (by omega)),trivial⟩,rfl⟩
     · exfalso;rw [cellsL_length] at hb;simp at hb;omega
   · have e : i = kids.length := by omega
     subst e
     repeat' first | refine κn ?_ | refine κl ?_ | refine κt ?_ | refine κb ?_ ?_ | refine κg ?_ | refine κa ?_ | refine κf ?_ | intro hb
     · exfalso;rw [cellsL_length] at hb;simp at hb
     · rw [List.drop_length];rfl
theorem c177 (nm:List UInt8):∀ H,CallOk E0 Tryz.prog 177 [.str nm] H (.bool (algB nm)) H:=by
 unfold algB
 refine κw tOk fe177.ok rfl ?_
 repeat' first | refine κn ?_ | refine κk ?_ | refine κt ?_ | refine κb ?_ ?_ | refine κg ?_ | refine κa ?_ | refine κf ?_ | intro hb
 all_goals (refine ifq ?_;simp_all)
theorem fits_sym {nm:List UInt8} {n:Int} (h:(symF nm).kind≠0):fitsO (findS nm syms) n= !(decide (n < (symF nm).least∨(symF nm).most < n)):=by
 unfold symF at *
 cases e:findS nm syms with
 | none=>rw [e] at h;exact absurd rfl h
 | some s =>
   simp only [fitsO,Option.getD_some]
   rw [Bool.eq_iff_iff]
   simp only [Bool.and_eq_true,decide_eq_true_eq,Bool.not_eq_true',decide_eq_false_iff_not]
   omega
theorem c232 {t:Tm} (ht:t.Ok):∀ H,CallOk E0 Tryz.prog 232 [.agg t.cells] H (.int .i64 t.th) H:=by
 induction ht with
 | @mk k nm s b kids hk hs hn hl hok ih=>
 have hc:=c178 nm
 have hc2:=c264 k nm s b kids
 obtain ⟨R,hR⟩:∃ R,R=(Tm.mk k nm s b kids).th:=⟨_,rfl⟩
 rw [← hR]
 simp only [Tm.th] at hR
 by_cases hne:nm= [110,101,119]→kids≠ []
 · have hc3 := c265 k nm s b kids hl hne
   have hf:=fits_sym (nm:=nm) (n:=(kids.length:Int))
   generalize fitsO (findS nm syms) (kids.length:Int)=F at hc2 hf
   generalize privF nm kids=G at hc3 hR
   obtain ⟨sn,sl,sm,sk,sy⟩:∃ sn sl sm sk,symF nm=⟨sn,sl,sm,sk⟩:=⟨_,_,_,_,rfl⟩
   rw [sy] at hc hR hf
   simp only [] at hR hf hc
   refine κw tOk fe232.ok rfl ?_
   repeat' first | refine κn ?_ | refine κk ?_ | (apply qCl;rfl;rfl;rfl;rfl;first | exact hc _ | exact hc2 _ | exact hc3 _) | refine κt ?_ | refine κb ?_ ?_ | refine κg ?_ | refine κa ?_ | refine κf ?_ | intro hb
   · rw [hR,if_pos (by simpa using hb)]
   · rw [hR,if_neg (by simpa using ‹(k != 3)=false›),if_pos (by simpa using hb)]
   all_goals
    have hk0:sk≠0:=by simpa using ‹(sk == 0)=false›
    rw [if_neg (by simpa using ‹(k != 3)=false›),if_neg hk0] at hR
    have hf:=hf hk0
   · have h1 : F = false := by simpa using hb
     rw [h1] at hf
     have h2:decide ((kids.length:Int) < sl∨sm < (kids.length:Int))=true:=by
      cases e:decide ((kids.length:Int) < sl∨sm < (kids.length:Int)) with
      | true=>rfl
      | false=>rw [e] at hf;exact absurd hf (by simp)
     rw [hR,if_pos (of_decide_eq_true h2)]
   all_goals
    have h1:F=true:=by simpa using ‹(!F)=false›
    rw [h1] at hf
    have h2:decide ((kids.length:Int) < sl∨sm < (kids.length:Int))=false:=by
     cases e:decide ((kids.length:Int) < sl∨sm < (kids.length:Int)) with
     | false=>rfl
     | true=>rw [e] at hf;exact absurd hf (by simp)
    rw [if_neg (of_decide_eq_false h2)] at hR
   · rw [hR,if_pos ⟨by simpa using ‹(sk == 2)=true›,by simpa using hb⟩]
   all_goals
    have hR:R=thL kids:=by
     rw [hR,if_neg]
     rintro ⟨h1,h2⟩
     first
      | (subst h2;simp at hb;done)
      | (subst h1;simp at hb;done)
    clear hc hc2 hc3 hf
    unfold maxLen at hl
    refine Wp.while (fun m tm H=>∃ (i:Nat),∃ base,i+m=kids.length∧R=thL (kids.drop i)∧tm=ovr base [(1,.ptr 0 4 0 0),(4,.int .i64 (i:Int))]∧H=⟨[.cells 4 [[.int .i64 k,.str nm,.int .i64 s,slV b 4 (cellsL kids)]]],0,[],0⟩)
     (fun m tm H hI=> ?_) kids.length _ _ ⟨0,_,by omega,by simpa using hR,ovr_mk ⟨rfl,rfl,trivial⟩,rfl⟩
    clear hR
    obtain ⟨i,base,hi,hR,rfl,rfl⟩:=hI
    by_cases hlt:i < kids.length
    · obtain ⟨t', ht'⟩ : ∃ t', kids[i]? = some t' := ⟨kids[i], by simp⟩
      have hm:t'∈kids:=List.mem_of_getElem? ht'
      have hc:=ih t' hm
      obtain ⟨e1,he1⟩:∃ e1,t'.th=e1:=⟨_,rfl⟩
      rw [he1] at hc
      rw [thL_drop ht' he1] at hR
      obtain ⟨k',nm',s',b',kids'⟩:=t'
      have hj:=cellsL_get ht'
      repeat' first | refine κn ?_ | refine κc (hc _) ?_ | refine κl ?_ | refine κx ?_ | refine κb ?_ ?_ | refine κg ?_ | refine κa ?_ | refine κf ?_ | intro hb
      · rw [hR,if_pos (by simpa using hb)]
      · rw [if_neg (by simpa using hb)] at hR
        exact LoopI.go (m - 1) (by omega) ⟨i+1,_,by omega,hR,ovr_mk ⟨rfl,int_eq (wrap_nat (n:=i+1) (by omega)),trivial⟩,rfl⟩
      · exfalso;rw [cellsL_length] at hb;simp at hb;omega
    · have e : i = kids.length := by omega
      subst e
      repeat' first | refine κn ?_ | refine κl ?_ | refine κb ?_ ?_ | refine κg ?_ | refine κa ?_ | refine κf ?_ | intro hb
      · exfalso;rw [cellsL_length] at hb;simp at hb
      · rw [hR, List.drop_length]
        simp [thL]
 · obtain ⟨rfl, rfl⟩ : nm = [110, 101, 119] ∧ kids = [] := by
     by_cases e:nm= [110,101,119]
     · exact ⟨e,Classical.byContradiction fun h=>hne fun _=>h⟩
     · exact absurd (fun h=>absurd h e) hne
   have hc:∀ H,CallOk E0 Tryz.prog 178 [.str [110,101,119]] H (.int .i64 2) H:=hc
   have hc2:∀ H,CallOk E0 Tryz.prog 264 [.agg [.int .i64 k,.str [110,101,119],.int .i64 s,slV b 4 (cellsL [])]] H (.bool false) H:=hc2
   have h6:R=if k≠3 then 0 else 6:=hR
   clear hR
   refine κw tOk fe232.ok rfl ?_
   repeat' first | refine κn ?_ | refine κc (hc _) ?_ | refine κc (hc2 _) ?_ | refine κt ?_ | refine κb ?_ ?_ | refine κg ?_ | refine κa ?_ | refine κf ?_ | intro hb
   · rw [h6,if_pos (by simpa using hb)]
   · rw [h6,if_neg (by simpa using hb)]
theorem c175 {t:Tm} (ht:t.Ok) (hsz:t.size < 4611686018427387904):∀ H,CallOk E0 Tryz.prog 175 [.agg t.cells] H (.int .i64 (if t.valid≠0 then t.valid else t.th)) H:=by
 have h1:=c50 ht hsz
 have h2:=c232 ht
 generalize t.valid=e at h1
 generalize t.th=e2 at h2
 obtain ⟨k,nm,s,b,kids⟩:=t
 refine κw tOk fe175.ok rfl ?_
 repeat' first | refine κn ?_ | refine κc (h1 _) ?_ | refine κc (h2 _) ?_ | refine κb ?_ ?_ | refine κg ?_ | refine κa ?_ | refine κf ?_ | intro hb
 · rw [if_pos (by simpa using hb)]
 · rw [if_neg (by simpa using hb)]
end Go.Vm.Seat
