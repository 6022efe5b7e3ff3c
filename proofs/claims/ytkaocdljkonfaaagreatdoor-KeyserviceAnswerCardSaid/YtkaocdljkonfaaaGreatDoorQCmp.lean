/-
  The symbols of the theory, and the terms that it allows: the reference's text. The order of terms: the program's and the reference's text compute it; 
-/
import Derived.Test.YtkaocdljkonfaaaGreatDoorQTh
set_option maxHeartbeats 64000000
set_option maxRecDepth 100000
namespace Go.Vm.Seat
variable {t:Tm} {a b:Int} {l l':List Tm}
open Go.Proofs
theorem Zqi:∀ H,CallOk E0 Tryz.prog 241 [] H (slV true 4 (Zbz ZbF)) H:=by
 have e:slV true 4 (Zbz ZbF)= .sl .none 4 (Zbz ZbF):=Zw _ _ _ _
 rw [e]
 exact Xi (x:=⟨241,[],.sl .none 4 (Zbz ZbF)⟩) tOk follows fOk zOk (fuel:=100) (k:=20) (by kernel_rfl)
theorem Zqk (nm:List UInt8):∀ H,CallOk E0 Tryz.prog 208 [.str nm] H (.int .i64 (Qt nm).kind) H:=by
 have hc:=Zqi
 obtain ⟨l,hl⟩:∃ l,l=ZbF:=⟨_,rfl⟩
 have hlen:l.length=21:=by rw [hl];rfl
 unfold Qt
 rw [← hl] at hc ⊢
 refine Jw tOk fe208.ok rfl ?_
 repeat' first|refine Jc (hc _) ?_|refine Jo ?_|fail
 refine Wp.while (fun m tm H=>∃ (i:Nat),∃ base,i+m=l.length∧Vb nm l=Vb nm (l.drop i)∧tm=ovr base [(0,.str nm),(3,slV true 4 (Zbz l)),(4,.int .i64 (i:Int))]∧H=⟨[],0,[],0⟩)
  (fun m tm H hI=>?_) l.length _ _ ⟨0,_,by omega,by simp,Zh ⟨rfl,rfl,rfl,trivial⟩,rfl⟩
 clear hc hl
 obtain ⟨i,base,hi,hgo,rfl,rfl⟩:=hI
 rw [hgo]
 by_cases hlt:i<l.length
 · obtain ⟨s, hs⟩ : ∃ s, l[i]? = some s := ⟨l[i], by simp⟩
   rw [Qb hs]
   obtain ⟨sn,sl,sm,sk⟩:=s
   have hj:(Zbz l)[i]? = some [.str sn,.int .i64 sl,.int .i64 sm,.int .i64 sk]:=ZbW hs
   repeat' first|refine Jl ?_|refine Jx ?_|refine Jb ?_ ?_|refine Jo ?_|intro hb
   · rw [if_pos (by simpa using hb)]
     rfl
   · rw [if_neg (by simpa using hb)]
     exact LoopI.go (m-1) (by omega) ⟨i+1,_,by omega,rfl,Zh ⟨rfl,rfl,Zi (Zf (n:=i+1) (by omega)),trivial⟩,rfl⟩
   · exfalso;rw [Un] at hb;simp at hb;omega
 · have e : i = l.length := by omega
   subst e
   repeat' first|refine Jl ?_|refine Jb ?_ ?_|refine Jo ?_|intro hb
   · exfalso;rw [Un] at hb;simp at hb
   · rw [List.drop_length]
     rfl
def ZdW (o:Option Sym) (n:Int):Bool:=match o with
 |none=>false
 |some s=>decide (s.least≤n)&&decide (n≤s.most)
theorem ZtN (k:Int) (nm:List UInt8) (s:Int) (b:Bool) (kids:List Tm):∀ H,CallOk E0 Tryz.prog 238 [.agg [.int .i64 k,.str nm,.int .i64 s,slV b 4 (Za kids)]] H (.bool (ZdW (Vb nm ZbF) (kids.length:Int))) H:=by
 have hc:=Zqi
 obtain ⟨l,hl⟩:∃ l,l=ZbF:=⟨_,rfl⟩
 have hlen:l.length=21:=by rw [hl];rfl
 rw [← hl] at hc ⊢
 refine Jw tOk fe238.ok rfl ?_
 repeat' first|refine Jc (hc _) ?_|refine Jt ?_|refine Jo ?_|fail
 refine Wp.while (fun m tm H=>∃ (i:Nat),∃ base,i+m=l.length∧Vb nm l=Vb nm (l.drop i)∧tm=ovr base [(1,.ptr 0 4 0 0),(3,slV true 4 (Zbz l)),(4,.int .i64 (i:Int))]∧H=⟨[.cells 4 [[.int .i64 k,.str nm,.int .i64 s,slV b 4 (Za kids)]]],0,[],0⟩)
  (fun m tm H hI=>?_) l.length _ _ ⟨0,_,by omega,by simp,Zh ⟨rfl,rfl,rfl,trivial⟩,rfl⟩
 clear hc hl
 obtain ⟨i,base,hi,hgo,rfl,rfl⟩:=hI
 rw [hgo]
 by_cases hlt:i<l.length
 · obtain ⟨s, hs⟩ : ∃ s, l[i]? = some s := ⟨l[i], by simp⟩
   rw [Qb hs]
   obtain ⟨sn,sl,sm,sk⟩:=s
   have hj:(Zbz l)[i]? = some [.str sn,.int .i64 sl,.int .i64 sm,.int .i64 sk]:=ZbW hs
   repeat' first|refine Jl ?_|refine Jt ?_|refine Jb ?_ ?_|refine Jo ?_|(apply dK;rfl;rfl;rfl)|(apply dLn;rfl;rfl;rfl;rfl;rfl)|refine JI ?_|(apply dT (ty:=4);rfl;rfl;rfl;rfl)|(apply dF (ty:=4);rfl;rfl;rfl;rfl)|(apply dB (ty:=4);rfl;rfl;rfl;rfl)|refine Jh ?_|(apply Wp.draw tOk follows;kernel_rfl)|intro hb
   · rw [if_pos (by simpa using ‹(sn == nm) = true›)]
     have h1:= ‹decide (sl≤((Za kids).length:Int))=true›
     rw [Zb] at h1 hb
     simp only [ZdW,h1,hb,Bool.and_self]
   · rw [if_pos (by simpa using ‹(sn == nm) = true›)]
     rw [Zb] at hb
     simp only [ZdW,hb,Bool.and_false]
   · rw [if_pos (by simpa using ‹(sn == nm) = true›)]
     rw [Zb] at hb
     simp only [ZdW,hb,Bool.false_and]
   · rw [if_neg (by simpa using hb)]
     exact LoopI.go (m-1) (by omega) ⟨i+1,_,by omega,rfl,Zh ⟨rfl,rfl,Zi (Zf (n:=i+1) (by omega)),trivial⟩,rfl⟩
   · exfalso;rw [Un] at hb;simp at hb;omega
 · have e : i = l.length := by omega
   subst e
   repeat' first|refine Jl ?_|refine Jt ?_|refine Jb ?_ ?_|refine Jo ?_|refine Jh ?_|(apply Wp.draw tOk follows;kernel_rfl)|intro hb
   · exfalso;rw [Un] at hb;simp at hb
   · rw [List.drop_length]
     rfl
theorem ZtC (k:Int) (nm:List UInt8) (s:Int) (b:Bool) (kids:List Tm) (hl:kids.length≤maxLen) (hne:nm= [110,101,119]→kids≠ []):∀ H,CallOk E0 Tryz.prog 239 [.agg [.int .i64 k,.str nm,.int .i64 s,slV b 4 (Za kids)]] H (.bool (ZbU nm kids)) H:=by
 refine Jw tOk fe239.ok rfl ?_
 by_cases e:nm= [110,101,119]
 · subst e
   obtain ⟨a,r,rfl⟩:∃ a r,kids=a::r:=by
    cases kids with
    | nil=>exact absurd rfl (hne rfl)
    | cons a r=>exact ⟨a,r,rfl⟩
   obtain ⟨ka,na,sa,ba,la⟩:=a
   have hj:=Znu (b:=b) (show (Tm.mk ka na sa ba la::r)[0]? = some (Tm.mk ka na sa ba la) from rfl)
   repeat' first|refine JJ ?_|refine Jt ?_|refine Jb ?_ ?_|refine Jo ?_|intro hb
   · simp at hb;simp [ZbU,hb]
   · simp at hb;simp [ZbU,hb]
 · rw [QV e]
   repeat' first|refine Jt ?_|refine Jb ?_ ?_|refine Jo ?_|intro hb
   · exfalso;exact e (by simpa using hb)
   unfold maxLen at hl
   refine Wp.while (fun m tm H=>∃ (i:Nat),∃ base,i+m=kids.length∧kids.all Y4=(kids.drop i).all Y4∧tm=ovr base [(1,.ptr 0 4 0 0),(3,.int .i64 (i:Int))]∧H=⟨[.cells 4 [[.int .i64 k,.str nm,.int .i64 s,slV b 4 (Za kids)]]],0,[],0⟩)
    (fun m tm H hI=>?_) kids.length _ _ ⟨0,_,by omega,by simp,Zh ⟨rfl,rfl,trivial⟩,rfl⟩
   obtain ⟨i,base,hi,hall,rfl,rfl⟩:=hI
   rw [hall]
   by_cases hlt:i<kids.length
   · obtain ⟨t', ht'⟩ : ∃ t', kids[i]? = some t' := ⟨kids[i], by simp⟩
     rw [QH ht']
     obtain ⟨k',nm',s',b',kids'⟩:=t'
     have hj:=Zl ht'
     repeat' first|refine Jk ?_|refine Jl ?_|refine Jx ?_|refine Jt ?_|refine Jb ?_ ?_|refine Jo ?_|intro hb
     · simp at hb;simp [Y4,hb]
     · simp at hb;simp [Y4,hb]
     · have hA : Y4 (Tm.mk k' nm' s' b' kids') = true := by
         have h1:= ‹(k'==3)=false›
         have h2:= ‹(s' != 1)=false›
         simp at h1 h2
         simp [Y4,h1,h2]
       rw [hA,Bool.true_and]
       exact LoopI.go (m-1) (by omega) ⟨i+1,_,by omega,rfl,Zh ⟨rfl,Zi (Zf (n:=i+1) (by omega)),trivial⟩,rfl⟩
     · exfalso;rw [Zb] at hb;simp at hb;omega
   · have e : i = kids.length := by omega
     subst e
     repeat' first|refine Jl ?_|refine Jt ?_|refine Jb ?_ ?_|refine Jo ?_|intro hb
     · exfalso;rw [Zb] at hb;simp at hb
     · rw [List.drop_length];rfl
theorem ZtJ (nm:List UInt8):∀ H,CallOk E0 Tryz.prog 207 [.str nm] H (.bool (ZmI nm)) H:=by
 unfold ZmI
 refine Jw tOk fe207.ok rfl ?_
 repeat' first|refine Jk ?_|refine Jt ?_|refine Jb ?_ ?_|refine Jo ?_|intro hb
 all_goals (refine ifq ?_;simp_all)
theorem ZiY {nm:List UInt8} {n:Int} (h:(Qt nm).kind≠0):ZdW (Vb nm ZbF) n= !(decide (n<(Qt nm).least∨(Qt nm).most<n)):=by
 unfold Qt at *
 cases e:Vb nm ZbF with
 |none=>rw [e] at h;exact absurd rfl h
 | some s =>
   simp only [ZdW,Option.getD_some]
   rw [Bool.eq_iff_iff]
   simp only [Bool.and_eq_true,decide_eq_true_eq,Bool.not_eq_true',decide_eq_false_iff_not]
   omega
theorem Zsv (ht:t.Ok):∀ H,CallOk E0 Tryz.prog 204 [.agg t.cells] H (.int .i64 t.th) H:=by
 induction ht with
 | @mk k nm s b kids hk hs hn hl hok ih=>
 have hc:=Zqk nm
 have hc2:=ZtN k nm s b kids
 obtain ⟨R,hR⟩:∃ R,R=(Tm.mk k nm s b kids).th:=⟨_,rfl⟩
 rw [← hR]
 simp only [Tm.th] at hR
 by_cases hne:nm= [110,101,119]→kids≠ []
 · have hc3 := ZtC k nm s b kids hl hne
   have hf:=ZiY (nm:=nm) (n:=(kids.length:Int))
   generalize ZdW (Vb nm ZbF) (kids.length:Int)=F at hc2 hf
   generalize ZbU nm kids=G at hc3 hR
   obtain ⟨sn,sl,sm,sk,sy⟩:∃ sn sl sm sk,Qt nm=⟨sn,sl,sm,sk⟩:=⟨_,_,_,_,rfl⟩
   rw [sy] at hc hR hf
   simp only [] at hR hf hc
   refine Jw tOk fe204.ok rfl ?_
   repeat' first|refine Jk ?_|(apply qCl;rfl;rfl;rfl;rfl;first|exact hc _|exact hc2 _|exact hc3 _)|refine Jt ?_|refine Jb ?_ ?_|refine Jo ?_|intro hb
   · rw [hR,if_pos (by simpa using hb)]
   · rw [hR,if_neg (by simpa using ‹(k != 3)=false›),if_pos (by simpa using hb)]
   all_goals
    have hk0:sk≠0:=by simpa using ‹(sk==0)=false›
    rw [if_neg (by simpa using ‹(k != 3)=false›),if_neg hk0] at hR
    have hf:=hf hk0
   · have h1 : F = false := by simpa using hb
     rw [h1] at hf
     have h2:decide ((kids.length:Int)<sl∨sm<(kids.length:Int))=true:=by
      cases e:decide ((kids.length:Int)<sl∨sm<(kids.length:Int)) with
      | true=>rfl
      | false=>rw [e] at hf;exact absurd hf (by simp)
     rw [hR,if_pos (of_decide_eq_true h2)]
   all_goals
    have h1:F=true:=by simpa using ‹(!F)=false›
    rw [h1] at hf
    have h2:decide ((kids.length:Int)<sl∨sm<(kids.length:Int))=false:=by
     cases e:decide ((kids.length:Int)<sl∨sm<(kids.length:Int)) with
     | false=>rfl
     | true=>rw [e] at hf;exact absurd hf (by simp)
    rw [if_neg (of_decide_eq_false h2)] at hR
   · rw [hR,if_pos ⟨by simpa using ‹(sk==2)=true›,by simpa using hb⟩]
   all_goals
    have hR:R=thL kids:=by
     rw [hR,if_neg]
     rintro ⟨h1,h2⟩
     first
      | (subst h2;simp at hb;done)
      | (subst h1;simp at hb;done)
    clear hc hc2 hc3 hf
    unfold maxLen at hl
    refine Wp.while (fun m tm H=>∃ (i:Nat),∃ base,i+m=kids.length∧R=thL (kids.drop i)∧tm=ovr base [(1,.ptr 0 4 0 0),(4,.int .i64 (i:Int))]∧H=⟨[.cells 4 [[.int .i64 k,.str nm,.int .i64 s,slV b 4 (Za kids)]]],0,[],0⟩)
     (fun m tm H hI=>?_) kids.length _ _ ⟨0,_,by omega,by simpa using hR,Zh ⟨rfl,rfl,trivial⟩,rfl⟩
    clear hR
    obtain ⟨i,base,hi,hR,rfl,rfl⟩:=hI
    by_cases hlt:i<kids.length
    · obtain ⟨t', ht'⟩ : ∃ t', kids[i]? = some t' := ⟨kids[i], by simp⟩
      have hm:t'∈kids:=List.mem_of_getElem? ht'
      have hc:=ih t' hm
      obtain ⟨e1,he1⟩:∃ e1,t'.th=e1:=⟨_,rfl⟩
      rw [he1] at hc
      rw [Ur ht' he1] at hR
      obtain ⟨k',nm',s',b',kids'⟩:=t'
      have hj:=Zl ht'
      repeat' first|refine Jc (hc _) ?_|refine Jl ?_|refine Jx ?_|refine Jb ?_ ?_|refine Jo ?_|intro hb
      · rw [hR,if_pos (by simpa using hb)]
      · rw [if_neg (by simpa using hb)] at hR
        exact LoopI.go (m-1) (by omega) ⟨i+1,_,by omega,hR,Zh ⟨rfl,Zi (Zf (n:=i+1) (by omega)),trivial⟩,rfl⟩
      · exfalso;rw [Zb] at hb;simp at hb;omega
    · have e : i = kids.length := by omega
      subst e
      repeat' first|refine Jl ?_|refine Jb ?_ ?_|refine Jo ?_|intro hb
      · exfalso;rw [Zb] at hb;simp at hb
      · rw [hR, List.drop_length]
        simp [thL]
 · obtain ⟨rfl, rfl⟩ : nm = [110, 101, 119] ∧ kids = [] := by
     by_cases e:nm= [110,101,119]
     · exact ⟨e,Classical.byContradiction fun h=>hne fun _=>h⟩
     · exact absurd (fun h=>absurd h e) hne
   have hc:∀ H,CallOk E0 Tryz.prog 208 [.str [110,101,119]] H (.int .i64 2) H:=hc
   have hc2:∀ H,CallOk E0 Tryz.prog 238 [.agg [.int .i64 k,.str [110,101,119],.int .i64 s,slV b 4 (Za [])]] H (.bool false) H:=hc2
   have h6:R=if k≠3 then 0 else 6:=hR
   clear hR
   refine Jw tOk fe204.ok rfl ?_
   repeat' first|refine Jc (hc _) ?_|refine Jc (hc2 _) ?_|refine Jt ?_|refine Jb ?_ ?_|refine Jo ?_|intro hb
   · rw [h6,if_pos (by simpa using hb)]
   · rw [h6,if_neg (by simpa using hb)]
theorem ZqN (ht:t.Ok) (hsz:t.size<4611686018427387904):∀ H,CallOk E0 Tryz.prog 165 [.agg t.cells] H (.int .i64 (if t.valid≠0 then t.valid else t.th)) H:=by
 have h1:=Zkn ht hsz
 have h2:=Zsv ht
 generalize t.valid=e at h1
 generalize t.th=e2 at h2
 obtain ⟨k,nm,s,b,kids⟩:=t
 refine Jw tOk fe165.ok rfl ?_
 repeat' first|refine Jc (h1 _) ?_|refine Jc (h2 _) ?_|refine Jb ?_ ?_|refine Jo ?_|intro hb
 · rw [if_pos (by simpa using hb)]
 · rw [if_neg (by simpa using hb)]
open Go.Proofs
theorem Zbx (k:Int) (nm:List UInt8) (s:Int) (b:Bool) (kids:List Tm):Vc [.int .i64 k,.str nm,.int .i64 s,slV b 4 (Za kids)]=some [.int .i64 k,.str nm,.int .i64 s,slV b 4 (Za kids)]:=by
 simp only [Vc,Z5]
 rfl
theorem Znv (a b:Int):∀ H,CallOk E1 Tryz.prog 128 [.int .i64 a,.int .i64 b] H (.int .i64 (WO a b)) H:=by
 refine Jw ZeB fe128.ok rfl ?_
 repeat' first|refine Jt ?_|refine Jb ?_ ?_|refine Jo ?_|intro hb
 all_goals (refine Zi ?_;simp [WO] at *;try omega)
theorem Znz (a b:Int):∀ H,CallOk E1 Tryz.prog 114 [.int .i64 a,.int .i64 b] H (.int .i64 (WO a b)) H:=by
 refine Jw ZeB fe114.ok rfl ?_
 repeat' first|refine Jb ?_ ?_|refine Jo ?_|intro hb
 all_goals (refine Zi ?_;simp [WO] at *;try omega)
theorem Zsa (a b:List UInt8):∀ H,CallOk E1 Tryz.prog 214 [.str a,.str b] H (.int .i64 (Xp a b)) H:=fun H=>by
 have:=(ZmM [.str a,.str b] H _ _ rfl).1
 rwa [Vu] at this
theorem Ztx (a b:List UInt8):∀ H,CallOk E1 Tryz.prog 170 [.str a,.str b] H (.int .i64 (Xp a b)) H:=by
 have hc:=Zsa a b
 refine Jw ZeB fe170.ok rfl ?_
 repeat' first|refine Jc (hc _) ?_|refine Jo ?_|fail
 all_goals rfl
theorem ZqX (a b:List UInt8):∀ H,CallOk E1 Tryz.prog 130 [.str a,.str b] H (.int .i64 (Xp a b)) H:=by
 have hc:=Ztx a b
 refine Jw ZeB fe130.ok rfl ?_
 repeat' first|refine Jc (hc _) ?_|refine Jo ?_|fail
 all_goals rfl
theorem ZqB (ht:t.Ok):t.size<4611686018427387904→∀ H,CallOk E1 Tryz.prog 115 [.agg t.cells] H (.int .i64 (t.size:Int)) H:=by
 induction ht with
 | @mk k nm s b kids hk hs hn hl hok ih=>
 intro hsz
 refine Jw ZeB fe115.ok rfl ?_ (by simp [ZZ,frzG,Tm.cells,Zbx])
 repeat' first|refine Jo ?_|fail
 refine Wp.while (fun m tm H=>∃ i base,i+m=kids.length∧tm=ovr base [(1,.ptr 0 4 0 0),(3,.int .i64 ((1+Zz (kids.take i):Nat):Int)),(4,.int .i64 (i:Int))]∧H=⟨[.cells 4 [[.int .i64 k,.str nm,.int .i64 s,slV b 4 (Za kids)]]],0,[],0⟩)
  (fun m tm H hI=>?_) kids.length _ _ ⟨0,_,by omega,Zh ⟨rfl,rfl,rfl,trivial⟩,rfl⟩
 obtain ⟨i,base,hi,rfl,rfl⟩:=hI
 simp only [Tm.size] at hsz
 unfold maxLen at hl
 by_cases hlt:i<kids.length
 · obtain ⟨t', ht'⟩ : ∃ t', kids[i]? = some t' := ⟨kids[i], by simp⟩
   have hm:t'∈kids:=List.mem_of_getElem? ht'
   have hle:=Xm hm
   have hst:=VJ ht'
   have hsl:=Xj kids (i+1)
   have hc:=ih t' hm (by omega)
   obtain ⟨k',nm',s',b',kids'⟩:=t'
   have hj:=Zl ht'
   repeat' first|refine Jc (hc _) ?_|refine Jl ?_|refine Jx ?_|refine Jb ?_ ?_|refine Jo ?_|intro hb
   · refine LoopI.go (m - 1) (by omega) ⟨i + 1, _, by omega, Zh ⟨rfl, ?_, ?_, trivial⟩, rfl⟩
     · refine Zi ?_
       rw [hst, ← Nat.add_assoc,Int.natCast_add (1+Zz (kids.take i)), ← Int.natCast_add]
       exact Zf (by omega)
     · exact Zi (Zf (n:=i+1) (by omega))
   · exfalso;rw [Zb] at hb;simp at hb<;>omega
 · have e : i = kids.length := by omega
   subst e
   repeat' first|refine Jl ?_|refine Jb ?_ ?_|refine Jo ?_|intro hb
   · exfalso;rw [Zb] at hb;simp at hb
   · simp [Tm.size]
theorem Zqw (ht:t.Ok):t.size<4611686018427387904→∀ H,CallOk E1 Tryz.prog 129 [.agg t.cells] H (.int .i64 (t.size:Int)) H:=by
 induction ht with
 | @mk k nm s b kids hk hs hn hl hok ih=>
 intro hsz
 refine Jw ZeB fe129.ok rfl ?_ (by simp [ZZ,frzG,Tm.cells,Zbx])
 repeat' first|refine Jl ?_|refine Jo ?_|fail
 refine Wp.while (fun m tm H=>∃ (i:Nat),∃ base,i+m=kids.length∧tm=ovr base [(3,.int .i64 ((1+Zz (kids.take i):Nat):Int)),(7,slV b 4 (Za kids)),(8,.int .i64 (kids.length:Int)),(9,.int .i64 (i:Int))]∧H=⟨[.cells 4 [[.int .i64 k,.str nm,.int .i64 s,slV b 4 (Za kids)]]],0,[],0⟩)
  (fun m tm H hI=>Wp.drop ?_) kids.length _ _ ⟨0,_,by omega,Zh ⟨rfl,rfl,Zi (by rw [Zb]),rfl,trivial⟩,rfl⟩
 obtain ⟨i,base,hi,rfl,rfl⟩:=hI
 simp only [Tm.size] at hsz
 unfold maxLen at hl
 by_cases hlt:i<kids.length
 · obtain ⟨t', ht'⟩ : ∃ t', kids[i]? = some t' := ⟨kids[i], by simp⟩
   have hm:t'∈kids:=List.mem_of_getElem? ht'
   have hle:=Xm hm
   have hst:=VJ ht'
   have hsl:=Xj kids (i+1)
   have hc:=ih t' hm (by omega)
   obtain ⟨k',nm',s',b',kids'⟩:=t'
   have hj:=Zl ht'
   repeat' first|refine Jc (hc _) ?_|refine Jx ?_|refine Jz ?_ ?_|refine Jo ?_|intro hb
   · refine DropQ.go [(3, .int .i64 ((1 + Zz (kids.take (i + 1)) : Nat) : Int)), (7, slV b 4 (Za kids)), (8, .int .i64 (kids.length : Int)), (9, .int .i64 ((i + 1 : Nat) : Int))] ⟨?_, rfl, rfl, Zi (Zf (n := i + 1) (by omega)), trivial⟩
       (by simp [Zp,under]) rfl (by simp [YF,ZP,Zp,under]) (LoopI.go (m-1) (by omega) ⟨i+1,_,by omega,rfl,rfl⟩)
     refine Zi ?_
     rw [hst, ← Nat.add_assoc,Int.natCast_add (1+Zz (kids.take i)), ← Int.natCast_add]
     exact Zf (by omega)
   · exfalso;simp at hb<;>omega
 · have e : i = kids.length := by omega
   subst e
   repeat' first|refine Jz ?_ ?_|refine Jo ?_|intro hb
   · exfalso;simp at hb
   · simp [Tm.size]
theorem Ze7 (k:Int) (nm:List UInt8) (s:Int) (b:Bool) (l:List Tm):((Tm.mk k nm s b l).size:Int)=((1+Zz l:Nat):Int):=by simp [Tm.size]
theorem Zm4 (h:a≠0):thn a b=a:=if_pos h
theorem WT (h:a=0):thn a b=b:=if_neg (by simpa using h)
theorem Zci {i:Nat} {a b:Tm} (h:l[i]? = some a) (h':l'[i]? = some b):Ui (l.drop i) (l'.drop i)=thn (a.cmp b) (Ui (l.drop (i+1)) (l'.drop (i+1))):=by
 rw [ZN h,ZN h'];simp only [Ui]
theorem cmpL_end:Ui (l.drop l.length) (l'.drop l.length)=0:=by simp [Ui]
theorem d61:∀ {t u:Tm},t.Ok→u.Ok→t.size<4611686018427387904→u.size<4611686018427387904→∀ H,CallOk E1 Tryz.prog 61 [.agg t.cells,.agg u.cells] H (.int .i64 (t.cmp u)) H:=by
 intro t u ht
 induction ht generalizing u with
 | @mk k nm s b kids hk hs hn hl hok ih=>
 intro hu hsz hsz2
 have hu0:=hu
 cases hu with
 | @mk k2 nm2 s2 b2 kids2 hk2 hs2 hn2 hl2 hok2=>
 have hsize:=ZqB (Tm.Ok.mk (b:=b) hk hs hn hl hok) hsz
 have hsize2:=ZqB (Tm.Ok.mk (b:=b2) hk2 hs2 hn2 hl2 hok2) hsz2
 rw [Ze7] at hsize hsize2
 have hc1:=Znz ((1+Zz kids:Nat):Int) ((1+Zz kids2:Nat):Int)
 have hc2:=Znz k k2
 have hc4:=Znz s s2
 have hc5:=Znz (kids.length:Int) (kids2.length:Int)
 have hcmp:(Tm.mk k nm s b kids).cmp (Tm.mk k2 nm2 s2 b2 kids2)=thn (WO ((1+Zz kids:Nat):Int) ((1+Zz kids2:Nat):Int)) (thn (WO k k2) (thn (Xp nm nm2) (thn (WO s s2) (thn (WO (kids.length:Int) (kids2.length:Int)) (Ui kids kids2))))):=by simp only [Tm.cmp]
 rw [hcmp]
 generalize WO ((1+Zz kids:Nat):Int) ((1+Zz kids2:Nat):Int)=x1 at hc1 ⊢
 generalize WO k k2=x2 at hc2 ⊢
 generalize WO s s2=x4 at hc4 ⊢
 obtain ⟨x5,hx5⟩:∃ x5,x5=WO (kids.length:Int) (kids2.length:Int):=⟨_,rfl⟩
 rw [← hx5] at hc5 ⊢
 rw [← Zb kids, ← Zb kids2] at hc5
 refine Jw ZeB fe61.ok rfl ?_ (by simp [ZZ,frzG,Tm.cells,Zbx])
 repeat' first|(apply qCl;rfl;rfl;rfl;rfl;first|exact hc2 _|exact hc4 _|exact hc5 _)|refine Jl ?_|refine Jb ?_ ?_|refine Jo ?_|(apply dCl;rfl;rfl;rfl;rfl;rfl;first|exact hsize _|exact hsize2 _|exact hc1 _)|refine Jh ?_|(apply Wp.draw ZeB follows;kernel_rfl)|intro hb
 all_goals first
  | (refine Zi ?_;clear hsize hsize2 hc1 hc2 hc4 hc5 ih hok hok2 hcmp hx5 hu0;simp_all [thn,Xp];done)
  | skip
 have hb5:x5=0:=by simpa using hb
 have h5:kids.length=kids2.length:=by have:=WD (hx5.symm.trans hb5);omega
 have hx:thn x1 (thn x2 (thn (Xp nm nm2) (thn x4 (thn x5 (Ui kids kids2)))))=Ui kids kids2:=by
  clear hsize hsize2 hc1 hc2 hc4 hc5 ih hok hok2 hcmp hx5 hu0
  simp_all [thn,Xp]
 rw [hx]
 clear hsize hsize2 hc1 hc2 hc4 hc5 hcmp hu0
 refine Wp.while (fun m tm H=>∃ (i:Nat),∃ base,i+m=kids.length∧Ui kids kids2=Ui (kids.drop i) (kids2.drop i)∧tm=ovr base [(2,.ptr 0 4 0 0),(3,.ptr 1 4 0 0),(9,.int .i64 (i:Int))]∧H=⟨[.cells 4 [[.int .i64 k,.str nm,.int .i64 s,slV b 4 (Za kids)]],.cells 4 [[.int .i64 k2,.str nm2,.int .i64 s2,slV b2 4 (Za kids2)]]],0,[],0⟩)
  (fun m tm H hI=>?_) kids.length _ _ ⟨0,_,by omega,by simp,Zh ⟨rfl,rfl,rfl,trivial⟩,rfl⟩
 obtain ⟨i,base,hi,hcm,rfl,rfl⟩:=hI
 rw [hcm]
 unfold maxLen at hl
 by_cases hlt:i<kids.length
 · obtain ⟨t', ht'⟩ : ∃ t', kids[i]? = some t' := ⟨kids[i], by simp⟩
   obtain ⟨u',hu'⟩:∃ u',kids2[i]? = some u':=⟨kids2[i]'(by omega),by simp⟩
   have hm:t'∈kids:=List.mem_of_getElem? ht'
   have hm2:u'∈kids2:=List.mem_of_getElem? hu'
   simp only [Tm.size] at hsz hsz2
   have hle:=Xm hm
   have hle2:=Xm hm2
   have hc:=ih t' hm (hok2 u' hm2) (by omega) (by omega)
   have hdr:=Zci ht' hu'
   obtain ⟨y,hy⟩:∃ y,y=t'.cmp u':=⟨_,rfl⟩
   rw [← hy] at hc hdr
   rw [hdr]
   obtain ⟨k',nm',s',b',kids'⟩:=t'
   obtain ⟨k2',nm2',s2',b2',kids2'⟩:=u'
   have hj:=Zl ht'
   have hj2:=Zl hu'
   repeat' first|refine Jl ?_|refine Jb ?_ ?_|refine Jo ?_|refine Jd (hc _) ?_|refine JI ?_|refine Jh ?_|(apply Wp.draw ZeB follows;kernel_rfl)|intro hb
   · refine Zi ?_
     rw [Zm4 (by simpa using hb)]
   · have hy0 : y = 0 := by simpa using hb
     refine LoopI.go (m-1) (by omega) ⟨i+1,_,by omega,by rw [WT hy0],Zh ⟨rfl,rfl,?_,trivial⟩,rfl⟩
     exact Zi (Zf (n:=i+1) (by omega))
   all_goals (exfalso;rw [Zb] at hb;simp at hb;omega)
 · have e : i = kids.length := by omega
   subst e
   repeat' first|refine Jl ?_|refine Jb ?_ ?_|refine Jo ?_|refine Jh ?_|(apply Wp.draw ZeB follows;kernel_rfl)|intro hb
   · exfalso;rw [Zb] at hb;simp at hb
   · exact Zi cmpL_end.symm
theorem Qi (a b:Int):WO a b=0∨WO a b= -1∨WO a b=1:=by
 simp only [WO]
 split
 · simp
 · split<;>simp
theorem Zkz (a b:List UInt8):Xp a b=0∨Xp a b= -1∨Xp a b=1:=by
 simp only [Xp]
 split
 · simp
 · split<;>simp
theorem ZfF (h:a=0∨a= -1∨a=1) (h':b=0∨b= -1∨b=1):thn a b=0∨thn a b= -1∨thn a b=1:=by
 unfold thn;split<;>assumption
mutual
theorem Znk:∀ t u:Tm,t.cmp u=0∨t.cmp u= -1∨t.cmp u=1
 | .mk k nm s b l, .mk k' nm' s' b' l' => by
   simp only [Tm.cmp]
   exact ZfF (Qi _ _) (ZfF (Qi _ _) (ZfF (Zkz _ _) (ZfF (Qi _ _) (ZfF (Qi _ _) (Zj0 l l')))))
theorem Zj0:∀ l l':List Tm,Ui l l'=0∨Ui l l'= -1∨Ui l l'=1
 | [],_=>by simp [Ui]
 |_::_,[]=>by simp [Ui]
 | a :: r, b :: r' => by
   simp only [Ui]
   exact ZfF (Znk a b) (Zj0 r r')
end
theorem d77:∀ {t u:Tm},t.Ok→u.Ok→t.size<4611686018427387904→u.size<4611686018427387904→∀ H,CallOk E1 Tryz.prog 77 [.agg t.cells,.agg u.cells] H (.int .i64 (t.cmp u)) H:=by
 intro t u ht
 induction ht generalizing u with
 | @mk k nm s b kids hk hs hn hl hok ih=>
 intro hu hsz hsz2
 cases hu with
 | @mk k2 nm2 s2 b2 kids2 hk2 hs2 hn2 hl2 hok2=>
 have hsize:=Zqw (Tm.Ok.mk (b:=b) hk hs hn hl hok) hsz
 have hsize2:=Zqw (Tm.Ok.mk (b:=b2) hk2 hs2 hn2 hl2 hok2) hsz2
 rw [Ze7] at hsize hsize2
 have hc1:=Znv ((1+Zz kids:Nat):Int) ((1+Zz kids2:Nat):Int)
 have hc2:=Znv k k2
 have hc3:=ZqX nm nm2
 have hc4:=Znv s s2
 have hc5:=Znv (kids.length:Int) (kids2.length:Int)
 have hcmp:(Tm.mk k nm s b kids).cmp (Tm.mk k2 nm2 s2 b2 kids2)=thn (WO ((1+Zz kids:Nat):Int) ((1+Zz kids2:Nat):Int)) (thn (WO k k2) (thn (Xp nm nm2) (thn (WO s s2) (thn (WO (kids.length:Int) (kids2.length:Int)) (Ui kids kids2))))):=by simp only [Tm.cmp]
 rw [hcmp]
 clear hcmp
 have v1:=Qi ((1+Zz kids:Nat):Int) ((1+Zz kids2:Nat):Int)
 have v2:=Qi k k2
 have v3:=Zkz nm nm2
 have v4:=Qi s s2
 have v5:=Qi (kids.length:Int) (kids2.length:Int)
 generalize WO ((1+Zz kids:Nat):Int) ((1+Zz kids2:Nat):Int)=x1 at hc1 v1 ⊢
 generalize WO k k2=x2 at hc2 v2 ⊢
 generalize Xp nm nm2=x3 at hc3 v3 ⊢
 generalize WO s s2=x4 at hc4 v4 ⊢
 obtain ⟨x5,hx5⟩:∃ x5,x5=WO (kids.length:Int) (kids2.length:Int):=⟨_,rfl⟩
 rw [← hx5] at hc5 v5 ⊢
 rw [← Zb kids, ← Zb kids2] at hc5
 refine Jw ZeB fe77.ok rfl ?_ (by simp [ZZ,frzG,Tm.cells,Zbx])
 obtain ⟨G,hG⟩:∃ G,G=thn x1 (thn x2 (thn x3 (thn x4 (thn x5 (Ui kids kids2))))):=⟨_,rfl⟩
 rw [← hG]
 have hlen:x5=0→kids.length=kids2.length:=fun h=>by have:=WD (hx5.symm.trans h);omega
 clear hx5
 rcases v1 with rfl|rfl|rfl
 rcases v2 with rfl|rfl|rfl
 rcases v3 with rfl|rfl|rfl
 rcases v4 with rfl|rfl|rfl
 rcases v5 with rfl|rfl|rfl
 all_goals
  repeat' first|(apply qCl;rfl;rfl;rfl;rfl;first|exact hc2 _|exact hc3 _|exact hc4 _|exact hc5 _)|refine Jl ?_|refine Jt ?_|refine Jo ?_|(apply dCl;rfl;rfl;rfl;rfl;rfl;first|exact hsize _|exact hsize2 _|exact hc1 _)|refine Jh ?_|(apply Wp.draw ZeB follows;kernel_rfl)|fail
  refine Wp.while (fun m tm H=>∃ (i:Nat),∃ base,∃ y:Int,i+m=kids.length∧(y=0∨y= -1∨y=1)∧(y=0→kids.length=kids2.length)∧G=thn y (Ui (kids.drop i) (kids2.drop i))∧tm=ovr base [(2,.ptr 0 4 0 0),(3,.ptr 1 4 0 0),(5,.int .i64 y),(6,.int .i64 (i:Int))]∧H=⟨[.cells 4 [[.int .i64 k,.str nm,.int .i64 s,slV b 4 (Za kids)]],.cells 4 [[.int .i64 k2,.str nm2,.int .i64 s2,slV b2 4 (Za kids2)]]],0,[],0⟩)
   (fun m tm H hI=>?_) kids.length _ _ ⟨0,_,_,by omega,by omega,by first|exact hlen|(intro h;simp at h),by simp [hG,thn],Zh ⟨rfl,rfl,rfl,rfl,trivial⟩,rfl⟩
  clear hG hsize hsize2 hc1 hc2 hc3 hc4 hc5 hlen
  obtain ⟨i,base,y,hi,hy,hyl,hG,rfl,rfl⟩:=hI
  unfold maxLen at hl
  rcases hy with rfl|hy
  · have h5 := hyl rfl
    rw [WT rfl] at hG
    by_cases hlt:i<kids.length
    · obtain ⟨t', ht'⟩ : ∃ t', kids[i]? = some t' := ⟨kids[i], by simp⟩
      obtain ⟨u',hu'⟩:∃ u',kids2[i]? = some u':=⟨kids2[i]'(by omega),by simp⟩
      have hm:t'∈kids:=List.mem_of_getElem? ht'
      have hm2:u'∈kids2:=List.mem_of_getElem? hu'
      simp only [Tm.size] at hsz hsz2
      have hle:=Xm hm
      have hle2:=Xm hm2
      have hc:=ih t' hm (hok2 u' hm2) (by omega) (by omega)
      have hdr:=Zci ht' hu'
      have h3:=Znk t' u'
      obtain ⟨z,hz⟩:∃ z,z=t'.cmp u':=⟨_,rfl⟩
      rw [← hz] at hc hdr h3
      obtain ⟨k',nm',s',b',kids'⟩:=t'
      obtain ⟨k2',nm2',s2',b2',kids2'⟩:=u'
      have hj:=Zl ht'
      have hj2:=Zl hu'
      repeat' first|refine Jl ?_|refine Jt ?_|refine Jb ?_ ?_|refine Jo ?_|refine Jd (hc _) ?_|refine JI ?_|refine Jh ?_|(apply Wp.draw ZeB follows;kernel_rfl)|intro hb
      · refine LoopI.go (m - 1) (by omega) ⟨i + 1, _, z, by omega, h3, fun _ => h5, hG.trans hdr, Zh ⟨rfl, rfl, rfl, ?_, trivial⟩, rfl⟩
        exact Zi (Zf (n:=i+1) (by omega))
      · exfalso;rw [Zb] at hb;simp at hb;omega
    · have e : i = kids.length := by omega
      subst e
      repeat' first|refine Jl ?_|refine Jt ?_|refine Jb ?_ ?_|refine Jo ?_|refine Jh ?_|(apply Wp.draw ZeB follows;kernel_rfl)|intro hb
      · exfalso;rw [Zb] at hb;simp at hb
      · exact Zi (by rw [hG];exact cmpL_end.symm)
  · rcases hy with rfl | rfl
    ·
      repeat' first|refine Jk ?_|refine Jt ?_|refine Jo ?_|fail
      exact Zi hG.symm
    ·
      repeat' first|refine Jk ?_|refine Jt ?_|refine Jo ?_|fail
      exact Zi hG.symm
end Go.Vm.Seat
