/-
  The order of terms: the program's and the reference's text compute it; no draw i
-/
import Derived.Test.YtpgfeijkfmgnjaaGreatDoorTh
set_option maxHeartbeats 0
set_option maxRecDepth 100000
namespace Go.Vm.Seat
variable {t:Tm} {a b:Int} {l l':List Tm}
open Go.Proofs
theorem ZrR:∀ H,CallOk E0 Tryz.prog 257 [] H (slV true 4 (Zch Zce)) H:=by
 have e:slV true 4 (Zch Zce)= .sl .none 4 (Zch Zce):=Zw _ _ _ _
 rw [e]
 exact Xs (x:=⟨257,[],.sl .none 4 (Zch Zce)⟩) tOk follows fOk zOk (fuel:=100) (k:=20) (by kernel_rfl)
theorem Zr3 (nm:List UInt8):∀ H,CallOk E0 Tryz.prog 221 [.str nm] H (.int .i64 (Qw nm).kind) H:=by
 have hc:=ZrR
 obtain ⟨l,hl⟩:∃ l,l=Zce:=⟨_,rfl⟩
 have hlen:l.length=21:=by rw [hl];rfl
 unfold Qw
 rw [← hl] at hc ⊢
 refine Jw tOk fe221.ok rfl ?_
 repeat' first|refine Jc (hc _) ?_|refine Jo ?_|fail
 refine Wp.while (fun m tm H=>∃ (i:Nat),∃ base,i+m=l.length∧Vk nm l=Vk nm (l.drop i)∧tm=ovr base [(0,.str nm),(3,slV true 4 (Zch l)),(4,.int .i64 (i:Int))]∧H=⟨[],0,[],0⟩)
  (fun m tm H hI=>?_) l.length _ _ ⟨0,_,by omega,by simp,Zi ⟨rfl,rfl,rfl,trivial⟩,rfl⟩
 clear hc hl
 obtain ⟨i,base,hi,hgo,rfl,rfl⟩:=hI
 rw [hgo]
 by_cases hlt:i<l.length
 · obtain ⟨s, hs⟩ : ∃ s, l[i]? = some s := ⟨l[i], by simp⟩
   rw [Qy hs]
   obtain ⟨sn,sl,sm,sk⟩:=s
   have hj:(Zch l)[i]? = some [.str sn,.int .i64 sl,.int .i64 sm,.int .i64 sk]:=ZcG hs
   repeat' first|refine Jl ?_|refine Jx ?_|refine Jb ?_ ?_|refine Jo ?_|intro hb
   · rw [if_pos (by simpa using hb)]
     rfl
   · rw [if_neg (by simpa using hb)]
     exact LoopI.go (m-1) (by omega) ⟨i+1,_,by omega,rfl,Zi ⟨rfl,rfl,Zj (Zg (n:=i+1) (by omega)),trivial⟩,rfl⟩
   · exfalso;rw [Qg] at hb;simp at hb;omega
 · have e : i = l.length := by omega
   subst e
   repeat' first|refine Jl ?_|refine Jb ?_ ?_|refine Jo ?_|intro hb
   · exfalso;rw [Qg] at hb;simp at hb
   · rw [List.drop_length]
     rfl
def ZeC (o:Option Sym) (n:Int):Bool:=match o with
 |none=>false
 |some s=>decide (s.least≤n)&&decide (n≤s.most)
theorem ZsL (k:Int) (nm:List UInt8) (s:Int) (b:Bool) (kz:List Tm):∀ H,CallOk E0 Tryz.prog 254 [.agg [.int .i64 k,.str nm,.int .i64 s,slV b 4 (Za kz)]] H (.bool (ZeC (Vk nm Zce) (kz.length:Int))) H:=by
 have hc:=ZrR
 obtain ⟨l,hl⟩:∃ l,l=Zce:=⟨_,rfl⟩
 have hlen:l.length=21:=by rw [hl];rfl
 rw [← hl] at hc ⊢
 refine Jw tOk fe254.ok rfl ?_
 repeat' first|refine Jc (hc _) ?_|refine Jt ?_|refine Jo ?_|fail
 refine Wp.while (fun m tm H=>∃ (i:Nat),∃ base,i+m=l.length∧Vk nm l=Vk nm (l.drop i)∧tm=ovr base [(1,.ptr 0 4 0 0),(3,slV true 4 (Zch l)),(4,.int .i64 (i:Int))]∧H=⟨[.cells 4 [[.int .i64 k,.str nm,.int .i64 s,slV b 4 (Za kz)]]],0,[],0⟩)
  (fun m tm H hI=>?_) l.length _ _ ⟨0,_,by omega,by simp,Zi ⟨rfl,rfl,rfl,trivial⟩,rfl⟩
 clear hc hl
 obtain ⟨i,base,hi,hgo,rfl,rfl⟩:=hI
 rw [hgo]
 by_cases hlt:i<l.length
 · obtain ⟨s, hs⟩ : ∃ s, l[i]? = some s := ⟨l[i], by simp⟩
   rw [Qy hs]
   obtain ⟨sn,sl,sm,sk⟩:=s
   have hj:(Zch l)[i]? = some [.str sn,.int .i64 sl,.int .i64 sm,.int .i64 sk]:=ZcG hs
   repeat' first|refine Jl ?_|refine Jt ?_|refine Jb ?_ ?_|refine Jo ?_|(apply dK;rfl;rfl;rfl)|(apply dLn;rfl;rfl;rfl;rfl;rfl)|refine JI ?_|(apply dT (ty:=4);rfl;rfl;rfl;rfl)|(apply dF (ty:=4);rfl;rfl;rfl;rfl)|(apply dB (ty:=4);rfl;rfl;rfl;rfl)|refine Jh ?_|(apply Wp.draw tOk follows;kernel_rfl)|intro hb
   · rw [if_pos (by simpa using ‹(sn == nm) = true›)]
     have h1:= ‹decide (sl≤((Za kz).length:Int))=true›
     rw [Zb] at h1 hb
     simp only [ZeC,h1,hb,Bool.and_self]
   · rw [if_pos (by simpa using ‹(sn == nm) = true›)]
     rw [Zb] at hb
     simp only [ZeC,hb,Bool.and_false]
   · rw [if_pos (by simpa using ‹(sn == nm) = true›)]
     rw [Zb] at hb
     simp only [ZeC,hb,Bool.false_and]
   · rw [if_neg (by simpa using hb)]
     exact LoopI.go (m-1) (by omega) ⟨i+1,_,by omega,rfl,Zi ⟨rfl,rfl,Zj (Zg (n:=i+1) (by omega)),trivial⟩,rfl⟩
   · exfalso;rw [Qg] at hb;simp at hb;omega
 · have e : i = l.length := by omega
   subst e
   repeat' first|refine Jl ?_|refine Jt ?_|refine Jb ?_ ?_|refine Jo ?_|refine Jh ?_|(apply Wp.draw tOk follows;kernel_rfl)|intro hb
   · exfalso;rw [Qg] at hb;simp at hb
   · rw [List.drop_length]
     rfl
theorem Zvd (k:Int) (nm:List UInt8) (s:Int) (b:Bool) (kz:List Tm) (hl:kz.length≤maxLen) (hne:nm= [110,101,119]→kz≠ []):∀ H,CallOk E0 Tryz.prog 255 [.agg [.int .i64 k,.str nm,.int .i64 s,slV b 4 (Za kz)]] H (.bool (QU nm kz)) H:=by
 refine Jw tOk fe255.ok rfl ?_
 by_cases e:nm= [110,101,119]
 · subst e
   obtain ⟨a,r,rfl⟩:∃ a r,kz=a::r:=by
    cases kz with
    | nil=>exact absurd rfl (hne rfl)
    | cons a r=>exact ⟨a,r,rfl⟩
   obtain ⟨ka,na,sa,ba,la⟩:=a
   have hj:=Zpr (b:=b) (show (Tm.mk ka na sa ba la::r)[0]? = some (Tm.mk ka na sa ba la) from rfl)
   repeat' first|refine JJ ?_|refine Jt ?_|refine Jb ?_ ?_|refine Jo ?_|intro hb
   · simp at hb;simp [QU,hb]
   · simp at hb;simp [QU,hb]
 · rw [ZaH e]
   repeat' first|refine Jt ?_|refine Jb ?_ ?_|refine Jo ?_|intro hb
   · exfalso;exact e (by simpa using hb)
   unfold maxLen at hl
   refine Wp.while (fun m tm H=>∃ (i:Nat),∃ base,i+m=kz.length∧kz.all Xb=(kz.drop i).all Xb∧tm=ovr base [(1,.ptr 0 4 0 0),(3,.int .i64 (i:Int))]∧H=⟨[.cells 4 [[.int .i64 k,.str nm,.int .i64 s,slV b 4 (Za kz)]]],0,[],0⟩)
    (fun m tm H hI=>?_) kz.length _ _ ⟨0,_,by omega,by simp,Zi ⟨rfl,rfl,trivial⟩,rfl⟩
   obtain ⟨i,base,hi,hall,rfl,rfl⟩:=hI
   rw [hall]
   by_cases hlt:i<kz.length
   · obtain ⟨t', ht'⟩ : ∃ t', kz[i]? = some t' := ⟨kz[i], by simp⟩
     rw [QY ht']
     obtain ⟨k',nm',s',b',kz'⟩:=t'
     have hj:=Zn ht'
     repeat' first|refine Jk ?_|refine Jl ?_|refine Jx ?_|refine Jt ?_|refine Jb ?_ ?_|refine Jo ?_|intro hb
     · simp at hb;simp [Xb,hb]
     · simp at hb;simp [Xb,hb]
     · have hA : Xb (Tm.mk k' nm' s' b' kz') = true := by
         have h1:= ‹(k'==3)=false›
         have h2:= ‹(s' != 1)=false›
         simp at h1 h2
         simp [Xb,h1,h2]
       rw [hA,Bool.true_and]
       exact LoopI.go (m-1) (by omega) ⟨i+1,_,by omega,rfl,Zi ⟨rfl,Zj (Zg (n:=i+1) (by omega)),trivial⟩,rfl⟩
     · exfalso;rw [Zb] at hb;simp at hb;omega
   · have e : i = kz.length := by omega
     subst e
     repeat' first|refine Jl ?_|refine Jt ?_|refine Jb ?_ ?_|refine Jo ?_|intro hb
     · exfalso;rw [Zb] at hb;simp at hb
     · rw [List.drop_length];rfl
theorem ZuR (nm:List UInt8):∀ H,CallOk E0 Tryz.prog 220 [.str nm] H (.bool (ZnO nm)) H:=by
 unfold ZnO
 refine Jw tOk fe220.ok rfl ?_
 repeat' first|refine Jk ?_|refine Jt ?_|refine Jb ?_ ?_|refine Jo ?_|intro hb
 all_goals (refine ifq ?_;simp_all)
theorem Zj0 {nm:List UInt8} {n:Int} (h:(Qw nm).kind≠0):ZeC (Vk nm Zce) n= !(decide (n<(Qw nm).least∨(Qw nm).most<n)):=by
 unfold Qw at *
 cases e:Vk nm Zce with
 |none=>rw [e] at h;exact absurd rfl h
 | some s =>
   simp only [ZeC,Option.getD_some]
   rw [Bool.eq_iff_iff]
   simp only [Bool.and_eq_true,decide_eq_true_eq,Bool.not_eq_true',decide_eq_false_iff_not]
   omega
theorem ZtV (ht:t.Ok):∀ H,CallOk E0 Tryz.prog 217 [.agg t.cells] H (.int .i64 t.th) H:=by
 induction ht with
 | @mk k nm s b kz hk hs hn hl hok ih=>
 have hc:=Zr3 nm
 have hc2:=ZsL k nm s b kz
 obtain ⟨R,hR⟩:∃ R,R=(Tm.mk k nm s b kz).th:=⟨_,rfl⟩
 rw [← hR]
 simp only [Tm.th] at hR
 by_cases hne:nm= [110,101,119]→kz≠ []
 · have hc3 := Zvd k nm s b kz hl hne
   have hf:=Zj0 (nm:=nm) (n:=(kz.length:Int))
   generalize ZeC (Vk nm Zce) (kz.length:Int)=F at hc2 hf
   generalize QU nm kz=G at hc3 hR
   obtain ⟨sn,sl,sm,sk,sy⟩:∃ sn sl sm sk,Qw nm=⟨sn,sl,sm,sk⟩:=⟨_,_,_,_,rfl⟩
   rw [sy] at hc hR hf
   simp only [] at hR hf hc
   refine Jw tOk fe217.ok rfl ?_
   repeat' first|refine Jk ?_|(apply qCl;rfl;rfl;rfl;rfl;first|exact hc _|exact hc2 _|exact hc3 _)|refine Jt ?_|refine Jb ?_ ?_|refine Jo ?_|intro hb
   · rw [hR,if_pos (by simpa using hb)]
   · rw [hR,if_neg (by simpa using ‹(k != 3)=false›),if_pos (by simpa using hb)]
   all_goals
    have hk0:sk≠0:=by simpa using ‹(sk==0)=false›
    rw [if_neg (by simpa using ‹(k != 3)=false›),if_neg hk0] at hR
    have hf:=hf hk0
   · have h1 : F = false := by simpa using hb
     rw [h1] at hf
     have h2:decide ((kz.length:Int)<sl∨sm<(kz.length:Int))=true:=by
      cases e:decide ((kz.length:Int)<sl∨sm<(kz.length:Int)) with
      | true=>rfl
      | false=>rw [e] at hf;exact absurd hf (by simp)
     rw [hR,if_pos (of_decide_eq_true h2)]
   all_goals
    have h1:F=true:=by simpa using ‹(!F)=false›
    rw [h1] at hf
    have h2:decide ((kz.length:Int)<sl∨sm<(kz.length:Int))=false:=by
     cases e:decide ((kz.length:Int)<sl∨sm<(kz.length:Int)) with
     | false=>rfl
     | true=>rw [e] at hf;exact absurd hf (by simp)
    rw [if_neg (of_decide_eq_false h2)] at hR
   · rw [hR,if_pos ⟨by simpa using ‹(sk==2)=true›,by simpa using hb⟩]
   all_goals
    have hR:R=thL kz:=by
     rw [hR,if_neg]
     rintro ⟨h1,h2⟩
     first
      | (subst h2;simp at hb;done)
      | (subst h1;simp at hb;done)
    clear hc hc2 hc3 hf
    unfold maxLen at hl
    refine Wp.while (fun m tm H=>∃ (i:Nat),∃ base,i+m=kz.length∧R=thL (kz.drop i)∧tm=ovr base [(1,.ptr 0 4 0 0),(4,.int .i64 (i:Int))]∧H=⟨[.cells 4 [[.int .i64 k,.str nm,.int .i64 s,slV b 4 (Za kz)]]],0,[],0⟩)
     (fun m tm H hI=>?_) kz.length _ _ ⟨0,_,by omega,by simpa using hR,Zi ⟨rfl,rfl,trivial⟩,rfl⟩
    clear hR
    obtain ⟨i,base,hi,hR,rfl,rfl⟩:=hI
    by_cases hlt:i<kz.length
    · obtain ⟨t', ht'⟩ : ∃ t', kz[i]? = some t' := ⟨kz[i], by simp⟩
      have hm:t'∈kz:=List.mem_of_getElem? ht'
      have hc:=ih t' hm
      obtain ⟨e1,he1⟩:∃ e1,t'.th=e1:=⟨_,rfl⟩
      rw [he1] at hc
      rw [Qe ht' he1] at hR
      obtain ⟨k',nm',s',b',kz'⟩:=t'
      have hj:=Zn ht'
      repeat' first|refine Jc (hc _) ?_|refine Jl ?_|refine Jx ?_|refine Jb ?_ ?_|refine Jo ?_|intro hb
      · rw [hR,if_pos (by simpa using hb)]
      · rw [if_neg (by simpa using hb)] at hR
        exact LoopI.go (m-1) (by omega) ⟨i+1,_,by omega,hR,Zi ⟨rfl,Zj (Zg (n:=i+1) (by omega)),trivial⟩,rfl⟩
      · exfalso;rw [Zb] at hb;simp at hb;omega
    · have e : i = kz.length := by omega
      subst e
      repeat' first|refine Jl ?_|refine Jb ?_ ?_|refine Jo ?_|intro hb
      · exfalso;rw [Zb] at hb;simp at hb
      · rw [hR, List.drop_length]
        simp [thL]
 · obtain ⟨rfl, rfl⟩ : nm = [110, 101, 119] ∧ kz = [] := by
     by_cases e:nm= [110,101,119]
     · exact ⟨e,Classical.byContradiction fun h=>hne fun _=>h⟩
     · exact absurd (fun h=>absurd h e) hne
   have hc:∀ H,CallOk E0 Tryz.prog 221 [.str [110,101,119]] H (.int .i64 2) H:=hc
   have hc2:∀ H,CallOk E0 Tryz.prog 254 [.agg [.int .i64 k,.str [110,101,119],.int .i64 s,slV b 4 (Za [])]] H (.bool false) H:=hc2
   have h6:R=if k≠3 then 0 else 6:=hR
   clear hR
   refine Jw tOk fe217.ok rfl ?_
   repeat' first|refine Jc (hc _) ?_|refine Jc (hc2 _) ?_|refine Jt ?_|refine Jb ?_ ?_|refine Jo ?_|intro hb
   · rw [h6,if_pos (by simpa using hb)]
   · rw [h6,if_neg (by simpa using hb)]
theorem c173 (ht:t.Ok) (hsz:t.size<4611686018427387904):∀ H,CallOk E0 Tryz.prog 173 [.agg t.cells] H (.int .i64 (if t.valid≠0 then t.valid else t.th)) H:=by
 have h1:=ZlD ht hsz
 have h2:=ZtV ht
 generalize t.valid=e at h1
 generalize t.th=e2 at h2
 obtain ⟨k,nm,s,b,kz⟩:=t
 refine Jw tOk fe173.ok rfl ?_
 repeat' first|refine Jc (h1 _) ?_|refine Jc (h2 _) ?_|refine Jb ?_ ?_|refine Jo ?_|intro hb
 · rw [if_pos (by simpa using hb)]
 · rw [if_neg (by simpa using hb)]
theorem Zck (k:Int) (nm:List UInt8) (s:Int) (b:Bool) (kz:List Tm):XY [.int .i64 k,.str nm,.int .i64 s,slV b 4 (Za kz)]=some [.int .i64 k,.str nm,.int .i64 s,slV b 4 (Za kz)]:=by
 simp only [XY,ZD]
 rfl
theorem Zpn (a b:Int):∀ H,CallOk E1 Tryz.prog 112 [.int .i64 a,.int .i64 b] H (.int .i64 (WY a b)) H:=by
 refine Jw ZgA fe112.ok rfl ?_
 repeat' first|refine Jt ?_|refine Jb ?_ ?_|refine Jo ?_|intro hb
 all_goals (refine Zj ?_;simp [WY] at *;try omega)
theorem d80 (a b:Int):∀ H,CallOk E1 Tryz.prog 80 [.int .i64 a,.int .i64 b] H (.int .i64 (WY a b)) H:=by
 refine Jw ZgA fe80.ok rfl ?_
 repeat' first|refine Jb ?_ ?_|refine Jo ?_|intro hb
 all_goals (refine Zj ?_;simp [WY] at *;try omega)
theorem ZuP (a b:List UInt8):∀ H,CallOk E1 Tryz.prog 207 [.str a,.str b] H (.int .i64 (Xx a b)) H:=fun H=>by
 have:=(ZoR [.str a,.str b] H _ _ rfl).1
 rwa [Vy] at this
theorem ZsQ (a b:List UInt8):∀ H,CallOk E1 Tryz.prog 158 [.str a,.str b] H (.int .i64 (Xx a b)) H:=by
 have hc:=ZuP a b
 refine Jw ZgA fe158.ok rfl ?_
 repeat' first|refine Jc (hc _) ?_|refine Jo ?_|fail
 all_goals rfl
theorem ZsF (a b:List UInt8):∀ H,CallOk E1 Tryz.prog 114 [.str a,.str b] H (.int .i64 (Xx a b)) H:=by
 have hc:=ZsQ a b
 refine Jw ZgA fe114.ok rfl ?_
 repeat' first|refine Jc (hc _) ?_|refine Jo ?_|fail
 all_goals rfl
theorem d81 (ht:t.Ok):t.size<4611686018427387904→∀ H,CallOk E1 Tryz.prog 81 [.agg t.cells] H (.int .i64 (t.size:Int)) H:=by
 induction ht with
 | @mk k nm s b kz hk hs hn hl hok ih=>
 intro hsz
 refine Jw ZgA fe81.ok rfl ?_ (by simp [ZJ,frzG,Tm.cells,Zck])
 repeat' first|refine Jo ?_|fail
 refine Wp.while (fun m tm H=>∃ i base,i+m=kz.length∧tm=ovr base [(1,.ptr 0 4 0 0),(3,.int .i64 ((1+Zx (kz.take i):Nat):Int)),(4,.int .i64 (i:Int))]∧H=⟨[.cells 4 [[.int .i64 k,.str nm,.int .i64 s,slV b 4 (Za kz)]]],0,[],0⟩)
  (fun m tm H hI=>?_) kz.length _ _ ⟨0,_,by omega,Zi ⟨rfl,rfl,rfl,trivial⟩,rfl⟩
 obtain ⟨i,base,hi,rfl,rfl⟩:=hI
 simp only [Tm.size] at hsz
 unfold maxLen at hl
 by_cases hlt:i<kz.length
 · obtain ⟨t', ht'⟩ : ∃ t', kz[i]? = some t' := ⟨kz[i], by simp⟩
   have hm:t'∈kz:=List.mem_of_getElem? ht'
   have hle:=XB hm
   have hst:=VU ht'
   have hsl:=Xy kz (i+1)
   have hc:=ih t' hm (by omega)
   obtain ⟨k',nm',s',b',kz'⟩:=t'
   have hj:=Zn ht'
   repeat' first|refine Jc (hc _) ?_|refine Jl ?_|refine Jx ?_|refine Jb ?_ ?_|refine Jo ?_|intro hb
   · refine LoopI.go (m - 1) (by omega) ⟨i + 1, _, by omega, Zi ⟨rfl, ?_, ?_, trivial⟩, rfl⟩
     · refine Zj ?_
       rw [hst, ← Nat.add_assoc,Int.natCast_add (1+Zx (kz.take i)), ← Int.natCast_add]
       exact Zg (by omega)
     · exact Zj (Zg (n:=i+1) (by omega))
   · exfalso;rw [Zb] at hb;simp at hb<;>omega
 · have e : i = kz.length := by omega
   subst e
   repeat' first|refine Jl ?_|refine Jb ?_ ?_|refine Jo ?_|intro hb
   · exfalso;rw [Zb] at hb;simp at hb
   · simp [Tm.size]
theorem Zr2 (ht:t.Ok):t.size<4611686018427387904→∀ H,CallOk E1 Tryz.prog 113 [.agg t.cells] H (.int .i64 (t.size:Int)) H:=by
 induction ht with
 | @mk k nm s b kz hk hs hn hl hok ih=>
 intro hsz
 refine Jw ZgA fe113.ok rfl ?_ (by simp [ZJ,frzG,Tm.cells,Zck])
 repeat' first|refine Jl ?_|refine Jo ?_|fail
 refine Wp.while (fun m tm H=>∃ (i:Nat),∃ base,i+m=kz.length∧tm=ovr base [(3,.int .i64 ((1+Zx (kz.take i):Nat):Int)),(7,slV b 4 (Za kz)),(8,.int .i64 (kz.length:Int)),(9,.int .i64 (i:Int))]∧H=⟨[.cells 4 [[.int .i64 k,.str nm,.int .i64 s,slV b 4 (Za kz)]]],0,[],0⟩)
  (fun m tm H hI=>Wp.drop ?_) kz.length _ _ ⟨0,_,by omega,Zi ⟨rfl,rfl,Zj (by rw [Zb]),rfl,trivial⟩,rfl⟩
 obtain ⟨i,base,hi,rfl,rfl⟩:=hI
 simp only [Tm.size] at hsz
 unfold maxLen at hl
 by_cases hlt:i<kz.length
 · obtain ⟨t', ht'⟩ : ∃ t', kz[i]? = some t' := ⟨kz[i], by simp⟩
   have hm:t'∈kz:=List.mem_of_getElem? ht'
   have hle:=XB hm
   have hst:=VU ht'
   have hsl:=Xy kz (i+1)
   have hc:=ih t' hm (by omega)
   obtain ⟨k',nm',s',b',kz'⟩:=t'
   have hj:=Zn ht'
   repeat' first|refine Jc (hc _) ?_|refine Jx ?_|refine Jz ?_ ?_|refine Jo ?_|intro hb
   · refine DropQ.go [(3, .int .i64 ((1 + Zx (kz.take (i + 1)) : Nat) : Int)), (7, slV b 4 (Za kz)), (8, .int .i64 (kz.length : Int)), (9, .int .i64 ((i + 1 : Nat) : Int))] ⟨?_, rfl, rfl, Zj (Zg (n := i + 1) (by omega)), trivial⟩
       (by simp [Zl,under]) rfl (by simp [Yw,ZI,Zl,under]) (LoopI.go (m-1) (by omega) ⟨i+1,_,by omega,rfl,rfl⟩)
     refine Zj ?_
     rw [hst, ← Nat.add_assoc,Int.natCast_add (1+Zx (kz.take i)), ← Int.natCast_add]
     exact Zg (by omega)
   · exfalso;simp at hb<;>omega
 · have e : i = kz.length := by omega
   subst e
   repeat' first|refine Jz ?_ ?_|refine Jo ?_|intro hb
   · exfalso;simp at hb
   · simp [Tm.size]
theorem Zfa (k:Int) (nm:List UInt8) (s:Int) (b:Bool) (l:List Tm):((Tm.mk k nm s b l).size:Int)=((1+Zx l:Nat):Int):=by simp [Tm.size]
theorem Zo8 (h:a≠0):thn a b=a:=if_pos h
theorem Va (h:a=0):thn a b=b:=if_neg (by simpa using h)
theorem Zdx {i:Nat} {a b:Tm} (h:l[i]? = some a) (h':l'[i]? = some b):UA (l.drop i) (l'.drop i)=thn (a.cmp b) (UA (l.drop (i+1)) (l'.drop (i+1))):=by
 rw [Z0 h,Z0 h'];simp only [UA]
theorem cmpL_end:UA (l.drop l.length) (l'.drop l.length)=0:=by simp [UA]
theorem d36:∀ {t u:Tm},t.Ok→u.Ok→t.size<4611686018427387904→u.size<4611686018427387904→∀ H,CallOk E1 Tryz.prog 36 [.agg t.cells,.agg u.cells] H (.int .i64 (t.cmp u)) H:=by
 intro t u ht
 induction ht generalizing u with
 | @mk k nm s b kz hk hs hn hl hok ih=>
 intro hu hsz hsz2
 have hu0:=hu
 cases hu with
 | @mk k2 nm2 s2 b2 kz2 hk2 hs2 hn2 hl2 hok2=>
 have hsize:=d81 (Tm.Ok.mk (b:=b) hk hs hn hl hok) hsz
 have hsize2:=d81 (Tm.Ok.mk (b:=b2) hk2 hs2 hn2 hl2 hok2) hsz2
 rw [Zfa] at hsize hsize2
 have hc1:=d80 ((1+Zx kz:Nat):Int) ((1+Zx kz2:Nat):Int)
 have hc2:=d80 k k2
 have hc4:=d80 s s2
 have hc5:=d80 (kz.length:Int) (kz2.length:Int)
 have hcmp:(Tm.mk k nm s b kz).cmp (Tm.mk k2 nm2 s2 b2 kz2)=thn (WY ((1+Zx kz:Nat):Int) ((1+Zx kz2:Nat):Int)) (thn (WY k k2) (thn (Xx nm nm2) (thn (WY s s2) (thn (WY (kz.length:Int) (kz2.length:Int)) (UA kz kz2))))):=by simp only [Tm.cmp]
 rw [hcmp]
 generalize WY ((1+Zx kz:Nat):Int) ((1+Zx kz2:Nat):Int)=x1 at hc1 ⊢
 generalize WY k k2=x2 at hc2 ⊢
 generalize WY s s2=x4 at hc4 ⊢
 obtain ⟨x5,hx5⟩:∃ x5,x5=WY (kz.length:Int) (kz2.length:Int):=⟨_,rfl⟩
 rw [← hx5] at hc5 ⊢
 rw [← Zb kz, ← Zb kz2] at hc5
 refine Jw ZgA fe36.ok rfl ?_ (by simp [ZJ,frzG,Tm.cells,Zck])
 repeat' first|(apply qCl;rfl;rfl;rfl;rfl;first|exact hc2 _|exact hc4 _|exact hc5 _)|refine Jl ?_|refine Jb ?_ ?_|refine Jo ?_|(apply dCl;rfl;rfl;rfl;rfl;rfl;first|exact hsize _|exact hsize2 _|exact hc1 _)|refine Jh ?_|(apply Wp.draw ZgA follows;kernel_rfl)|intro hb
 all_goals first
  | (refine Zj ?_;clear hsize hsize2 hc1 hc2 hc4 hc5 ih hok hok2 hcmp hx5 hu0;simp_all [thn,Xx];done)
  | skip
 have hb5:x5=0:=by simpa using hb
 have h5:kz.length=kz2.length:=by have:=WO (hx5.symm.trans hb5);omega
 have hx:thn x1 (thn x2 (thn (Xx nm nm2) (thn x4 (thn x5 (UA kz kz2)))))=UA kz kz2:=by
  clear hsize hsize2 hc1 hc2 hc4 hc5 ih hok hok2 hcmp hx5 hu0
  simp_all [thn,Xx]
 rw [hx]
 clear hsize hsize2 hc1 hc2 hc4 hc5 hcmp hu0
 refine Wp.while (fun m tm H=>∃ (i:Nat),∃ base,i+m=kz.length∧UA kz kz2=UA (kz.drop i) (kz2.drop i)∧tm=ovr base [(2,.ptr 0 4 0 0),(3,.ptr 1 4 0 0),(9,.int .i64 (i:Int))]∧H=⟨[.cells 4 [[.int .i64 k,.str nm,.int .i64 s,slV b 4 (Za kz)]],.cells 4 [[.int .i64 k2,.str nm2,.int .i64 s2,slV b2 4 (Za kz2)]]],0,[],0⟩)
  (fun m tm H hI=>?_) kz.length _ _ ⟨0,_,by omega,by simp,Zi ⟨rfl,rfl,rfl,trivial⟩,rfl⟩
 obtain ⟨i,base,hi,hcm,rfl,rfl⟩:=hI
 rw [hcm]
 unfold maxLen at hl
 by_cases hlt:i<kz.length
 · obtain ⟨t', ht'⟩ : ∃ t', kz[i]? = some t' := ⟨kz[i], by simp⟩
   obtain ⟨u',hu'⟩:∃ u',kz2[i]? = some u':=⟨kz2[i]'(by omega),by simp⟩
   have hm:t'∈kz:=List.mem_of_getElem? ht'
   have hm2:u'∈kz2:=List.mem_of_getElem? hu'
   simp only [Tm.size] at hsz hsz2
   have hle:=XB hm
   have hle2:=XB hm2
   have hc:=ih t' hm (hok2 u' hm2) (by omega) (by omega)
   have hdr:=Zdx ht' hu'
   obtain ⟨y,hy⟩:∃ y,y=t'.cmp u':=⟨_,rfl⟩
   rw [← hy] at hc hdr
   rw [hdr]
   obtain ⟨k',nm',s',b',kz'⟩:=t'
   obtain ⟨k2',nm2',s2',b2',kz2'⟩:=u'
   have hj:=Zn ht'
   have hj2:=Zn hu'
   repeat' first|refine Jl ?_|refine Jb ?_ ?_|refine Jo ?_|refine Jd (hc _) ?_|refine JI ?_|refine Jh ?_|(apply Wp.draw ZgA follows;kernel_rfl)|intro hb
   · refine Zj ?_
     rw [Zo8 (by simpa using hb)]
   · have hy0 : y = 0 := by simpa using hb
     refine LoopI.go (m-1) (by omega) ⟨i+1,_,by omega,by rw [Va hy0],Zi ⟨rfl,rfl,?_,trivial⟩,rfl⟩
     exact Zj (Zg (n:=i+1) (by omega))
   all_goals (exfalso;rw [Zb] at hb;simp at hb;omega)
 · have e : i = kz.length := by omega
   subst e
   repeat' first|refine Jl ?_|refine Jb ?_ ?_|refine Jo ?_|refine Jh ?_|(apply Wp.draw ZgA follows;kernel_rfl)|intro hb
   · exfalso;rw [Zb] at hb;simp at hb
   · exact Zj cmpL_end.symm
theorem QC (a b:Int):WY a b=0∨WY a b= -1∨WY a b=1:=by
 simp only [WY]
 split
 · simp
 · split<;>simp
theorem Zlv (a b:List UInt8):Xx a b=0∨Xx a b= -1∨Xx a b=1:=by
 simp only [Xx]
 split
 · simp
 · split<;>simp
theorem ZgV (h:a=0∨a= -1∨a=1) (h':b=0∨b= -1∨b=1):thn a b=0∨thn a b= -1∨thn a b=1:=by
 unfold thn;split<;>assumption
mutual
theorem Zpc:∀ t u:Tm,t.cmp u=0∨t.cmp u= -1∨t.cmp u=1
 | .mk k nm s b l, .mk k' nm' s' b' l' => by
   simp only [Tm.cmp]
   exact ZgV (QC _ _) (ZgV (QC _ _) (ZgV (Zlv _ _) (ZgV (QC _ _) (ZgV (QC _ _) (Zls l l')))))
theorem Zls:∀ l l':List Tm,UA l l'=0∨UA l l'= -1∨UA l l'=1
 | [],_=>by simp [UA]
 |_::_,[]=>by simp [UA]
 | a :: r, b :: r' => by
   simp only [UA]
   exact ZgV (Zpc a b) (Zls r r')
end
theorem d75:∀ {t u:Tm},t.Ok→u.Ok→t.size<4611686018427387904→u.size<4611686018427387904→∀ H,CallOk E1 Tryz.prog 75 [.agg t.cells,.agg u.cells] H (.int .i64 (t.cmp u)) H:=by
 intro t u ht
 induction ht generalizing u with
 | @mk k nm s b kz hk hs hn hl hok ih=>
 intro hu hsz hsz2
 cases hu with
 | @mk k2 nm2 s2 b2 kz2 hk2 hs2 hn2 hl2 hok2=>
 have hsize:=Zr2 (Tm.Ok.mk (b:=b) hk hs hn hl hok) hsz
 have hsize2:=Zr2 (Tm.Ok.mk (b:=b2) hk2 hs2 hn2 hl2 hok2) hsz2
 rw [Zfa] at hsize hsize2
 have hc1:=Zpn ((1+Zx kz:Nat):Int) ((1+Zx kz2:Nat):Int)
 have hc2:=Zpn k k2
 have hc3:=ZsF nm nm2
 have hc4:=Zpn s s2
 have hc5:=Zpn (kz.length:Int) (kz2.length:Int)
 have hcmp:(Tm.mk k nm s b kz).cmp (Tm.mk k2 nm2 s2 b2 kz2)=thn (WY ((1+Zx kz:Nat):Int) ((1+Zx kz2:Nat):Int)) (thn (WY k k2) (thn (Xx nm nm2) (thn (WY s s2) (thn (WY (kz.length:Int) (kz2.length:Int)) (UA kz kz2))))):=by simp only [Tm.cmp]
 rw [hcmp]
 clear hcmp
 have v1:=QC ((1+Zx kz:Nat):Int) ((1+Zx kz2:Nat):Int)
 have v2:=QC k k2
 have v3:=Zlv nm nm2
 have v4:=QC s s2
 have v5:=QC (kz.length:Int) (kz2.length:Int)
 generalize WY ((1+Zx kz:Nat):Int) ((1+Zx kz2:Nat):Int)=x1 at hc1 v1 ⊢
 generalize WY k k2=x2 at hc2 v2 ⊢
 generalize Xx nm nm2=x3 at hc3 v3 ⊢
 generalize WY s s2=x4 at hc4 v4 ⊢
 obtain ⟨x5,hx5⟩:∃ x5,x5=WY (kz.length:Int) (kz2.length:Int):=⟨_,rfl⟩
 rw [← hx5] at hc5 v5 ⊢
 rw [← Zb kz, ← Zb kz2] at hc5
 refine Jw ZgA fe75.ok rfl ?_ (by simp [ZJ,frzG,Tm.cells,Zck])
 obtain ⟨G,hG⟩:∃ G,G=thn x1 (thn x2 (thn x3 (thn x4 (thn x5 (UA kz kz2))))):=⟨_,rfl⟩
 rw [← hG]
 have hlen:x5=0→kz.length=kz2.length:=fun h=>by have:=WO (hx5.symm.trans h);omega
 clear hx5
 rcases v1 with rfl|rfl|rfl
 rcases v2 with rfl|rfl|rfl
 rcases v3 with rfl|rfl|rfl
 rcases v4 with rfl|rfl|rfl
 rcases v5 with rfl|rfl|rfl
 all_goals
  repeat' first|(apply qCl;rfl;rfl;rfl;rfl;first|exact hc2 _|exact hc3 _|exact hc4 _|exact hc5 _)|refine Jl ?_|refine Jt ?_|refine Jo ?_|(apply dCl;rfl;rfl;rfl;rfl;rfl;first|exact hsize _|exact hsize2 _|exact hc1 _)|refine Jh ?_|(apply Wp.draw ZgA follows;kernel_rfl)|fail
  refine Wp.while (fun m tm H=>∃ (i:Nat),∃ base,∃ y:Int,i+m=kz.length∧(y=0∨y= -1∨y=1)∧(y=0→kz.length=kz2.length)∧G=thn y (UA (kz.drop i) (kz2.drop i))∧tm=ovr base [(2,.ptr 0 4 0 0),(3,.ptr 1 4 0 0),(5,.int .i64 y),(6,.int .i64 (i:Int))]∧H=⟨[.cells 4 [[.int .i64 k,.str nm,.int .i64 s,slV b 4 (Za kz)]],.cells 4 [[.int .i64 k2,.str nm2,.int .i64 s2,slV b2 4 (Za kz2)]]],0,[],0⟩)
   (fun m tm H hI=>?_) kz.length _ _ ⟨0,_,_,by omega,by omega,by first|exact hlen|(intro h;simp at h),by simp [hG,thn],Zi ⟨rfl,rfl,rfl,rfl,trivial⟩,rfl⟩
  clear hG hsize hsize2 hc1 hc2 hc3 hc4 hc5 hlen
  obtain ⟨i,base,y,hi,hy,hyl,hG,rfl,rfl⟩:=hI
  unfold maxLen at hl
  rcases hy with rfl|hy
  · have h5 := hyl rfl
    rw [Va rfl] at hG
    by_cases hlt:i<kz.length
    · obtain ⟨t', ht'⟩ : ∃ t', kz[i]? = some t' := ⟨kz[i], by simp⟩
      obtain ⟨u',hu'⟩:∃ u',kz2[i]? = some u':=⟨kz2[i]'(by omega),by simp⟩
      have hm:t'∈kz:=List.mem_of_getElem? ht'
      have hm2:u'∈kz2:=List.mem_of_getElem? hu'
      simp only [Tm.size] at hsz hsz2
      have hle:=XB hm
      have hle2:=XB hm2
      have hc:=ih t' hm (hok2 u' hm2) (by omega) (by omega)
      have hdr:=Zdx ht' hu'
      have h3:=Zpc t' u'
      obtain ⟨z,hz⟩:∃ z,z=t'.cmp u':=⟨_,rfl⟩
      rw [← hz] at hc hdr h3
      obtain ⟨k',nm',s',b',kz'⟩:=t'
      obtain ⟨k2',nm2',s2',b2',kz2'⟩:=u'
      have hj:=Zn ht'
      have hj2:=Zn hu'
      repeat' first|refine Jl ?_|refine Jt ?_|refine Jb ?_ ?_|refine Jo ?_|refine Jd (hc _) ?_|refine JI ?_|refine Jh ?_|(apply Wp.draw ZgA follows;kernel_rfl)|intro hb
      · refine LoopI.go (m - 1) (by omega) ⟨i + 1, _, z, by omega, h3, fun _ => h5, hG.trans hdr, Zi ⟨rfl, rfl, rfl, ?_, trivial⟩, rfl⟩
        exact Zj (Zg (n:=i+1) (by omega))
      · exfalso;rw [Zb] at hb;simp at hb;omega
    · have e : i = kz.length := by omega
      subst e
      repeat' first|refine Jl ?_|refine Jt ?_|refine Jb ?_ ?_|refine Jo ?_|refine Jh ?_|(apply Wp.draw ZgA follows;kernel_rfl)|intro hb
      · exfalso;rw [Zb] at hb;simp at hb
      · exact Zj (by rw [hG];exact cmpL_end.symm)
  · rcases hy with rfl | rfl
    ·
      repeat' first|refine Jk ?_|refine Jt ?_|refine Jo ?_|fail
      exact Zj hG.symm
    ·
      repeat' first|refine Jk ?_|refine Jt ?_|refine Jo ?_|fail
      exact Zj hG.symm
