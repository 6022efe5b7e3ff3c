/-
  The variables of a term, and free terms: the reference's text.
-/
import Derived.Test.YtnnfkocifnflgaaGreatDoorTh
set_option maxHeartbeats 0
set_option maxRecDepth 100000
namespace Go.Vm.Seat
variable {t:Tm}
open Go.Proofs
theorem Znt:∀ H,CallOk E0 Tryz.prog 124 [] H (slV true 4 (Zao QK)) H:=by
 have e:slV true 4 (Zao QK)= .sl .none 4 (Zao QK):=Zp _ _ _ _
 rw [e]
 exact Qw (x:=⟨124,[],.sl .none 4 (Zao QK)⟩) tOk follows fOk zOk (fuel:=100) (k:=20) (by kernel_rfl)
theorem c77 (nm:List UInt8):∀ H,CallOk E0 Tryz.prog 77 [.str nm] H (.int .i64 (YG nm).kind) H:=by
 have hc:=Znt
 obtain ⟨l,hl⟩:∃ l,l=QK:=⟨_,rfl⟩
 have hlen:l.length=21:=by rw [hl];rfl
 unfold YG
 rw [← hl] at hc ⊢
 refine Jw tOk fe77.ok rfl ?_
 repeat' first|refine Jc (hc _) ?_|refine Ji ?_|refine JJ ?_|refine Jl ?_|refine Jx ?_|refine Jt ?_|refine Jb ?_ ?_|refine Jo ?_|intro hb
 refine Wp.while (fun m tm H=>∃ (i:Nat),∃ base,i+m=l.length∧Wi nm l=Wi nm (l.drop i)∧tm=ovr base [(0,.str nm),(3,slV true 4 (Zao l)),(4,.int .i64 (i:Int))]∧H=⟨[],0,[],0⟩)
  (fun m tm H hI=>?_) l.length _ _ ⟨0,_,by omega,by simp,Zf ⟨rfl,rfl,rfl,trivial⟩,rfl⟩
 clear hc hl
 obtain ⟨i,base,hi,hgo,rfl,rfl⟩:=hI
 rw [hgo]
 by_cases hlt:i<l.length
 · obtain ⟨s, hs⟩ : ∃ s, l[i]? = some s := ⟨l[i], by simp⟩
   rw [Uc hs]
   obtain ⟨sn,sl,sm,sk⟩:=s
   have hj:(Zao l)[i]? = some [.str sn,.int .i64 sl,.int .i64 sm,.int .i64 sk]:=Za1 hs
   repeat' first|refine Ji ?_|refine JJ ?_|refine Jl ?_|refine Jx ?_|refine Jt ?_|refine Jb ?_ ?_|refine Jo ?_|intro hb
   · rw [if_pos (by simpa using hb)]
     rfl
   · rw [if_neg (by simpa using hb)]
     exact LoopI.go (m-1) (by omega) ⟨i+1,_,by omega,rfl,Zf ⟨rfl,rfl,Ze (Zc (n:=i+1) (by omega)),trivial⟩,rfl⟩
   · exfalso;rw [Vt] at hb;simp at hb;omega
 · have e : i = l.length := by omega
   subst e
   repeat' first|refine Ji ?_|refine JJ ?_|refine Jl ?_|refine Jx ?_|refine Jt ?_|refine Jb ?_ ?_|refine Jo ?_|intro hb
   · exfalso;rw [Vt] at hb;simp at hb
   · rw [List.drop_length]
     rfl
def Zc7 (o:Option Sym) (n:Int):Bool:=match o with
 |none=>false
 |some s=>decide (s.least≤n)&&decide (n≤s.most)
theorem ZpB (k:Int) (nm:List UInt8) (s:Int) (b:Bool) (kz:List Tm):∀ H,CallOk E0 Tryz.prog 122 [.agg [.int .i64 k,.str nm,.int .i64 s,slV b 4 (Za kz)]] H (.bool (Zc7 (Wi nm QK) (kz.length:Int))) H:=by
 have hc:=Znt
 obtain ⟨l,hl⟩:∃ l,l=QK:=⟨_,rfl⟩
 have hlen:l.length=21:=by rw [hl];rfl
 rw [← hl] at hc ⊢
 refine Jw tOk fe122.ok rfl ?_
 repeat' first|refine Jk ?_|refine Jc (hc _) ?_|refine Ji ?_|refine JJ ?_|refine Jl ?_|refine Jx ?_|refine Jt ?_|refine Jb ?_ ?_|refine Jo ?_|(apply dK;rfl;rfl;rfl)|refine Jd (hc _) ?_|refine JD ?_|refine JK ?_|(apply dLn;rfl;rfl;rfl;rfl;rfl)|refine JI ?_|(apply dT (ty:=4);rfl;rfl;rfl;rfl)|(apply dF (ty:=4);rfl;rfl;rfl;rfl)|(apply dB (ty:=4);rfl;rfl;rfl;rfl)|refine Jh ?_|(apply Wp.draw tOk follows;kernel_rfl)|intro hb
 refine Wp.while (fun m tm H=>∃ (i:Nat),∃ base,i+m=l.length∧Wi nm l=Wi nm (l.drop i)∧tm=ovr base [(1,.ptr 0 4 0 0),(3,slV true 4 (Zao l)),(4,.int .i64 (i:Int))]∧H=⟨[.cells 4 [[.int .i64 k,.str nm,.int .i64 s,slV b 4 (Za kz)]]],0,[],0⟩)
  (fun m tm H hI=>?_) l.length _ _ ⟨0,_,by omega,by simp,Zf ⟨rfl,rfl,rfl,trivial⟩,rfl⟩
 clear hc hl
 obtain ⟨i,base,hi,hgo,rfl,rfl⟩:=hI
 rw [hgo]
 by_cases hlt:i<l.length
 · obtain ⟨s, hs⟩ : ∃ s, l[i]? = some s := ⟨l[i], by simp⟩
   rw [Uc hs]
   obtain ⟨sn,sl,sm,sk⟩:=s
   have hj:(Zao l)[i]? = some [.str sn,.int .i64 sl,.int .i64 sm,.int .i64 sk]:=Za1 hs
   repeat' first|refine Jk ?_|refine Ji ?_|refine JJ ?_|refine Jl ?_|refine Jx ?_|refine Jt ?_|refine Jb ?_ ?_|refine Jo ?_|(apply dK;rfl;rfl;rfl)|refine JD ?_|refine JK ?_|(apply dLn;rfl;rfl;rfl;rfl;rfl)|refine JI ?_|(apply dT (ty:=4);rfl;rfl;rfl;rfl)|(apply dF (ty:=4);rfl;rfl;rfl;rfl)|(apply dB (ty:=4);rfl;rfl;rfl;rfl)|refine Jh ?_|(apply Wp.draw tOk follows;kernel_rfl)|intro hb
   · rw [if_pos (by simpa using ‹(sn == nm) = true›)]
     have h1:= ‹decide (sl≤((Za kz).length:Int))=true›
     rw [Zb] at h1 hb
     simp only [Zc7,h1,hb,Bool.and_self]
   · rw [if_pos (by simpa using ‹(sn == nm) = true›)]
     rw [Zb] at hb
     simp only [Zc7,hb,Bool.and_false]
   · rw [if_pos (by simpa using ‹(sn == nm) = true›)]
     rw [Zb] at hb
     simp only [Zc7,hb,Bool.false_and]
   · rw [if_neg (by simpa using hb)]
     exact LoopI.go (m-1) (by omega) ⟨i+1,_,by omega,rfl,Zf ⟨rfl,rfl,Ze (Zc (n:=i+1) (by omega)),trivial⟩,rfl⟩
   · exfalso;rw [Vt] at hb;simp at hb;omega
 · have e : i = l.length := by omega
   subst e
   repeat' first|refine Jk ?_|refine Ji ?_|refine JJ ?_|refine Jl ?_|refine Jx ?_|refine Jt ?_|refine Jb ?_ ?_|refine Jo ?_|(apply dK;rfl;rfl;rfl)|refine JD ?_|refine JK ?_|(apply dLn;rfl;rfl;rfl;rfl;rfl)|refine JI ?_|(apply dT (ty:=4);rfl;rfl;rfl;rfl)|(apply dF (ty:=4);rfl;rfl;rfl;rfl)|(apply dB (ty:=4);rfl;rfl;rfl;rfl)|refine Jh ?_|(apply Wp.draw tOk follows;kernel_rfl)|intro hb
   · exfalso;rw [Vt] at hb;simp at hb
   · rw [List.drop_length]
     rfl
theorem Zn4 (k:Int) (nm:List UInt8) (s:Int) (b:Bool) (kz:List Tm) (hl:kz.length≤maxLen) (hne:nm= [110,101,119]→kz≠ []):∀ H,CallOk E0 Tryz.prog 123 [.agg [.int .i64 k,.str nm,.int .i64 s,slV b 4 (Za kz)]] H (.bool (Uz nm kz)) H:=by
 refine Jw tOk fe123.ok rfl ?_
 by_cases e:nm= [110,101,119]
 · subst e
   obtain ⟨a,r,rfl⟩:∃ a r,kz=a::r:=by
    cases kz with
    | nil=>exact absurd rfl (hne rfl)
    | cons a r=>exact ⟨a,r,rfl⟩
   obtain ⟨ka,na,sa,ba,la⟩:=a
   have hj:=ZnN (b:=b) (show (Tm.mk ka na sa ba la::r)[0]? = some (Tm.mk ka na sa ba la) from rfl)
   repeat' first|refine Jk ?_|refine Ji ?_|refine JJ ?_|refine Jl ?_|refine Jx ?_|refine Jt ?_|refine Jb ?_ ?_|refine Jo ?_|intro hb
   · simp at hb;simp [Uz,hb]
   · simp at hb;simp [Uz,hb]
 · rw [UW e]
   repeat' first|refine Jk ?_|refine Ji ?_|refine JJ ?_|refine Jl ?_|refine Jx ?_|refine Jt ?_|refine Jb ?_ ?_|refine Jo ?_|intro hb
   · exfalso;exact e (by simpa using hb)
   unfold maxLen at hl
   refine Wp.while (fun m tm H=>∃ (i:Nat),∃ base,i+m=kz.length∧kz.all YD=(kz.drop i).all YD∧tm=ovr base [(1,.ptr 0 4 0 0),(3,.int .i64 (i:Int))]∧H=⟨[.cells 4 [[.int .i64 k,.str nm,.int .i64 s,slV b 4 (Za kz)]]],0,[],0⟩)
    (fun m tm H hI=>?_) kz.length _ _ ⟨0,_,by omega,by simp,Zf ⟨rfl,rfl,trivial⟩,rfl⟩
   obtain ⟨i,base,hi,hall,rfl,rfl⟩:=hI
   rw [hall]
   by_cases hlt:i<kz.length
   · obtain ⟨t', ht'⟩ : ∃ t', kz[i]? = some t' := ⟨kz[i], by simp⟩
     rw [ZaK ht']
     obtain ⟨k',nm',s',b',kz'⟩:=t'
     have hj:=Zh ht'
     repeat' first|refine Jk ?_|refine Ji ?_|refine JJ ?_|refine Jl ?_|refine Jx ?_|refine Jt ?_|refine Jb ?_ ?_|refine Jo ?_|intro hb
     · simp at hb;simp [YD,hb]
     · simp at hb;simp [YD,hb]
     · have hA : YD (Tm.mk k' nm' s' b' kz') = true := by
         have h1:= ‹(k'==3)=false›
         have h2:= ‹(s' != 1)=false›
         simp at h1 h2
         simp [YD,h1,h2]
       rw [hA,Bool.true_and]
       exact LoopI.go (m-1) (by omega) ⟨i+1,_,by omega,rfl,Zf ⟨rfl,Ze (Zc (n:=i+1) (by omega)),trivial⟩,rfl⟩
     · exfalso;rw [Zb] at hb;simp at hb;omega
   · have e : i = kz.length := by omega
     subst e
     repeat' first|refine Jk ?_|refine Ji ?_|refine JJ ?_|refine Jl ?_|refine Jx ?_|refine Jt ?_|refine Jb ?_ ?_|refine Jo ?_|intro hb
     · exfalso;rw [Zb] at hb;simp at hb
     · rw [List.drop_length];rfl
theorem Zh2 {nm:List UInt8} {n:Int} (h:(YG nm).kind≠0):Zc7 (Wi nm QK) n= !(decide (n<(YG nm).least∨(YG nm).most<n)):=by
 unfold YG at *
 cases e:Wi nm QK with
 |none=>rw [e] at h;exact absurd rfl h
 | some s =>
   simp only [Zc7,Option.getD_some]
   rw [Bool.eq_iff_iff]
   simp only [Bool.and_eq_true,decide_eq_true_eq,Bool.not_eq_true',decide_eq_false_iff_not]
   omega
theorem c75 (ht:t.Ok):∀ H,CallOk E0 Tryz.prog 75 [.agg t.cells] H (.int .i64 t.th) H:=by
 induction ht with
 | @mk k nm s b kz hk hs hn hl hok ih=>
 have hc:=c77 nm
 have hc2:=ZpB k nm s b kz
 obtain ⟨R,hR⟩:∃ R,R=(Tm.mk k nm s b kz).th:=⟨_,rfl⟩
 rw [← hR]
 simp only [Tm.th] at hR
 by_cases hne:nm= [110,101,119]→kz≠ []
 · have hc3 := Zn4 k nm s b kz hl hne
   have hf:=Zh2 (nm:=nm) (n:=(kz.length:Int))
   generalize Zc7 (Wi nm QK) (kz.length:Int)=F at hc2 hf
   generalize Uz nm kz=G at hc3 hR
   obtain ⟨sn,sl,sm,sk,sy⟩:∃ sn sl sm sk,YG nm=⟨sn,sl,sm,sk⟩:=⟨_,_,_,_,rfl⟩
   rw [sy] at hc hR hf
   simp only [] at hR hf hc
   refine Jw tOk fe75.ok rfl ?_
   repeat' first|refine Jk ?_|(apply qCl;rfl;rfl;rfl;rfl;first|exact hc _|exact hc2 _|exact hc3 _)|refine Ji ?_|refine JJ ?_|refine Jl ?_|refine Jx ?_|refine Jt ?_|refine Jb ?_ ?_|refine Jo ?_|intro hb
   · rw [hR,if_pos (by simpa using hb)]
   · rw [hR,if_neg (by simpa using ‹(k != 3)=false›),if_pos (by simpa using hb)]
   all_goals
    have hk0:sk≠0:=by simpa using ‹(sk==0)=false›
    rw [if_neg (by simpa using ‹(k != 3)=false›),if_neg hk0] at hR
    have hf:=hf hk0
   · have h1 : F = false := by simpa using hb
     rw [h1] at hf
     have h2:decide ((kz.length:Int)<sl∨sm<(kz.length:Int))=true:=by
      cases e:decide ((kz.length:Int)<sl∨sm<(kz.length:Int)) with
      | true=>rfl
      | false=>rw [e] at hf;exact absurd hf (by simp)
     rw [hR,if_pos (of_decide_eq_true h2)]
   all_goals
    have h1:F=true:=by simpa using ‹(!F)=false›
    rw [h1] at hf
    have h2:decide ((kz.length:Int)<sl∨sm<(kz.length:Int))=false:=by
     cases e:decide ((kz.length:Int)<sl∨sm<(kz.length:Int)) with
     | false=>rfl
     | true=>rw [e] at hf;exact absurd hf (by simp)
    rw [if_neg (of_decide_eq_false h2)] at hR
   · rw [hR,if_pos ⟨by simpa using ‹(sk==2)=true›,by simpa using hb⟩]
   all_goals
    have hR:R=thL kz:=by
     rw [hR,if_neg]
     rintro ⟨h1,h2⟩
     first
      | (subst h2;simp at hb;done)
      | (subst h1;simp at hb;done)
    clear hc hc2 hc3 hf
    unfold maxLen at hl
    refine Wp.while (fun m tm H=>∃ (i:Nat),∃ base,i+m=kz.length∧R=thL (kz.drop i)∧tm=ovr base [(1,.ptr 0 4 0 0),(4,.int .i64 (i:Int))]∧H=⟨[.cells 4 [[.int .i64 k,.str nm,.int .i64 s,slV b 4 (Za kz)]]],0,[],0⟩)
     (fun m tm H hI=>?_) kz.length _ _ ⟨0,_,by omega,by simpa using hR,Zf ⟨rfl,rfl,trivial⟩,rfl⟩
    clear hR
    obtain ⟨i,base,hi,hR,rfl,rfl⟩:=hI
    by_cases hlt:i<kz.length
    · obtain ⟨t', ht'⟩ : ∃ t', kz[i]? = some t' := ⟨kz[i], by simp⟩
      have hm:t'∈kz:=List.mem_of_getElem? ht'
      have hc:=ih t' hm
      obtain ⟨e1,he1⟩:∃ e1,t'.th=e1:=⟨_,rfl⟩
      rw [he1] at hc
      rw [Vw ht' he1] at hR
      obtain ⟨k',nm',s',b',kz'⟩:=t'
      have hj:=Zh ht'
      repeat' first|refine Jk ?_|refine Jc (hc _) ?_|refine Ji ?_|refine JJ ?_|refine Jl ?_|refine Jx ?_|refine Jt ?_|refine Jb ?_ ?_|refine Jo ?_|intro hb
      · rw [hR,if_pos (by simpa using hb)]
      · rw [if_neg (by simpa using hb)] at hR
        exact LoopI.go (m-1) (by omega) ⟨i+1,_,by omega,hR,Zf ⟨rfl,Ze (Zc (n:=i+1) (by omega)),trivial⟩,rfl⟩
      · exfalso;rw [Zb] at hb;simp at hb;omega
    · have e : i = kz.length := by omega
      subst e
      repeat' first|refine Jk ?_|refine Ji ?_|refine JJ ?_|refine Jl ?_|refine Jx ?_|refine Jt ?_|refine Jb ?_ ?_|refine Jo ?_|intro hb
      · exfalso;rw [Zb] at hb;simp at hb
      · rw [hR, List.drop_length]
        simp [thL]
 · obtain ⟨rfl, rfl⟩ : nm = [110, 101, 119] ∧ kz = [] := by
     by_cases e:nm= [110,101,119]
     · exact ⟨e,Classical.byContradiction fun h=>hne fun _=>h⟩
     · exact absurd (fun h=>absurd h e) hne
   have hc:∀ H,CallOk E0 Tryz.prog 77 [.str [110,101,119]] H (.int .i64 2) H:=hc
   have hc2:∀ H,CallOk E0 Tryz.prog 122 [.agg [.int .i64 k,.str [110,101,119],.int .i64 s,slV b 4 (Za [])]] H (.bool false) H:=hc2
   have h6:R=if k≠3 then 0 else 6:=hR
   clear hR
   refine Jw tOk fe75.ok rfl ?_
   repeat' first|refine Jk ?_|refine Jc (hc _) ?_|refine Jc (hc2 _) ?_|refine Ji ?_|refine JJ ?_|refine Jl ?_|refine Jx ?_|refine Jt ?_|refine Jb ?_ ?_|refine Jo ?_|intro hb
   · rw [h6,if_pos (by simpa using hb)]
   · rw [h6,if_neg (by simpa using hb)]
theorem c42 (ht:t.Ok) (hsz:t.size<4611686018427387904):∀ H,CallOk E0 Tryz.prog 42 [.agg t.cells] H (.int .i64 (if t.valid≠0 then t.valid else t.th)) H:=by
 have h1:=c44 ht hsz
 have h2:=c75 ht
 generalize t.valid=e at h1
 generalize t.th=e2 at h2
 obtain ⟨k,nm,s,b,kz⟩:=t
 refine Jw tOk fe42.ok rfl ?_
 repeat' first|refine Jc (h1 _) ?_|refine Jc (h2 _) ?_|refine Jt ?_|refine Jb ?_ ?_|refine Jo ?_|intro hb
 · rw [if_pos (by simpa using hb)]
 · rw [if_neg (by simpa using hb)]
theorem Qg (k:Int) (nm:List UInt8) (s:Int) (b:Bool) (kz:List Tm):Za [Tm.mk k nm s b kz]= [[.int .i64 k,.str nm,.int .i64 s,slV b 4 (Za kz)]]:=rfl
theorem Zpv {l:List Tm} (b:Bool) (hl:∀ x,x∈l→x.Ok∧x.size≤100000) (ht:t.Ok) (hsz:t.size≤100000) (hlen:l.length≤100000):∀ H,CallOk E0 Tryz.prog 190 [slV b 4 (Za l),.agg t.cells] H (slV true 4 (Za (ZdP l t))) H:=by
 have hcmp:∀ x,x∈l→∀ H,CallOk E0 Tryz.prog 41 [.agg t.cells,.agg x.cells] H (.int .i64 (t.cmp x)) H:=fun x hx H=>ZlK (d41 ht (hl x hx).1 (by omega) (by have:=(hl x hx).2;omega) H)
 obtain ⟨T,hT⟩:∃ T,T=t:=⟨_,rfl⟩
 obtain ⟨k,nm,s,tb,kz⟩:=t
 have hlen0:=fun i=>W6 T (l.take i) ([],false)
 refine Jw tOk fe190.ok (Zv _ _ _ _ _) ?_ (by simp only [ZP,Xd];simp [frzG,Tm.cells,Xv])
 repeat' first|refine Jk ?_|refine Js ?_|refine JA ?_|refine Ji ?_|refine JJ ?_|refine Jl ?_|refine Jx ?_|refine Jt ?_|refine Jb ?_ ?_|refine Jo ?_|(apply dK;rfl;rfl;rfl)|refine JB ?_|(apply dAq;rfl;rfl;rfl;rfl;rfl;rfl;(first|assumption|solve_by_elim))|(apply dAp;rfl;rfl;rfl;rfl;rfl;(first|assumption|solve_by_elim);rfl)|refine JD ?_|refine JK ?_|(apply dLn;rfl;rfl;rfl;rfl;rfl)|refine JI ?_|(apply dT (ty:=4);rfl;rfl;rfl;rfl)|(apply dF (ty:=4);rfl;rfl;rfl;rfl)|(apply dB (ty:=4);rfl;rfl;rfl;rfl)|refine Jh ?_|(apply Wp.draw tOk follows;kernel_rfl)|intro hb
 refine Wp.while (fun m tm H => ∃ (i : Nat) (base : TM) (out : PV) (lv : List Nat) (nt : Nat), i + m = l.length ∧ ApV true 4 (Za ((l.take i).foldl (ZH T) ([], false)).1) out lv nt ∧
   tm=ovr base [(0,slV b 4 (Za l)),(3,.ptr 0 4 0 0),(5,out),(6,.bool ((l.take i).foldl (ZH T) ([],false)).2),(7,.int .i64 (i:Int))]∧H=⟨[.cells 4 [[.int .i64 k,.str nm,.int .i64 s,slV tb 4 (Za kz)]]],0,lv,nt⟩)
  (fun m tm H hI=>?_) l.length _ _ ⟨0,_,_,_,_,by omega,.nil _ _ rfl,Zf ⟨rfl,rfl,rfl,rfl,rfl,trivial⟩,rfl⟩
 obtain ⟨i,base,out,lv,nt,hi,hA,rfl,rfl⟩:=hI
 have hl1:=hlen0 i
 have hl2:(l.take i).length≤l.length:=by rw [List.length_take];omega
 by_cases hlt:i<l.length
 · obtain ⟨x, hx⟩ : ∃ x, l[i]? = some x := ⟨l[i], by simp⟩
   have hm:x∈l:=List.mem_of_getElem? hx
   have hs:=XZ (f:=ZH T) (b:=([],false)) hx
   generalize (l.take i).foldl (ZH T) ([],false)=S at hA hs hl1 ⊢
   obtain ⟨o,d⟩:=S
   have hc:=hcmp x hm
   rw [← hT] at hc
   have hlo:o.length≤100001:=by simp only [b01,List.length_nil] at hl1;omega
   simp only [ZH] at hs
   generalize T.cmp x=c at hc hs
   rw [hT] at hc
   obtain ⟨o1,v1,n1,hap1,hA1, -⟩:=hA.app YX (.sl .full 4 (Za [Tm.mk k nm s tb kz])) (Zr _) (ZX (by simp only [Zb,List.length_cons,List.length_nil];omega) (by decide)) (ZU _)
   obtain ⟨o2,v2,n2,hap2,hA2, -⟩:=hA.app YX (.sl .full 4 (Za [x])) (Zr _) (ZX (by simp only [Zb,List.length_cons,List.length_nil];omega) (by decide)) (ZU _)
   obtain ⟨o3,v3,n3,hap3,hA3, -⟩:=hA1.app YX (.sl .full 4 (Za [x])) (Zr _) (ZX (by simp only [Zb,List.length_cons,List.length_nil,List.length_append];omega) (by decide)) (ZU _)
   rw [← ZG] at hA1 hA2
   rw [← ZG, ← ZG, ← hT] at hA3
   obtain ⟨k',nm',s',b',kz'⟩:=x
   have hj:=Zh hx
   rw [Qg] at hap1 hap2 hap3
   repeat' first|refine Jk ?_|refine Jc (hc _) ?_|refine Js ?_|refine JA ?_|refine Ji ?_|refine JJ ?_|refine Jl ?_|refine Jx ?_|refine Jt ?_|refine Jb ?_ ?_|refine Jo ?_|(apply dK;rfl;rfl;rfl)|refine Jd (hc _) ?_|refine JB ?_|(apply dAq;rfl;rfl;rfl;rfl;rfl;rfl;(first|assumption|solve_by_elim))|(apply dAp;rfl;rfl;rfl;rfl;rfl;(first|assumption|solve_by_elim);rfl)|refine JD ?_|refine JK ?_|(apply dLn;rfl;rfl;rfl;rfl;rfl)|refine JI ?_|(apply dT (ty:=4);rfl;rfl;rfl;rfl)|(apply dF (ty:=4);rfl;rfl;rfl;rfl)|(apply dB (ty:=4);rfl;rfl;rfl;rfl)|refine Jh ?_|(apply Wp.draw tOk follows;kernel_rfl)|intro hb
   · have hd : d = true := hb
     rw [if_neg (by rw [hd];simp)] at hs
     exact LoopI.go (m-1) (by omega) ⟨i+1,_,o2,v2,n2,by omega,by rw [hs];exact hA2,Zf ⟨rfl,rfl,rfl,(by rw [hs];rfl),Ze (Zc (n:=i+1) (by omega)),trivial⟩,rfl⟩
   · have hd : d = false := ‹(o, d).snd = false›
     have h0:c<0:=by simpa using hb
     rw [if_pos ⟨hd,by omega⟩,if_pos h0] at hs
     exact LoopI.go (m-1) (by omega) ⟨i+1,_,o3,v3,n3,by omega,by rw [hs];exact hA3,Zf ⟨rfl,rfl,rfl,(by rw [hs];rfl),Ze (Zc (n:=i+1) (by omega)),trivial⟩,rfl⟩
   · have hd : d = false := ‹(o, d).snd = false›
     have h0:¬ c<0:=by simpa using hb
     have h1:c≤0:=by simpa using ‹decide (c≤0)=true›
     rw [if_pos ⟨hd,h1⟩,if_neg h0,List.append_nil] at hs
     exact LoopI.go (m-1) (by omega) ⟨i+1,_,o2,v2,n2,by omega,by rw [hs];exact hA2,Zf ⟨rfl,rfl,rfl,(by rw [hs];rfl),Ze (Zc (n:=i+1) (by omega)),trivial⟩,rfl⟩
   · have hd : d = false := ‹(o, d).snd = false›
     have h1:¬ c≤0:=by simpa using hb
     rw [if_neg fun h=>h1 h.2] at hs
     exact LoopI.go (m-1) (by omega) ⟨i+1,_,o2,v2,n2,by omega,by rw [hs];exact hA2,Zf ⟨rfl,rfl,rfl,(by rw [hs];rfl),Ze (Zc (n:=i+1) (by omega)),trivial⟩,rfl⟩
   all_goals
    exfalso
    have h9:= ‹decide ((i:Int)<((Za l).length:Int))=false›
    rw [Zb] at h9
    simp at h9
    omega
 · have e : i = l.length := by omega
   subst e
   rw [List.take_length] at hA hl1 ⊢
   have hadd : ZdP l (Tm.mk k nm s tb kz) = match l.foldl (ZH T) ([], false) with
     | (o,true)=>o
     | (o,false)=>o++ [Tm.mk k nm s tb kz]:=by rw [hT];rfl
   rw [hadd]
   generalize l.foldl (ZH T) ([],false)=S at hA hl1 ⊢
   obtain ⟨o,d⟩:=S
   have hlo:o.length≤100001:=by simp only [b01,List.length_nil] at hl1;omega
   obtain ⟨o1,v1,n1,hap1,hA1, -⟩:=hA.app YX (.sl .full 4 (Za [Tm.mk k nm s tb kz])) (Zr _) (ZX (by simp only [Zb,List.length_cons,List.length_nil];omega) (by decide)) (ZU _)
   rw [← ZG] at hA1
   rw [Qg] at hap1
   repeat' first|refine Jk ?_|refine Js ?_|refine JA ?_|refine Ji ?_|refine JJ ?_|refine Jl ?_|refine Jx ?_|refine Jt ?_|refine Jb ?_ ?_|refine Jo ?_|(apply dK;rfl;rfl;rfl)|refine JB ?_|(apply dAq;rfl;rfl;rfl;rfl;rfl;rfl;(first|assumption|solve_by_elim))|(apply dAp;rfl;rfl;rfl;rfl;rfl;(first|assumption|solve_by_elim);rfl)|refine JD ?_|refine JK ?_|(apply dLn;rfl;rfl;rfl;rfl;rfl)|refine JI ?_|(apply dT (ty:=4);rfl;rfl;rfl;rfl)|(apply dF (ty:=4);rfl;rfl;rfl;rfl)|(apply dB (ty:=4);rfl;rfl;rfl;rfl)|refine Jh ?_|(apply Wp.draw tOk follows;kernel_rfl)|intro hb
   · exfalso;rw [Zb] at hb;simp at hb
   all_goals
    first
     | (have hd : d = true := hb
        subst hd
        exact hA.frz3 _ _)
     | (have hd : d = false := hb
        subst hd
        exact hA1.frz3 _ _)
