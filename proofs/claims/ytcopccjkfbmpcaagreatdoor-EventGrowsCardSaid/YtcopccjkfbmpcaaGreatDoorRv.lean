/-
  The variables of a term, and free terms: the reference's text.
-/
import Derived.Test.YtcopccjkfbmpcaaGreatDoorTh
set_option maxHeartbeats 0
set_option maxRecDepth 100000
namespace Go.Vm.Seat
variable {t:Tm} {l:List Tm}
open Go.Proofs
theorem ZtH:∀ H,CallOk E0 Tryz.prog 157 [] H (slV true 4 (ZcN Zbc)) H:=by
 have e:slV true 4 (ZcN Zbc)= .sl .none 4 (ZcN Zbc):=Zm _ _ _ _
 rw [e]
 exact Ys (x:=⟨157,[],.sl .none 4 (ZcN Zbc)⟩) tOk follows fOk zOk (fuel:=100) (k:=20) (by kernel_rfl)
theorem ZsZ (nm:List UInt8):∀ H,CallOk E0 Tryz.prog 135 [.str nm] H (.int .i64 (YA nm).kind) H:=by
 have hc:=ZtH
 obtain ⟨l,hl⟩:∃ l,l=Zbc:=⟨_,rfl⟩
 have hlen:l.length=21:=by rw [hl];rfl
 unfold YA
 rw [← hl] at hc ⊢
 refine Jw tOk fe135.ok rfl ?_
 repeat' first|refine Jc (hc _) ?_|refine Jo ?_|fail
 refine Wp.while (fun m tm H=>∃ (i:Nat),∃ base,i+m=l.length∧Ve nm l=Ve nm (l.drop i)∧tm=ovr base [(0,.str nm),(3,slV true 4 (ZcN l)),(4,.int .i64 (i:Int))]∧H=⟨[],0,[],0⟩)
  (fun m tm H hI=>?_) l.length _ _ ⟨0,_,by omega,by simp,Zf ⟨rfl,rfl,rfl,trivial⟩,rfl⟩
 clear hc hl
 obtain ⟨i,base,hi,hgo,rfl,rfl⟩:=hI
 rw [hgo]
 by_cases hlt:i<l.length
 · obtain ⟨s, hs⟩ : ∃ s, l[i]? = some s := ⟨l[i], by simp⟩
   rw [Ql hs]
   obtain ⟨sn,sl,sm,sk⟩:=s
   have hj:(ZcN l)[i]? = some [.str sn,.int .i64 sl,.int .i64 sm,.int .i64 sk]:=ZcT hs
   repeat' first|refine Jl ?_|refine Jx ?_|refine Jb ?_ ?_|refine Jo ?_|intro hb
   · rw [if_pos (by simpa using hb)]
     rfl
   · rw [if_neg (by simpa using hb)]
     exact LoopI.go (m-1) (by omega) ⟨i+1,_,by omega,rfl,Zf ⟨rfl,rfl,Ze (Zd (n:=i+1) (by omega)),trivial⟩,rfl⟩
   · exfalso;rw [UQ] at hb;simp at hb;omega
 · have e : i = l.length := by omega
   subst e
   repeat' first|refine Jl ?_|refine Jb ?_ ?_|refine Jo ?_|intro hb
   · exfalso;rw [UQ] at hb;simp at hb
   · rw [List.drop_length]
     rfl
def ZeK (o:Option Sym) (n:Int):Bool:=match o with
 |none=>false
 |some s=>decide (s.least≤n)&&decide (n≤s.most)
theorem Zvd (k:Int) (nm:List UInt8) (s:Int) (b:Bool) (kz:List Tm):∀ H,CallOk E0 Tryz.prog 173 [.agg [.int .i64 k,.str nm,.int .i64 s,slV b 4 (Za kz)]] H (.bool (ZeK (Ve nm Zbc) (kz.length:Int))) H:=by
 have hc:=ZtH
 obtain ⟨l,hl⟩:∃ l,l=Zbc:=⟨_,rfl⟩
 have hlen:l.length=21:=by rw [hl];rfl
 rw [← hl] at hc ⊢
 refine Jw tOk fe173.ok rfl ?_
 repeat' first|refine Jc (hc _) ?_|refine Jt ?_|refine Jo ?_|fail
 refine Wp.while (fun m tm H=>∃ (i:Nat),∃ base,i+m=l.length∧Ve nm l=Ve nm (l.drop i)∧tm=ovr base [(1,.ptr 0 4 0 0),(3,slV true 4 (ZcN l)),(4,.int .i64 (i:Int))]∧H=⟨[.cells 4 [[.int .i64 k,.str nm,.int .i64 s,slV b 4 (Za kz)]]],0,[],0⟩)
  (fun m tm H hI=>?_) l.length _ _ ⟨0,_,by omega,by simp,Zf ⟨rfl,rfl,rfl,trivial⟩,rfl⟩
 clear hc hl
 obtain ⟨i,base,hi,hgo,rfl,rfl⟩:=hI
 rw [hgo]
 by_cases hlt:i<l.length
 · obtain ⟨s, hs⟩ : ∃ s, l[i]? = some s := ⟨l[i], by simp⟩
   rw [Ql hs]
   obtain ⟨sn,sl,sm,sk⟩:=s
   have hj:(ZcN l)[i]? = some [.str sn,.int .i64 sl,.int .i64 sm,.int .i64 sk]:=ZcT hs
   repeat' first|refine Jl ?_|refine Jt ?_|refine Jb ?_ ?_|refine Jo ?_|(apply dK;rfl;rfl;rfl)|(apply dLn;rfl;rfl;rfl;rfl;rfl)|refine JI ?_|(apply dT (ty:=4);rfl;rfl;rfl;rfl)|(apply dF (ty:=4);rfl;rfl;rfl;rfl)|(apply dB (ty:=4);rfl;rfl;rfl;rfl)|refine Jh ?_|(apply Wp.draw tOk follows;kernel_rfl)|intro hb
   · rw [if_pos (by simpa using ‹(sn == nm) = true›)]
     have h1:= ‹decide (sl≤((Za kz).length:Int))=true›
     rw [Zb] at h1 hb
     simp only [ZeK,h1,hb,Bool.and_self]
   · rw [if_pos (by simpa using ‹(sn == nm) = true›)]
     rw [Zb] at hb
     simp only [ZeK,hb,Bool.and_false]
   · rw [if_pos (by simpa using ‹(sn == nm) = true›)]
     rw [Zb] at hb
     simp only [ZeK,hb,Bool.false_and]
   · rw [if_neg (by simpa using hb)]
     exact LoopI.go (m-1) (by omega) ⟨i+1,_,by omega,rfl,Zf ⟨rfl,rfl,Ze (Zd (n:=i+1) (by omega)),trivial⟩,rfl⟩
   · exfalso;rw [UQ] at hb;simp at hb;omega
 · have e : i = l.length := by omega
   subst e
   repeat' first|refine Jl ?_|refine Jt ?_|refine Jb ?_ ?_|refine Jo ?_|refine Jh ?_|(apply Wp.draw tOk follows;kernel_rfl)|intro hb
   · exfalso;rw [UQ] at hb;simp at hb
   · rw [List.drop_length]
     rfl
theorem ZvD (k:Int) (nm:List UInt8) (s:Int) (b:Bool) (kz:List Tm) (hl:kz.length≤maxLen) (hne:nm= [110,101,119]→kz≠ []):∀ H,CallOk E0 Tryz.prog 174 [.agg [.int .i64 k,.str nm,.int .i64 s,slV b 4 (Za kz)]] H (.bool (WF nm kz)) H:=by
 refine Jw tOk fe174.ok rfl ?_
 by_cases e:nm= [110,101,119]
 · subst e
   obtain ⟨a,r,rfl⟩:∃ a r,kz=a::r:=by
    cases kz with
    | nil=>exact absurd rfl (hne rfl)
    | cons a r=>exact ⟨a,r,rfl⟩
   obtain ⟨ka,na,sa,ba,la⟩:=a
   have hj:=Zub (b:=b) (show (Tm.mk ka na sa ba la::r)[0]? = some (Tm.mk ka na sa ba la) from rfl)
   repeat' first|refine JJ ?_|refine Jt ?_|refine Jb ?_ ?_|refine Jo ?_|intro hb
   · simp at hb;simp [WF,hb]
   · simp at hb;simp [WF,hb]
 · rw [Zaf e]
   repeat' first|refine Jt ?_|refine Jb ?_ ?_|refine Jo ?_|intro hb
   · exfalso;exact e (by simpa using hb)
   unfold maxLen at hl
   refine Wp.while (fun m tm H=>∃ (i:Nat),∃ base,i+m=kz.length∧kz.all YZ=(kz.drop i).all YZ∧tm=ovr base [(1,.ptr 0 4 0 0),(3,.int .i64 (i:Int))]∧H=⟨[.cells 4 [[.int .i64 k,.str nm,.int .i64 s,slV b 4 (Za kz)]]],0,[],0⟩)
    (fun m tm H hI=>?_) kz.length _ _ ⟨0,_,by omega,by simp,Zf ⟨rfl,rfl,trivial⟩,rfl⟩
   obtain ⟨i,base,hi,hall,rfl,rfl⟩:=hI
   rw [hall]
   by_cases hlt:i<kz.length
   · obtain ⟨t', ht'⟩ : ∃ t', kz[i]? = some t' := ⟨kz[i], by simp⟩
     rw [Zcf ht']
     obtain ⟨k',nm',s',b',kz'⟩:=t'
     have hj:=Zk ht'
     repeat' first|refine Jk ?_|refine Jl ?_|refine Jx ?_|refine Jt ?_|refine Jb ?_ ?_|refine Jo ?_|intro hb
     · simp at hb;simp [YZ,hb]
     · simp at hb;simp [YZ,hb]
     · have hA : YZ (Tm.mk k' nm' s' b' kz') = true := by
         have h1:= ‹(k'==3)=false›
         have h2:= ‹(s' != 1)=false›
         simp at h1 h2
         simp [YZ,h1,h2]
       rw [hA,Bool.true_and]
       exact LoopI.go (m-1) (by omega) ⟨i+1,_,by omega,rfl,Zf ⟨rfl,Ze (Zd (n:=i+1) (by omega)),trivial⟩,rfl⟩
     · exfalso;rw [Zb] at hb;simp at hb;omega
   · have e : i = kz.length := by omega
     subst e
     repeat' first|refine Jl ?_|refine Jt ?_|refine Jb ?_ ?_|refine Jo ?_|intro hb
     · exfalso;rw [Zb] at hb;simp at hb
     · rw [List.drop_length];rfl
theorem Zmp {nm:List UInt8} {n:Int} (h:(YA nm).kind≠0):ZeK (Ve nm Zbc) n= !(decide (n<(YA nm).least∨(YA nm).most<n)):=by
 unfold YA at *
 cases e:Ve nm Zbc with
 |none=>rw [e] at h;exact absurd rfl h
 | some s =>
   simp only [ZeK,Option.getD_some]
   rw [Bool.eq_iff_iff]
   simp only [Bool.and_eq_true,decide_eq_true_eq,Bool.not_eq_true',decide_eq_false_iff_not]
   omega
theorem ZuI (ht:t.Ok):∀ H,CallOk E0 Tryz.prog 150 [.agg t.cells] H (.int .i64 t.th) H:=by
 induction ht with
 | @mk k nm s b kz hk hs hn hl hok ih=>
 have hc:=ZsZ nm
 have hc2:=Zvd k nm s b kz
 obtain ⟨R,hR⟩:∃ R,R=(Tm.mk k nm s b kz).th:=⟨_,rfl⟩
 rw [← hR]
 simp only [Tm.th] at hR
 by_cases hne:nm= [110,101,119]→kz≠ []
 · have hc3 := ZvD k nm s b kz hl hne
   have hf:=Zmp (nm:=nm) (n:=(kz.length:Int))
   generalize ZeK (Ve nm Zbc) (kz.length:Int)=F at hc2 hf
   generalize WF nm kz=G at hc3 hR
   obtain ⟨sn,sl,sm,sk,sy⟩:∃ sn sl sm sk,YA nm=⟨sn,sl,sm,sk⟩:=⟨_,_,_,_,rfl⟩
   rw [sy] at hc hR hf
   simp only [] at hR hf hc
   refine Jw tOk fe150.ok rfl ?_
   repeat' first|refine Jk ?_|(apply qCl;rfl;rfl;rfl;rfl;first|exact hc _|exact hc2 _|exact hc3 _)|refine Jt ?_|refine Jb ?_ ?_|refine Jo ?_|intro hb
   · rw [hR,if_pos (by simpa using hb)]
   · rw [hR,if_neg (by simpa using ‹(k != 3)=false›),if_pos (by simpa using hb)]
   all_goals
    have hk0:sk≠0:=by simpa using ‹(sk==0)=false›
    rw [if_neg (by simpa using ‹(k != 3)=false›),if_neg hk0] at hR
    have hf:=hf hk0
   · have h1 : F = false := by simpa using hb
     rw [h1] at hf
     have h2:decide ((kz.length:Int)<sl∨sm<(kz.length:Int))=true:=by
      cases e:decide ((kz.length:Int)<sl∨sm<(kz.length:Int)) with
      | true=>rfl
      | false=>rw [e] at hf;exact absurd hf (by simp)
     rw [hR,if_pos (of_decide_eq_true h2)]
   all_goals
    have h1:F=true:=by simpa using ‹(!F)=false›
    rw [h1] at hf
    have h2:decide ((kz.length:Int)<sl∨sm<(kz.length:Int))=false:=by
     cases e:decide ((kz.length:Int)<sl∨sm<(kz.length:Int)) with
     | false=>rfl
     | true=>rw [e] at hf;exact absurd hf (by simp)
    rw [if_neg (of_decide_eq_false h2)] at hR
   · rw [hR,if_pos ⟨by simpa using ‹(sk==2)=true›,by simpa using hb⟩]
   all_goals
    have hR:R=thL kz:=by
     rw [hR,if_neg]
     rintro ⟨h1,h2⟩
     first
      | (subst h2;simp at hb;done)
      | (subst h1;simp at hb;done)
    clear hc hc2 hc3 hf
    unfold maxLen at hl
    refine Wp.while (fun m tm H=>∃ (i:Nat),∃ base,i+m=kz.length∧R=thL (kz.drop i)∧tm=ovr base [(1,.ptr 0 4 0 0),(4,.int .i64 (i:Int))]∧H=⟨[.cells 4 [[.int .i64 k,.str nm,.int .i64 s,slV b 4 (Za kz)]]],0,[],0⟩)
     (fun m tm H hI=>?_) kz.length _ _ ⟨0,_,by omega,by simpa using hR,Zf ⟨rfl,rfl,trivial⟩,rfl⟩
    clear hR
    obtain ⟨i,base,hi,hR,rfl,rfl⟩:=hI
    by_cases hlt:i<kz.length
    · obtain ⟨t', ht'⟩ : ∃ t', kz[i]? = some t' := ⟨kz[i], by simp⟩
      have hm:t'∈kz:=List.mem_of_getElem? ht'
      have hc:=ih t' hm
      obtain ⟨e1,he1⟩:∃ e1,t'.th=e1:=⟨_,rfl⟩
      rw [he1] at hc
      rw [U7 ht' he1] at hR
      obtain ⟨k',nm',s',b',kz'⟩:=t'
      have hj:=Zk ht'
      repeat' first|refine Jc (hc _) ?_|refine Jl ?_|refine Jx ?_|refine Jb ?_ ?_|refine Jo ?_|intro hb
      · rw [hR,if_pos (by simpa using hb)]
      · rw [if_neg (by simpa using hb)] at hR
        exact LoopI.go (m-1) (by omega) ⟨i+1,_,by omega,hR,Zf ⟨rfl,Ze (Zd (n:=i+1) (by omega)),trivial⟩,rfl⟩
      · exfalso;rw [Zb] at hb;simp at hb;omega
    · have e : i = kz.length := by omega
      subst e
      repeat' first|refine Jl ?_|refine Jb ?_ ?_|refine Jo ?_|intro hb
      · exfalso;rw [Zb] at hb;simp at hb
      · rw [hR, List.drop_length]
        simp [thL]
 · obtain ⟨rfl, rfl⟩ : nm = [110, 101, 119] ∧ kz = [] := by
     by_cases e:nm= [110,101,119]
     · exact ⟨e,Classical.byContradiction fun h=>hne fun _=>h⟩
     · exact absurd (fun h=>absurd h e) hne
   have hc:∀ H,CallOk E0 Tryz.prog 135 [.str [110,101,119]] H (.int .i64 2) H:=hc
   have hc2:∀ H,CallOk E0 Tryz.prog 173 [.agg [.int .i64 k,.str [110,101,119],.int .i64 s,slV b 4 (Za [])]] H (.bool false) H:=hc2
   have h6:R=if k≠3 then 0 else 6:=hR
   clear hR
   refine Jw tOk fe150.ok rfl ?_
   repeat' first|refine Jc (hc _) ?_|refine Jc (hc2 _) ?_|refine Jt ?_|refine Jb ?_ ?_|refine Jo ?_|intro hb
   · rw [h6,if_pos (by simpa using hb)]
   · rw [h6,if_neg (by simpa using hb)]
theorem Zuc (ht:t.Ok) (hsz:t.size<4611686018427387904):∀ H,CallOk E0 Tryz.prog 131 [.agg t.cells] H (.int .i64 (if t.valid≠0 then t.valid else t.th)) H:=by
 have h1:=ZnJ ht hsz
 have h2:=ZuI ht
 generalize t.valid=e at h1
 generalize t.th=e2 at h2
 obtain ⟨k,nm,s,b,kz⟩:=t
 refine Jw tOk fe131.ok rfl ?_
 repeat' first|refine Jc (h1 _) ?_|refine Jc (h2 _) ?_|refine Jb ?_ ?_|refine Jo ?_|intro hb
 · rw [if_pos (by simpa using hb)]
 · rw [if_neg (by simpa using hb)]
theorem WP (k:Int) (nm:List UInt8) (s:Int) (b:Bool) (kz:List Tm):Za [Tm.mk k nm s b kz]= [[.int .i64 k,.str nm,.int .i64 s,slV b 4 (Za kz)]]:=rfl
theorem ZtD (ht:t.Ok):t.size≤100000→∀ H,CallOk E0 Tryz.prog 134 [.agg t.cells] H (slV false 4 (Za t.all)) H:=by
 induction ht with
 | @mk k nm s b kz hk hs hn hl hok ih=>
 intro hsz
 simp only [Tm.size] at hsz
 simp only [Tm.all]
 refine Jw tOk fe134.ok (ZK _ _ _ _ _) ?_
 repeat' first|refine Js ?_|refine Jo ?_|fail
 refine Wp.while (fun m tm H => ∃ (i : Nat) (base : TM) (out : PV) (lv : List Nat) (nt : Nat), i + m = kz.length ∧ ApV false 4 (Za (Tm.mk k nm s b kz :: Vj (kz.take i))) out lv nt ∧
   tm=ovr base [(1,.ptr 0 4 0 0),(3,out),(4,.int .i64 (i:Int))]∧H=⟨[.cells 4 [[.int .i64 k,.str nm,.int .i64 s,slV b 4 (Za kz)]]],0,lv,nt⟩)
  (fun m tm H hI=>?_) kz.length _ _ ⟨0,_,_,_,_,by omega,.full (Za [Tm.mk k nm s b kz]) _ _ rfl (ZO _),Zf ⟨rfl,rfl,rfl,trivial⟩,rfl⟩
 obtain ⟨i,base,out,lv,nt,hi,hA,rfl,rfl⟩:=hI
 by_cases hlt:i<kz.length
 · obtain ⟨t', ht'⟩ : ∃ t', kz[i]? = some t' := ⟨kz[i], by simp⟩
   have hm:t'∈kz:=List.mem_of_getElem? ht'
   have hle:=XG hm
   have hs:=ZdX ht'
   have hc:=ih t' hm (by omega)
   have hlen1:(Vj (kz.take i)).length≤Zl kz:=by
    rw [U0];exact ZL kz i
   have hlen2:=t'.all_len
   obtain ⟨out',lv',nt',hap,hA', -⟩:=hA.app Yh (.slV false 4 (Za t'.all)) (Zn _) (ZD (by simp only [Zb,List.length_cons];omega) (by decide)) (ZO _)
   rw [← Zt,List.cons_append, ← hs] at hA'
   obtain ⟨k',nm',s',b',kz'⟩:=t'
   have hj:=Zk ht'
   unfold maxLen at hl
   repeat' first|refine Jc (hc _) ?_|refine JA ?_|refine Jl ?_|refine Jx ?_|refine Jb ?_ ?_|refine Jo ?_|intro hb
   · exact LoopI.go (m-1) (by omega) ⟨i+1,_,out',lv',nt',by omega,hA',Zf ⟨rfl,rfl,Ze (Zd (n:=i+1) (by omega)),trivial⟩,rfl⟩
   · exfalso;rw [Zb] at hb;simp at hb;omega
 · have e : i = kz.length := by omega
   subst e
   rw [List.take_length] at hA
   repeat' first|refine Jl ?_|refine Jb ?_ ?_|refine Jo ?_|intro hb
   · exfalso;rw [Zb] at hb;simp at hb
   · exact hA.frz3 _ _
theorem c66 (b:Bool) (hl:∀ x,x∈l→x.Ok∧x.size≤100000) (ht:t.Ok) (hsz:t.size≤100000) (hlen:l.length≤100000):∀ H,CallOk E0 Tryz.prog 66 [slV b 4 (Za l),.agg t.cells] H (slV true 4 (Za (Ux l t))) H:=by
 have hcmp:∀ x,x∈l→∀ H,CallOk E0 Tryz.prog 67 [.agg t.cells,.agg x.cells] H (.int .i64 (t.cmp x)) H:=fun x hx H=>Zoe (d67 ht (hl x hx).1 (by omega) (by have:=(hl x hx).2;omega) H)
 obtain ⟨T,hT⟩:∃ T,T=t:=⟨_,rfl⟩
 obtain ⟨k,nm,s,tb,kz⟩:=t
 have hlen0:=fun i=>Ud T (l.take i) ([],false)
 refine Jw tOk fe66.ok (ZK _ _ _ _ _) ?_ (by simp only [Zx,Z5];simp [frzG,Tm.cells,Xq])
 repeat' first|refine Jt ?_|refine Jo ?_|fail
 refine Wp.while (fun m tm H => ∃ (i : Nat) (base : TM) (out : PV) (lv : List Nat) (nt : Nat), i + m = l.length ∧ ApV true 4 (Za ((l.take i).foldl (ZJ T) ([], false)).1) out lv nt ∧
   tm=ovr base [(0,slV b 4 (Za l)),(3,.ptr 0 4 0 0),(5,out),(6,.bool ((l.take i).foldl (ZJ T) ([],false)).2),(7,.int .i64 (i:Int))]∧H=⟨[.cells 4 [[.int .i64 k,.str nm,.int .i64 s,slV tb 4 (Za kz)]]],0,lv,nt⟩)
  (fun m tm H hI=>?_) l.length _ _ ⟨0,_,_,_,_,by omega,.nil _ _ rfl,Zf ⟨rfl,rfl,rfl,rfl,rfl,trivial⟩,rfl⟩
 obtain ⟨i,base,out,lv,nt,hi,hA,rfl,rfl⟩:=hI
 have hl1:=hlen0 i
 have hl2:(l.take i).length≤l.length:=by rw [List.length_take];omega
 by_cases hlt:i<l.length
 · obtain ⟨x, hx⟩ : ∃ x, l[i]? = some x := ⟨l[i], by simp⟩
   have hm:x∈l:=List.mem_of_getElem? hx
   have hs:=XR (f:=ZJ T) (b:=([],false)) hx
   generalize (l.take i).foldl (ZJ T) ([],false)=S at hA hs hl1 ⊢
   obtain ⟨o,d⟩:=S
   have hc:=hcmp x hm
   rw [← hT] at hc
   have hlo:o.length≤100001:=by simp only [b01,List.length_nil] at hl1;omega
   simp only [ZJ] at hs
   generalize T.cmp x=c at hc hs
   rw [hT] at hc
   obtain ⟨o1,v1,n1,hap1,hA1, -⟩:=hA.app Yh (.sl .full 4 (Za [Tm.mk k nm s tb kz])) (Zn _) (ZD (by simp only [Zb,List.length_cons,List.length_nil];omega) (by decide)) (ZO _)
   obtain ⟨o2,v2,n2,hap2,hA2, -⟩:=hA.app Yh (.sl .full 4 (Za [x])) (Zn _) (ZD (by simp only [Zb,List.length_cons,List.length_nil];omega) (by decide)) (ZO _)
   obtain ⟨o3,v3,n3,hap3,hA3, -⟩:=hA1.app Yh (.sl .full 4 (Za [x])) (Zn _) (ZD (by simp only [Zb,List.length_cons,List.length_nil,List.length_append];omega) (by decide)) (ZO _)
   rw [← Zt] at hA1 hA2
   rw [← Zt, ← Zt, ← hT] at hA3
   obtain ⟨k',nm',s',b',kz'⟩:=x
   have hj:=Zk hx
   rw [WP] at hap1 hap2 hap3
   repeat' first|refine Jk ?_|refine Js ?_|refine JA ?_|refine Jl ?_|refine Jx ?_|refine Jt ?_|refine Jb ?_ ?_|refine Jo ?_|refine Jd (hc _) ?_|refine JI ?_|refine Jh ?_|(apply Wp.draw tOk follows;kernel_rfl)|intro hb
   · have hd : d = true := hb
     rw [if_neg (by rw [hd];simp)] at hs
     exact LoopI.go (m-1) (by omega) ⟨i+1,_,o2,v2,n2,by omega,by rw [hs];exact hA2,Zf ⟨rfl,rfl,rfl,(by rw [hs];rfl),Ze (Zd (n:=i+1) (by omega)),trivial⟩,rfl⟩
   · have hd : d = false := ‹(o, d).snd = false›
     have h0:c<0:=by simpa using hb
     rw [if_pos ⟨hd,by omega⟩,if_pos h0] at hs
     exact LoopI.go (m-1) (by omega) ⟨i+1,_,o3,v3,n3,by omega,by rw [hs];exact hA3,Zf ⟨rfl,rfl,rfl,(by rw [hs];rfl),Ze (Zd (n:=i+1) (by omega)),trivial⟩,rfl⟩
   · have hd : d = false := ‹(o, d).snd = false›
     have h0:¬ c<0:=by simpa using hb
     have h1:c≤0:=by simpa using ‹decide (c≤0)=true›
     rw [if_pos ⟨hd,h1⟩,if_neg h0,List.append_nil] at hs
     exact LoopI.go (m-1) (by omega) ⟨i+1,_,o2,v2,n2,by omega,by rw [hs];exact hA2,Zf ⟨rfl,rfl,rfl,(by rw [hs];rfl),Ze (Zd (n:=i+1) (by omega)),trivial⟩,rfl⟩
   · have hd : d = false := ‹(o, d).snd = false›
     have h1:¬ c≤0:=by simpa using hb
     rw [if_neg fun h=>h1 h.2] at hs
     exact LoopI.go (m-1) (by omega) ⟨i+1,_,o2,v2,n2,by omega,by rw [hs];exact hA2,Zf ⟨rfl,rfl,rfl,(by rw [hs];rfl),Ze (Zd (n:=i+1) (by omega)),trivial⟩,rfl⟩
   all_goals
    exfalso
    have h9:= ‹decide ((i:Int)<((Za l).length:Int))=false›
    rw [Zb] at h9
    simp at h9
    omega
 · have e : i = l.length := by omega
   subst e
   rw [List.take_length] at hA hl1 ⊢
   have hadd : Ux l (Tm.mk k nm s tb kz) = match l.foldl (ZJ T) ([], false) with
     | (o,true)=>o
     | (o,false)=>o++ [Tm.mk k nm s tb kz]:=by rw [hT];rfl
   rw [hadd]
   generalize l.foldl (ZJ T) ([],false)=S at hA hl1 ⊢
   obtain ⟨o,d⟩:=S
   have hlo:o.length≤100001:=by simp only [b01,List.length_nil] at hl1;omega
   obtain ⟨o1,v1,n1,hap1,hA1, -⟩:=hA.app Yh (.sl .full 4 (Za [Tm.mk k nm s tb kz])) (Zn _) (ZD (by simp only [Zb,List.length_cons,List.length_nil];omega) (by decide)) (ZO _)
   rw [← Zt] at hA1
   rw [WP] at hap1
   repeat' first|refine Js ?_|refine JA ?_|refine Jl ?_|refine Jt ?_|refine Jb ?_ ?_|refine Jo ?_|refine Jh ?_|(apply Wp.draw tOk follows;kernel_rfl)|intro hb
   · exfalso;rw [Zb] at hb;simp at hb
   all_goals
    first
     | (have hd : d = true := hb
        subst hd
        exact hA.frz3 _ _)
     | (have hd : d = false := hb
        subst hd
        exact hA1.frz3 _ _)
theorem c35 (b:Bool) (hl:∀ x,x∈l→x.Ok∧x.size≤100000) (hlen:l.length≤100000):∀ H,CallOk E0 Tryz.prog 35 [slV b 4 (Za l)] H (slV true 4 (Za (QY l))) H:=by
 have hmem:=fun i=>W9 (l.take i) []
 have hsl:=fun i=>Uv (l.take i) []
 refine Jw tOk fe35.ok (ZK _ _ _ _ _) ?_
 have e0:PV.nils=slV true 4 (Za ([]:List Tm)):=Zg 4 |>.symm
 repeat' first|refine Jo ?_|fail
 refine Wp.while (fun m tm H => ∃ (i : Nat) (base : TM), i + m = l.length ∧
   tm=ovr base [(0,slV b 4 (Za l)),(3,slV true 4 (Za ((l.take i).foldl Ux []))),(4,.int .i64 (i:Int))]∧H=⟨[],0,[],0⟩)
  (fun m tm H hI=>?_) l.length _ _ ⟨0,_,by omega,Zf ⟨rfl,e0,rfl,trivial⟩,rfl⟩
 obtain ⟨i,base,hi,rfl,rfl⟩:=hI
 have hm2:=hmem i
 have hsl2:=hsl i
 have hl2:(l.take i).length≤l.length:=by rw [List.length_take];omega
 by_cases hlt:i<l.length
 · obtain ⟨x, hx⟩ : ∃ x, l[i]? = some x := ⟨l[i], by simp⟩
   have hm:x∈l:=List.mem_of_getElem? hx
   have hs:=XR (f:=Ux) (b:=[]) hx
   generalize (l.take i).foldl Ux []=S at hs hm2 hsl2 ⊢
   have hc:=c66 (l:=S) (t:=x) true (fun y hy=>hl y ((hm2 y hy).elim (fun h=>absurd h (by simp)) List.mem_of_mem_take)) (hl x hm).1 (hl x hm).2 (by simp at hsl2;omega)
   rw [← hs] at hc
   obtain ⟨k',nm',s',b',kz'⟩:=x
   have hj:=Zk hx
   repeat' first|refine Jc (hc _) ?_|refine Jl ?_|refine Jx ?_|refine Jb ?_ ?_|refine Jo ?_|intro hb
   · exact LoopI.go (m-1) (by omega) ⟨i+1,_,by omega,Zf ⟨rfl,rfl,Ze (Zd (n:=i+1) (by omega)),trivial⟩,rfl⟩
   · exfalso;rw [Zb] at hb;simp at hb;omega
 · have e : i = l.length := by omega
   subst e
   rw [List.take_length]
   repeat' first|refine Jl ?_|refine Jb ?_ ?_|refine Jo ?_|intro hb
   · exfalso;rw [Zb] at hb;simp at hb
   · exact ZK _ _ _ _ _
theorem Zvl (ht:t.Ok) (hsz:t.size≤100000) (kk:Int):∀ H,CallOk E0 Tryz.prog 194 [.agg t.cells,.int .i64 kk] H (slV true 4 (Za (QY (V4 kk t.all)))) H:=by
 have hc:=ZtD ht hsz
 have hao:=Zik ht
 have hal:=t.all_len
 generalize t.all=l at hc hao hal ⊢
 have hkm:∀ x,x∈V4 kk l→x.Ok∧x.size≤100000:=fun x hx=>by
  have:=hao x (List.mem_filter.1 hx).1
  exact ⟨this.1,by omega⟩
 have hkl:=Zab kk l
 have hc2:=fun b=>c35 b hkm (by omega)
 obtain ⟨k,nm,s,tb,kz⟩:=t
 refine Jw tOk fe194.ok (ZK _ _ _ _ _) ?_ (by simp [Zx,frzG,Tm.cells,Xq,frz1])
 repeat' first|refine Jc (hc _) ?_|refine Jo ?_|fail
 refine Wp.while (fun m tm H => ∃ (i : Nat) (base : TM) (out : PV) (lv : List Nat) (nt : Nat), i + m = l.length ∧ ApV true 4 (Za (V4 kk (l.take i))) out lv nt ∧
   tm=ovr base [(1,.int .i64 kk),(5,out),(6,slV false 4 (Za l)),(7,.int .i64 (i:Int))]∧H=⟨[.cells 4 [[.int .i64 k,.str nm,.int .i64 s,slV tb 4 (Za kz)]]],0,lv,nt⟩)
  (fun m tm H hI=>?_) l.length _ _ ⟨0,_,_,_,_,by omega,.nil _ _ rfl,Zf ⟨rfl,rfl,rfl,rfl,trivial⟩,rfl⟩
 clear hc
 obtain ⟨i,base,out,lv,nt,hi,hA,rfl,rfl⟩:=hI
 by_cases hlt:i<l.length
 · obtain ⟨x, hx⟩ : ∃ x, l[i]? = some x := ⟨l[i], by simp⟩
   have hs:=Zi5 (k:=kk) hx
   have hl1:=Zab kk (l.take i)
   have hl2:(l.take i).length≤l.length:=by rw [List.length_take];omega
   obtain ⟨o2,v2,n2,hap2,hA2, -⟩:=hA.app Yh (.sl .full 4 (Za [x])) (Zn _) (ZD (by simp only [Zb,List.length_cons,List.length_nil];omega) (by decide)) (ZO _)
   rw [← Zt] at hA2
   obtain ⟨k',nm',s',b',kz'⟩:=x
   have hj:=Zk hx
   rw [WP] at hap2
   repeat' first|refine Js ?_|refine JA ?_|refine Jl ?_|refine Jx ?_|refine Jb ?_ ?_|refine Jo ?_|intro hb
   · rw [if_pos (show (Tm.mk k' nm' s' b' kz').knd = kk by simpa [Tm.knd] using hb)] at hs
     exact LoopI.go (m-1) (by omega) ⟨i+1,_,o2,v2,n2,by omega,by rw [hs];exact hA2,Zf ⟨rfl,rfl,rfl,Ze (Zd (n:=i+1) (by omega)),trivial⟩,rfl⟩
   · rw [if_neg (show ¬ (Tm.mk k' nm' s' b' kz').knd = kk by simpa [Tm.knd] using hb), List.append_nil] at hs
     exact LoopI.go (m-1) (by omega) ⟨i+1,_,out,lv,nt,by omega,by rw [hs];exact hA,Zf ⟨rfl,rfl,rfl,Ze (Zd (n:=i+1) (by omega)),trivial⟩,rfl⟩
   all_goals (exfalso;rw [Zb] at hb;simp at hb;omega)
 · have e : i = l.length := by omega
   subst e
   rw [List.take_length] at hA
   have hc3:∀ H,CallOk E0 Tryz.prog 35 [out] H (slV true 4 (Za (QY (V4 kk l)))) H:=fun H=>Wc (hc2 true hNil) (by simp only [Zx,hA.frzG]) (ZK _ _ _ _ _) H
   repeat' first|refine Jc (hc3 _) ?_|refine Jl ?_|refine Jb ?_ ?_|refine Jo ?_|intro hb
   · exfalso;rw [Zb] at hb;simp at hb
   · exact ZK _ _ _ _ _
theorem ZuJ (ht:t.Ok) (hsz:t.size≤100000):∀ H,CallOk E0 Tryz.prog 172 [.agg t.cells] H (slV true 4 (Za (QY (V4 1 t.all)))) H:=by
 have hc:=Zvl ht hsz 1
 generalize QY (V4 1 t.all)=l at hc ⊢
 obtain ⟨k,nm,s,tb,kz⟩:=t
 refine Jw tOk fe172.ok (ZK _ _ _ _ _) ?_
 repeat' first|refine Jc (hc _) ?_|refine Jo ?_|fail
 exact ZK _ _ _ _ _
theorem Zv0 (ht:t.Ok) (hsz:t.size≤100000):∀ H,CallOk E0 Tryz.prog 149 [.agg t.cells] H (.bool t.ground) H:=by
 have hc:=ZuJ ht hsz
 have hg:t.ground=decide ((QY (V4 1 t.all)).length=0):=by
  unfold Tm.ground
  have:=ZlP (l:=V4 1 t.all)
  cases h:V4 1 t.all with
  | nil=>rw [h] at this;simp [this.2 rfl]
  | cons a r =>
    rw [h] at this
    have h2:QY (a::r)≠ []:=fun e=>by simp at this;exact this e
    simp [h2]
 rw [hg]
 generalize QY (V4 1 t.all)=l at hc ⊢
 clear hg
 obtain ⟨k,nm,s,tb,kz⟩:=t
 refine Jw tOk fe149.ok rfl ?_
 repeat' first|refine Jc (hc _) ?_|refine Jl ?_|refine Jt ?_|refine Jb ?_ ?_|refine Jo ?_|intro hb
 all_goals (refine ifq ?_;rw [Zb] at hb;simp at hb;simp [hb])
