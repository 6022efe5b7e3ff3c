/-
  Destructors: the second text's decryption and opening.
-/
import Derived.Test.YtfiflgphoepgeaaGreatDoorNd
set_option maxHeartbeats 0
set_option maxRecDepth 100000
namespace Go.Vm.Seat
variable {a key t:Tm} {nm:Bs} {α:Type}
open Go.Proofs
theorem Y7 (h:a.okA=true) (hp:isA a nm=true) (hn:((nm==Y0)||(nm==Zbc)||(nm==Wa)||(nm==YT)||(nm==YE))=true):∃ b x y,a= .mk 3 nm 0 b [x,y]:=by
 obtain ⟨k,nm',s,b,kz⟩:=a
 simp only [isA,Bool.and_eq_true,decide_eq_true_eq,beq_iff_eq] at hp
 obtain ⟨rfl,rfl⟩:=hp
 simp only [Tm.okA,if_pos,Bool.and_eq_true,decide_eq_true_eq] at h
 obtain ⟨⟨rfl,h1⟩,_⟩:=h
 simp only [Zl2,Bool.and_eq_true,hn,if_true,decide_eq_true_eq] at h1
 match kz,h1.1 with
 | [x,y],_=>exact ⟨b,x,y,rfl⟩
theorem W4 (b:Bool) (x y:Tm):slV b 4 (Za [x,y])= .sl .none 4 [x.cells,y.cells]:=Zm _ _ _ _
theorem ZaA (b:Bool) (x:Tm):slV b 4 (Za [x])= .sl .none 4 [x.cells]:=Zm _ _ _ _
theorem ZlW (ha:a.okA=true) (b:Bool):∀ H,CallOk E0 Tryz.prog 72 [.agg (Tm.mk 3 Vw 0 b [a]).cells] H (.agg (Xl (.mk 3 Vw 0 b [a])).cells) H:=by
 have hi:=Zj4 a Y0
 have hd:Xl (.mk 3 Vw 0 b [a])=if isA a Y0=true then a.kd 0 else .mk 3 Vw 0 b [a]:=by
  unfold Xl Zb3
  simp [Zdp,Tm.nm,Tm.kd,Vw,Vg,W6,Yx,Yz,YU]
 rw [hd]
 cases hp:isA a Y0 with
 | true =>
   rw [hp] at hi
   obtain ⟨b1,x,y,rfl⟩:=Y7 ha hp rfl
   rw [if_pos rfl]
   show ∀ H,CallOk E0 Tryz.prog 72 _ H (.agg (Tm.cells x)) H
   obtain ⟨k1,n1,s1,f1,l1⟩:=x
   obtain ⟨k2,n2,s2,f2,l2⟩:=y
   simp only [Tm.cells,W4,ZaA,Vw,Y0] at hi ⊢
   refine Jw tOk fe72.ok (ZN _ _ _ _ _ _ _) ?_
   repeat' first|refine Jc (hi _) ?_|refine Jt ?_|refine Jo ?_|fail
   all_goals first
    | exact ZN _ _ _ _ _ _ _
    | (exfalso;simp at hb;done)
 | false =>
   rw [hp] at hi
   rw [if_neg (by decide)]
   obtain ⟨k1,n1,s1,f1,l1⟩:=a
   simp only [Tm.cells,ZaA,Vw] at hi ⊢
   refine Jw tOk fe72.ok rfl ?_
   repeat' first|refine Jc (hi _) ?_|refine Jt ?_|refine Jo ?_|fail
   all_goals first
    | rfl
    | (exfalso;simp at hb;done)
theorem Zmh (ha:a.okA=true) (b:Bool):∀ H,CallOk E0 Tryz.prog 72 [.agg (Tm.mk 3 Vg 0 b [a]).cells] H (.agg (Xl (.mk 3 Vg 0 b [a])).cells) H:=by
 have hi:=Zj4 a Y0
 have hd:Xl (.mk 3 Vg 0 b [a])=if isA a Y0=true then a.kd 1 else .mk 3 Vg 0 b [a]:=by
  unfold Xl Zb3
  simp [Zdp,Tm.nm,Tm.kd,Vw,Vg,W6,Yx,Yz,YU]
 rw [hd]
 cases hp:isA a Y0 with
 | true =>
   rw [hp] at hi
   obtain ⟨b1,x,y,rfl⟩:=Y7 ha hp rfl
   rw [if_pos rfl]
   show ∀ H,CallOk E0 Tryz.prog 72 _ H (.agg (Tm.cells y)) H
   obtain ⟨k1,n1,s1,f1,l1⟩:=x
   obtain ⟨k2,n2,s2,f2,l2⟩:=y
   simp only [Tm.cells,W4,ZaA,Vg,Y0] at hi ⊢
   refine Jw tOk fe72.ok (ZN _ _ _ _ _ _ _) ?_
   repeat' first|refine Jc (hi _) ?_|refine Jt ?_|refine Jo ?_|fail
   all_goals first
    | exact ZN _ _ _ _ _ _ _
    | (exfalso;simp at hb;done)
 | false =>
   rw [hp] at hi
   rw [if_neg (by decide)]
   obtain ⟨k1,n1,s1,f1,l1⟩:=a
   simp only [Tm.cells,ZaA,Vg] at hi ⊢
   refine Jw tOk fe72.ok rfl ?_
   repeat' first|refine Jc (hi _) ?_|refine Jt ?_|refine Jo ?_|fail
   all_goals first
    | rfl
    | (exfalso;simp at hb;done)
theorem Zjn (ha:a.okA=true) (b:Bool):∀ H,CallOk E0 Tryz.prog 72 [.agg (Tm.mk 3 YU 0 b [a]).cells] H (.agg (Xl (.mk 3 YU 0 b [a])).cells) H:=by
 have hi:=Zj4 a YT
 have hd:Xl (.mk 3 YU 0 b [a])=if isA a YT=true then a.kd 0 else .mk 3 YU 0 b [a]:=by
  unfold Xl Zb3
  simp [Zdp,Tm.nm,Tm.kd,Vw,Vg,W6,Yx,Yz,YU]
 rw [hd]
 cases hp:isA a YT with
 | true =>
   rw [hp] at hi
   obtain ⟨b1,x,y,rfl⟩:=Y7 ha hp rfl
   rw [if_pos rfl]
   show ∀ H,CallOk E0 Tryz.prog 72 _ H (.agg (Tm.cells x)) H
   obtain ⟨k1,n1,s1,f1,l1⟩:=x
   obtain ⟨k2,n2,s2,f2,l2⟩:=y
   simp only [Tm.cells,W4,ZaA,YU,YT] at hi ⊢
   refine Jw tOk fe72.ok (ZN _ _ _ _ _ _ _) ?_
   repeat' first|refine Jc (hi _) ?_|refine Jt ?_|refine Jo ?_|fail
   all_goals first
    | exact ZN _ _ _ _ _ _ _
    | (exfalso;simp at hb;done)
 | false =>
   rw [hp] at hi
   rw [if_neg (by decide)]
   obtain ⟨k1,n1,s1,f1,l1⟩:=a
   simp only [Tm.cells,ZaA,YU] at hi ⊢
   refine Jw tOk fe72.ok rfl ?_
   repeat' first|refine Jc (hi _) ?_|refine Jt ?_|refine Jo ?_|fail
   all_goals first
    | rfl
    | (exfalso;simp at hb;done)
theorem Vj {k:Int} {s:Int} {b:Bool} {kz:List Tm} (h:(Tm.mk k nm s b kz).Ok∧(Tm.mk k nm s b kz).size≤100000) {x:Tm} (hx:x∈kz):x.Ok∧x.size≤100000:=⟨h.1.kid hx,by
 have h1:=ZR hx
 have h2:=h.2
 rw [Tm.size] at h2
 omega⟩
theorem Zmg (ha:a.okA=true) (hk:key.okA=true) (ha':a.Ok∧a.size≤100000) (hk':key.Ok∧key.size≤100000) (b:Bool):∀ H,CallOk E0 Tryz.prog 72 [.agg (Tm.mk 3 W6 0 b [a,key]).cells] H (.agg (Xl (.mk 3 W6 0 b [a,key])).cells) H:=by
 have hi:=Zj4 a Zbc
 have hd:Xl (.mk 3 W6 0 b [a,key])=if (isA a Zbc&&decide ((a.kd 1).cmp key=0))=true then a.kd 0 else .mk 3 W6 0 b [a,key]:=by
  unfold Xl Zb3
  simp [Zdp,Tm.nm,Tm.kd,Vw,Vg,W6,Yx,Yz,YU]
 rw [hd]
 cases hp:isA a Zbc with
 | false =>
   rw [hp] at hi
   rw [if_neg (by simp)]
   obtain ⟨k1,n1,s1,f1,l1⟩:=a
   obtain ⟨k2,n2,s2,f2,l2⟩:=key
   simp only [Tm.cells,W4,W6] at hi ⊢
   refine Jw tOk fe72.ok rfl ?_
   repeat' first|refine Jt ?_|refine Jo ?_|(apply dK;rfl;rfl;rfl)|refine Jd (hi _) ?_|(apply dF (ty:=4);rfl;rfl;rfl;rfl)|refine Jh ?_|(apply Wp.draw tOk follows;kernel_rfl)|fail
   all_goals first
    | exact ZN _ _ _ _ _ _ _
    | rfl
    | (exfalso;simp at hb;done)
 | true =>
   rw [hp] at hi
   obtain ⟨b1,x,y,rfl⟩:=Y7 ha hp rfl
   have hs:=Zpy (Vj ha' (x:=y) (by simp)) hk'
   show ∀ H,CallOk E0 Tryz.prog 72 _ H (.agg (Tm.cells (if (true&&decide (y.cmp key=0))=true then x else _))) H
   rw [Bool.true_and]
   generalize decide (y.cmp key=0)=c at hs ⊢
   obtain ⟨k1,n1,s1,f1,l1⟩:=x
   obtain ⟨k2,n2,s2,f2,l2⟩:=y
   obtain ⟨k3,n3,s3,f3,l3⟩:=key
   cases c
   · rw [if_neg (by decide)]
     simp only [Tm.cells,W4,W6,Zbc] at hi hs ⊢
     refine Jw tOk fe72.ok rfl ?_
     repeat' first|refine Jt ?_|refine Jo ?_|refine Jd (hi _) ?_|refine Jd (hs _) ?_|(apply dT (ty:=4);rfl;rfl;rfl;rfl)|(apply dF (ty:=4);rfl;rfl;rfl;rfl)|refine Jh ?_|(apply Wp.draw tOk follows;kernel_rfl)|fail
     all_goals first
      | exact ZN _ _ _ _ _ _ _
      | rfl
      | (exfalso;simp at hb;done)
   · rw [if_pos rfl]
     simp only [Tm.cells,W4,W6,Zbc] at hi hs ⊢
     refine Jw tOk fe72.ok (ZN _ _ _ _ _ _ _) ?_
     repeat' first|refine Jt ?_|refine Jo ?_|refine Jd (hi _) ?_|refine Jd (hs _) ?_|(apply dT (ty:=4);rfl;rfl;rfl;rfl)|refine Jh ?_|(apply Wp.draw tOk follows;kernel_rfl)|fail
     all_goals first
      | exact ZN _ _ _ _ _ _ _
      | rfl
      | (exfalso;simp at hb;done)
theorem Zkz (ha:a.okA=true) (hk:key.okA=true) (ha':a.Ok∧a.size≤100000) (hk':key.Ok∧key.size≤100000) (b:Bool):∀ H,CallOk E0 Tryz.prog 72 [.agg (Tm.mk 3 Yx 0 b [a,key]).cells] H (.agg (Xl (.mk 3 Yx 0 b [a,key])).cells) H:=by
 have hi:=Zj4 a Wa
 have hd:Xl (.mk 3 Yx 0 b [a,key])=if (isA a Wa&&isA (a.kd 1) pkN&&decide (((a.kd 1).kd 0).cmp key=0))=true then a.kd 0 else .mk 3 Yx 0 b [a,key]:=by
  unfold Xl Zb3
  simp [Zdp,Tm.nm,Tm.kd,Vw,Vg,W6,Yx,Yz,YU]
 rw [hd]
 cases hp:isA a Wa with
 | false =>
   rw [hp] at hi
   rw [if_neg (by simp)]
   obtain ⟨k1,n1,s1,f1,l1⟩:=a
   obtain ⟨k2,n2,s2,f2,l2⟩:=key
   simp only [Tm.cells,W4,Yx] at hi ⊢
   refine Jw tOk fe72.ok rfl ?_
   repeat' first|refine Jt ?_|refine Jo ?_|(apply dK;rfl;rfl;rfl)|refine Jd (hi _) ?_|(apply dF (ty:=4);rfl;rfl;rfl;rfl)|refine Jh ?_|(apply Wp.draw tOk follows;kernel_rfl)|fail
   all_goals first
    | exact ZN _ _ _ _ _ _ _
    | rfl
    | (exfalso;simp at hb;done)
 | true =>
   rw [hp] at hi
   obtain ⟨b1,x,y,rfl⟩:=Y7 ha hp rfl
   have hy:=Vj ha' (x:=y) (by simp)
   have hyA:=VM ha y (by simp)
   have hj:=Zj4 y pkN
   show ∀ H,CallOk E0 Tryz.prog 72 _ H (.agg (Tm.cells (if (true&&isA y pkN&&decide ((y.kd 0).cmp key=0))=true then x else _))) H
   rw [Bool.true_and]
   cases hq:isA y pkN with
   | false =>
     rw [hq] at hj
     rw [if_neg (by simp)]
     obtain ⟨k1,n1,s1,f1,l1⟩:=x
     obtain ⟨k2,n2,s2,f2,l2⟩:=y
     obtain ⟨k3,n3,s3,f3,l3⟩:=key
     simp only [Tm.cells,W4,Yx,Wa] at hi hj ⊢
     refine Jw tOk fe72.ok rfl ?_
     repeat' first|refine Jt ?_|refine Jo ?_|(apply dK;rfl;rfl;rfl)|refine Jd (hi _) ?_|refine Jd (hj _) ?_|(apply dT (ty:=4);rfl;rfl;rfl;rfl)|(apply dF (ty:=4);rfl;rfl;rfl;rfl)|refine Jh ?_|(apply Wp.draw tOk follows;kernel_rfl)|fail
     all_goals first
      | exact ZN _ _ _ _ _ _ _
      | rfl
      | (exfalso;simp at hb;done)
   | true =>
     rw [hq] at hj
     obtain ⟨b2,z,rfl⟩:=Zit hyA hq
     have hs:=Zpy (Vj hy (x:=z) (by simp)) hk'
     rw [Bool.true_and]
     show ∀ H,CallOk E0 Tryz.prog 72 _ H (.agg (Tm.cells (if decide (z.cmp key=0)=true then x else _))) H
     generalize decide (z.cmp key=0)=c at hs ⊢
     obtain ⟨k1,n1,s1,f1,l1⟩:=x
     obtain ⟨k2,n2,s2,f2,l2⟩:=z
     obtain ⟨k3,n3,s3,f3,l3⟩:=key
     cases c
     · rw [if_neg (by decide)]
       simp only [Tm.cells,W4,ZaA,Yx,Wa,pkN] at hi hj hs ⊢
       refine Jw tOk fe72.ok rfl ?_
       repeat' first|refine Jt ?_|refine Jo ?_|(apply dCl;rfl;rfl;rfl;rfl;rfl;first|exact hi _|exact hj _|exact hs _)|(apply dT (ty:=4);rfl;rfl;rfl;rfl)|(apply dF (ty:=4);rfl;rfl;rfl;rfl)|refine Jh ?_|(apply Wp.draw tOk follows;kernel_rfl)|fail
       all_goals first
        | exact ZN _ _ _ _ _ _ _
        | rfl
        | (exfalso;simp at hb;done)
     · rw [if_pos rfl]
       simp only [Tm.cells,W4,ZaA,Yx,Wa,pkN] at hi hj hs ⊢
       refine Jw tOk fe72.ok (ZN _ _ _ _ _ _ _) ?_
       repeat' first|refine Jt ?_|refine Jo ?_|(apply dCl;rfl;rfl;rfl;rfl;rfl;first|exact hi _|exact hj _|exact hs _)|(apply dT (ty:=4);rfl;rfl;rfl;rfl)|refine Jh ?_|(apply Wp.draw tOk follows;kernel_rfl)|fail
       all_goals first
        | exact ZN _ _ _ _ _ _ _
        | rfl
        | (exfalso;simp at hb;done)
theorem Zj7 (ha:a.okA=true) (hk:key.okA=true) (ha':a.Ok∧a.size≤100000) (hk':key.Ok∧key.size≤100000) (b:Bool):∀ H,CallOk E0 Tryz.prog 72 [.agg (Tm.mk 3 Yz 0 b [a,key]).cells] H (.agg (Xl (.mk 3 Yz 0 b [a,key])).cells) H:=by
 have hi:=Zj4 a YT
 have hd:Xl (.mk 3 Yz 0 b [a,key])=if (isA a YT&&isA key pkN&&decide ((a.kd 1).cmp (key.kd 0)=0))=true then a.kd 0 else .mk 3 Yz 0 b [a,key]:=by
  unfold Xl Zb3
  simp [Zdp,Tm.nm,Tm.kd,Vw,Vg,W6,Yx,Yz,YU]
 rw [hd]
 cases hp:isA a YT with
 | false =>
   rw [hp] at hi
   rw [if_neg (by simp)]
   obtain ⟨k1,n1,s1,f1,l1⟩:=a
   obtain ⟨k2,n2,s2,f2,l2⟩:=key
   simp only [Tm.cells,W4,Yz] at hi ⊢
   refine Jw tOk fe72.ok rfl ?_
   repeat' first|refine Jt ?_|refine Jo ?_|(apply dK;rfl;rfl;rfl)|refine Jd (hi _) ?_|(apply dF (ty:=4);rfl;rfl;rfl;rfl)|refine Jh ?_|(apply Wp.draw tOk follows;kernel_rfl)|fail
   all_goals first
    | exact ZN _ _ _ _ _ _ _
    | rfl
    | (exfalso;simp at hb;done)
 | true =>
   rw [hp] at hi
   obtain ⟨b1,x,y,rfl⟩:=Y7 ha hp rfl
   have hj:=Zj4 key pkN
   show ∀ H,CallOk E0 Tryz.prog 72 _ H (.agg (Tm.cells (if (true&&isA key pkN&&decide (y.cmp (key.kd 0)=0))=true then x else _))) H
   rw [Bool.true_and]
   cases hq:isA key pkN with
   | false =>
     rw [hq] at hj
     rw [if_neg (by simp)]
     obtain ⟨k1,n1,s1,f1,l1⟩:=x
     obtain ⟨k2,n2,s2,f2,l2⟩:=y
     obtain ⟨k3,n3,s3,f3,l3⟩:=key
     simp only [Tm.cells,W4,Yz,YT] at hi hj ⊢
     refine Jw tOk fe72.ok rfl ?_
     repeat' first|refine Jt ?_|refine Jo ?_|(apply dK;rfl;rfl;rfl)|refine Jd (hi _) ?_|refine Jd (hj _) ?_|(apply dT (ty:=4);rfl;rfl;rfl;rfl)|(apply dF (ty:=4);rfl;rfl;rfl;rfl)|refine Jh ?_|(apply Wp.draw tOk follows;kernel_rfl)|fail
     all_goals first
      | exact ZN _ _ _ _ _ _ _
      | rfl
      | (exfalso;simp at hb;done)
   | true =>
     rw [hq] at hj
     obtain ⟨b2,z,rfl⟩:=Zit hk hq
     have hs:=Zpy (Vj ha' (x:=y) (by simp)) (Vj hk' (x:=z) (by simp))
     rw [Bool.true_and]
     show ∀ H,CallOk E0 Tryz.prog 72 _ H (.agg (Tm.cells (if decide (y.cmp z=0)=true then x else _))) H
     generalize decide (y.cmp z=0)=c at hs ⊢
     obtain ⟨k1,n1,s1,f1,l1⟩:=x
     obtain ⟨k2,n2,s2,f2,l2⟩:=y
     obtain ⟨k3,n3,s3,f3,l3⟩:=z
     cases c
     · rw [if_neg (by decide)]
       simp only [Tm.cells,W4,ZaA,Yz,YT,pkN] at hi hj hs ⊢
       refine Jw tOk fe72.ok rfl ?_
       repeat' first|refine Jt ?_|refine Jo ?_|(apply dCl;rfl;rfl;rfl;rfl;rfl;first|exact hi _|exact hj _|exact hs _)|(apply dT (ty:=4);rfl;rfl;rfl;rfl)|(apply dF (ty:=4);rfl;rfl;rfl;rfl)|refine Jh ?_|(apply Wp.draw tOk follows;kernel_rfl)|fail
       all_goals first
        | exact ZN _ _ _ _ _ _ _
        | rfl
        | (exfalso;simp at hb;done)
     · rw [if_pos rfl]
       simp only [Tm.cells,W4,ZaA,Yz,YT,pkN] at hi hj hs ⊢
       refine Jw tOk fe72.ok (ZN _ _ _ _ _ _ _) ?_
       repeat' first|refine Jt ?_|refine Jo ?_|(apply dCl;rfl;rfl;rfl;rfl;rfl;first|exact hi _|exact hj _|exact hs _)|(apply dT (ty:=4);rfl;rfl;rfl;rfl)|refine Jh ?_|(apply Wp.draw tOk follows;kernel_rfl)|fail
       all_goals first
        | exact ZN _ _ _ _ _ _ _
        | rfl
        | (exfalso;simp at hb;done)
theorem ZrA {l:List α} (h:l.length=1):∃ a,l= [a]:=by
 match l,h with
 | [a],_=>exact ⟨a,rfl⟩
theorem Zpk {l:List α} (h:l.length=2):∃ a b,l= [a,b]:=by
 match l,h with
 | [a,b],_=>exact ⟨a,b,rfl⟩
theorem Za2 (h:(Yo nm).kind=3):((nm=Vw∨nm=Vg∨nm=YU)∧(Yo nm).least=1∧(Yo nm).most=1)∨((nm=W6∨nm=Yx∨nm=Yz)∧(Yo nm).least=2∧(Yo nm).most=2):=by
 rcases Q2 nm with e|⟨e1,e2⟩
 · rw [e] at h;exact absurd h (by decide)
 · rw [← e2]
   rw [e2]
   revert h
   have e3:=e2
   generalize Yo nm=s at e1 e2 e3 ⊢
   simp only [Zac,List.mem_cons,List.not_mem_nil,or_false] at e1
   rcases e1 with rfl|rfl|rfl|rfl|rfl|rfl|rfl|rfl|rfl|rfl|rfl|rfl|rfl|rfl|rfl|rfl|rfl|rfl|rfl|rfl|rfl<;>intro h<;>first|exact absurd h (by decide)|(subst e2;first|exact .inl ⟨.inl rfl,rfl,rfl⟩|exact .inl ⟨.inr (.inl rfl),rfl,rfl⟩|exact .inl ⟨.inr (.inr rfl),rfl,rfl⟩|exact .inr ⟨.inl rfl,rfl,rfl⟩|exact .inr ⟨.inr (.inl rfl),rfl,rfl⟩|exact .inr ⟨.inr (.inr rfl),rfl,rfl⟩)
theorem c72 {ks:List Tm} (h0:(Yo nm).kind=3) (h1:(Yo nm).least≤ks.length) (h2:(ks.length:Int)≤(Yo nm).most) (hA:∀ x,x∈ks→x.okA=true) (hS:SmL ks) (b:Bool):∀ H,CallOk E0 Tryz.prog 72 [.agg (Tm.mk 3 nm 0 b ks).cells] H (.agg (Xl (.mk 3 nm 0 b ks)).cells) H:=by
 rcases Za2 h0 with ⟨hn,e1,e2⟩|⟨hn,e1,e2⟩
 · rw [e1] at h1
   rw [e2] at h2
   obtain ⟨a,rfl⟩:=ZrA (l:=ks) (by omega)
   have ha:=hA a (by simp)
   rcases hn with rfl|rfl|rfl
   · exact ZlW ha b
   · exact Zmh ha b
   · exact Zjn ha b
 · rw [e1] at h1
   rw [e2] at h2
   obtain ⟨a,key,rfl⟩:=Zpk (l:=ks) (by omega)
   have ha:=hA a (by simp)
   have hk:=hA key (by simp)
   have ha':=hS a (by simp)
   have hk':=hS key (by simp)
   rcases hn with rfl|rfl|rfl
   · exact Zmg ha hk ha' hk' b
   · exact Zkz ha hk ha' hk' b
   · exact Zj7 ha hk ha' hk' b
theorem isR (t:Tm) (w:Bs):∀ H,CallOk E0 Tryz.prog 181 [.agg t.cells,.str w] H (.bool (isA t w)) H:=by
 obtain ⟨k,nm,s,b,kz⟩:=t
 have e:isF k nm w=isA (.mk k nm s b kz) w:=rfl
 rw [← e]
 exact Zs0 k nm s b kz w
theorem Z5 (m:Nat) (H:Heap) (k:Int) (nm:Bs) (s:Int) (b:Bool) (l:List (List PV)) (x:Bool):frz3 m H (.tup [.agg [.int .i64 k,.str nm,.int .i64 s,slV b 4 l],.bool x])=some (.tup [.agg [.int .i64 k,.str nm,.int .i64 s,slV b 4 l],.bool x]):=by
 rw [Xx]
 simp only [Vq,frz2,Wf,Wl]
 rfl
theorem Zj9 (ha:a.okA=true) (b:Bool):∀ H,CallOk E0 Tryz.prog 150 [.agg (Tm.mk 3 Vw 0 b [a]).cells] H (.tup [.agg (Xl (.mk 3 Vw 0 b [a])).cells,.bool (isA a Y0)]) H:=by
 have hi:=isR a Y0
 have hd:Xl (.mk 3 Vw 0 b [a])=if isA a Y0=true then a.kd 0 else .mk 3 Vw 0 b [a]:=by
  unfold Xl Zb3
  simp [Zdp,Tm.nm,Tm.kd,Vw,Vg,W6,Yx,Yz,YU]
 rw [hd]
 cases hp:isA a Y0 with
 | true =>
   rw [hp] at hi
   obtain ⟨b1,x,y,rfl⟩:=Y7 ha hp rfl
   rw [if_pos rfl]
   show ∀ H,CallOk E0 Tryz.prog 150 _ H (.tup [.agg (Tm.cells x),.bool true]) H
   obtain ⟨k1,n1,s1,f1,l1⟩:=x
   obtain ⟨k2,n2,s2,f2,l2⟩:=y
   simp only [Tm.cells,W4,ZaA,Vw,Y0] at hi ⊢
   refine Jw tOk fe150.ok (Z5 _ _ _ _ _ _ _ _) ?_
   repeat' first|refine Jc (hi _) ?_|refine Jt ?_|refine Jo ?_|fail
   all_goals first
    | exact Z5 _ _ _ _ _ _ _ _
    | (exfalso;simp at hb;done)
 | false =>
   rw [hp] at hi
   rw [if_neg (by decide)]
   obtain ⟨k1,n1,s1,f1,l1⟩:=a
   simp only [Tm.cells,ZaA,Vw] at hi ⊢
   refine Jw tOk fe150.ok rfl ?_
   repeat' first|refine Jk ?_|refine Jc (hi _) ?_|refine Jt ?_|refine Jo ?_|(apply dK;rfl;rfl;rfl)|(apply dF (ty:=4);rfl;rfl;rfl;rfl)|refine Jh ?_|(apply Wp.draw tOk follows;kernel_rfl)|fail
   all_goals first
    | rfl
    | (exfalso;simp at hb;done)
theorem ZjQ (ha:a.okA=true) (b:Bool):∀ H,CallOk E0 Tryz.prog 150 [.agg (Tm.mk 3 Vg 0 b [a]).cells] H (.tup [.agg (Xl (.mk 3 Vg 0 b [a])).cells,.bool (isA a Y0)]) H:=by
 have hi:=isR a Y0
 have hd:Xl (.mk 3 Vg 0 b [a])=if isA a Y0=true then a.kd 1 else .mk 3 Vg 0 b [a]:=by
  unfold Xl Zb3
  simp [Zdp,Tm.nm,Tm.kd,Vw,Vg,W6,Yx,Yz,YU]
 rw [hd]
 cases hp:isA a Y0 with
 | true =>
   rw [hp] at hi
   obtain ⟨b1,x,y,rfl⟩:=Y7 ha hp rfl
   rw [if_pos rfl]
   show ∀ H,CallOk E0 Tryz.prog 150 _ H (.tup [.agg (Tm.cells y),.bool true]) H
   obtain ⟨k1,n1,s1,f1,l1⟩:=x
   obtain ⟨k2,n2,s2,f2,l2⟩:=y
   simp only [Tm.cells,W4,ZaA,Vg,Y0] at hi ⊢
   refine Jw tOk fe150.ok (Z5 _ _ _ _ _ _ _ _) ?_
   repeat' first|refine Jk ?_|refine Jc (hi _) ?_|refine Jt ?_|refine Jo ?_|fail
   all_goals first
    | exact Z5 _ _ _ _ _ _ _ _
    | (exfalso;simp at hb;done)
 | false =>
   rw [hp] at hi
   rw [if_neg (by decide)]
   obtain ⟨k1,n1,s1,f1,l1⟩:=a
   simp only [Tm.cells,ZaA,Vg] at hi ⊢
   refine Jw tOk fe150.ok rfl ?_
   repeat' first|refine Jk ?_|refine Jc (hi _) ?_|refine Jt ?_|refine Jo ?_|(apply dK;rfl;rfl;rfl)|(apply dF (ty:=4);rfl;rfl;rfl;rfl)|refine Jh ?_|(apply Wp.draw tOk follows;kernel_rfl)|fail
   all_goals first
    | rfl
    | (exfalso;simp at hb;done)
theorem Ziz (ha:a.okA=true) (b:Bool):∀ H,CallOk E0 Tryz.prog 150 [.agg (Tm.mk 3 YU 0 b [a]).cells] H (.tup [.agg (Xl (.mk 3 YU 0 b [a])).cells,.bool (isA a YT)]) H:=by
 have hi:=isR a YT
 have hd:Xl (.mk 3 YU 0 b [a])=if isA a YT=true then a.kd 0 else .mk 3 YU 0 b [a]:=by
  unfold Xl Zb3
  simp [Zdp,Tm.nm,Tm.kd,Vw,Vg,W6,Yx,Yz,YU]
 rw [hd]
 cases hp:isA a YT with
 | true =>
   rw [hp] at hi
   obtain ⟨b1,x,y,rfl⟩:=Y7 ha hp rfl
   rw [if_pos rfl]
   show ∀ H,CallOk E0 Tryz.prog 150 _ H (.tup [.agg (Tm.cells x),.bool true]) H
   obtain ⟨k1,n1,s1,f1,l1⟩:=x
   obtain ⟨k2,n2,s2,f2,l2⟩:=y
   simp only [Tm.cells,W4,ZaA,YU,YT] at hi ⊢
   refine Jw tOk fe150.ok (Z5 _ _ _ _ _ _ _ _) ?_
   repeat' first|refine Jk ?_|refine Jc (hi _) ?_|refine Jt ?_|refine Jo ?_|(apply dK;rfl;rfl;rfl)|(apply dF (ty:=4);rfl;rfl;rfl;rfl)|refine Jh ?_|(apply Wp.draw tOk follows;kernel_rfl)|fail
   all_goals first
    | exact Z5 _ _ _ _ _ _ _ _
    | (exfalso;simp at hb;done)
 | false =>
   rw [hp] at hi
   rw [if_neg (by decide)]
   obtain ⟨k1,n1,s1,f1,l1⟩:=a
   simp only [Tm.cells,ZaA,YU] at hi ⊢
   refine Jw tOk fe150.ok rfl ?_
   repeat' first|refine Jk ?_|refine Jc (hi _) ?_|refine Jt ?_|refine Jo ?_|(apply dK;rfl;rfl;rfl)|(apply dF (ty:=4);rfl;rfl;rfl;rfl)|refine Jh ?_|(apply Wp.draw tOk follows;kernel_rfl)|fail
   all_goals first
    | rfl
    | (exfalso;simp at hb;done)
theorem Zd3 {u:Tm} (ht:t.Ok∧t.size≤200000) (hu:u.Ok∧u.size≤200000):∀ H,CallOk E0 Tryz.prog 44 [.agg t.cells,.agg u.cells] H (.bool (decide (t.cmp u=0))) H:=by
 have hc:∀ H,CallOk E0 Tryz.prog 81 [.agg t.cells,.agg u.cells] H (.int .i64 (t.cmp u)) H:=fun H=>Zpl (d81 ht.1 hu.1 (by have:=ht.2;omega) (by have:=hu.2;omega) H)
 generalize t.cmp u=c at hc ⊢
 obtain ⟨k,nm,s,b,kz⟩:=t
 obtain ⟨k',nm',s',b',kz'⟩:=u
 simp only [Tm.cells] at hc ⊢
 refine Jw tOk fe44.ok rfl ?_
 repeat' first|refine Jc (hc _) ?_|refine Jt ?_|refine Jb ?_ ?_|refine Jo ?_|intro hb
 all_goals simp_all
theorem up2 (h:t.Ok∧t.size≤100000):t.Ok∧t.size≤200000:=⟨h.1,Nat.le_trans h.2 (by decide)⟩
theorem Zkg (ha:a.okA=true) (ha':a.Ok∧a.size≤100000) (hk':key.Ok∧key.size≤100000) (b:Bool):∀ H,CallOk E0 Tryz.prog 150 [.agg (Tm.mk 3 W6 0 b [a,key]).cells] H (.tup [.agg (Xl (.mk 3 W6 0 b [a,key])).cells,.bool (isA a Zbc&&decide ((a.kd 1).cmp key=0))]) H:=by
 have hi:=isR a Zbc
 have hd:Xl (.mk 3 W6 0 b [a,key])=if (isA a Zbc&&decide ((a.kd 1).cmp key=0))=true then a.kd 0 else .mk 3 W6 0 b [a,key]:=by
  unfold Xl Zb3
  simp [Zdp,Tm.nm,Tm.kd,Vw,Vg,W6,Yx,Yz,YU]
 rw [hd]
 cases hp:isA a Zbc with
 | false =>
   rw [hp] at hi
   rw [if_neg (by simp),Bool.false_and]
   obtain ⟨k1,n1,s1,f1,l1⟩:=a
   obtain ⟨k2,n2,s2,f2,l2⟩:=key
   simp only [Tm.cells,W4,W6] at hi ⊢
   refine Jw tOk fe150.ok rfl ?_
   repeat' first|refine Jk ?_|refine Jt ?_|refine Jo ?_|(apply dK;rfl;rfl;rfl)|refine Jd (hi _) ?_|(apply dT (ty:=4);rfl;rfl;rfl;rfl)|(apply dF (ty:=4);rfl;rfl;rfl;rfl)|refine Jh ?_|(apply Wp.draw tOk follows;kernel_rfl)|fail
   all_goals first
    | exact Z5 _ _ _ _ _ _ _ _
    | rfl
    | (exfalso;simp at hb;done)
 | true =>
   rw [hp] at hi
   obtain ⟨b1,x,y,rfl⟩:=Y7 ha hp rfl
   have hs:=Zd3 (up2 (Vj ha' (x:=y) (by simp))) (up2 hk')
   show ∀ H,CallOk E0 Tryz.prog 150 _ H (.tup [.agg (Tm.cells (if (true&&decide (y.cmp key=0))=true then x else _)),.bool (true&&decide (y.cmp key=0))]) H
   rw [Bool.true_and]
   generalize decide (y.cmp key=0)=c at hs ⊢
   obtain ⟨k1,n1,s1,f1,l1⟩:=x
   obtain ⟨k2,n2,s2,f2,l2⟩:=y
   obtain ⟨k3,n3,s3,f3,l3⟩:=key
   cases c
   · rw [if_neg (by decide)]
     simp only [Tm.cells,W4,W6,Zbc] at hi hs ⊢
     refine Jw tOk fe150.ok rfl ?_
     repeat' first|refine Jk ?_|refine Jt ?_|refine Jo ?_|(apply dK;rfl;rfl;rfl)|refine Jd (hi _) ?_|refine Jd (hs _) ?_|(apply dT (ty:=4);rfl;rfl;rfl;rfl)|(apply dF (ty:=4);rfl;rfl;rfl;rfl)|refine Jh ?_|(apply Wp.draw tOk follows;kernel_rfl)|fail
     all_goals first
      | exact Z5 _ _ _ _ _ _ _ _
      | rfl
      | (exfalso;simp at hb;done)
   · rw [if_pos rfl]
     simp only [Tm.cells,W4,W6,Zbc] at hi hs ⊢
     refine Jw tOk fe150.ok (Z5 _ _ _ _ _ _ _ _) ?_
     repeat' first|refine Jk ?_|refine Jt ?_|refine Jo ?_|refine Jd (hi _) ?_|refine Jd (hs _) ?_|(apply dT (ty:=4);rfl;rfl;rfl;rfl)|refine Jh ?_|(apply Wp.draw tOk follows;kernel_rfl)|fail
     all_goals first
      | exact Z5 _ _ _ _ _ _ _ _
      | rfl
      | (exfalso;simp at hb;done)
