/-
  Destructors: the second text's decryption and opening.
-/
import Derived.Test.YtcopccjkfbmpcaaGreatDoorNd
set_option maxHeartbeats 0
set_option maxRecDepth 100000
namespace Go.Vm.Seat
variable {a key t:Tm} {nm:Bs} {α:Type}
open Go.Proofs
theorem Xp (h:a.okA=true) (hp:isA a nm=true) (hn:((nm==Xf)||(nm==Zb8)||(nm==Wy)||(nm==Y9)||(nm==YT))=true):∃ b x y,a= .mk 3 nm 0 b [x,y]:=by
 obtain ⟨k,nm',s,b,kz⟩:=a
 simp only [isA,Bool.and_eq_true,decide_eq_true_eq,beq_iff_eq] at hp
 obtain ⟨rfl,rfl⟩:=hp
 simp only [Tm.okA,if_pos,Bool.and_eq_true,decide_eq_true_eq] at h
 obtain ⟨⟨rfl,h1⟩,_⟩:=h
 simp only [Zo5,Bool.and_eq_true,hn,if_true,decide_eq_true_eq] at h1
 match kz,h1.1 with
 | [x,y],_=>exact ⟨b,x,y,rfl⟩
theorem VQ (b:Bool) (x y:Tm):slV b 4 (Za [x,y])= .sl .none 4 [x.cells,y.cells]:=Zm _ _ _ _
theorem ZbJ (b:Bool) (x:Tm):slV b 4 (Za [x])= .sl .none 4 [x.cells]:=Zm _ _ _ _
theorem ZoS (ha:a.okA=true) (b:Bool):∀ H,CallOk E0 Tryz.prog 206 [.agg (Tm.mk 3 Um 0 b [a]).cells] H (.agg (Xz (.mk 3 Um 0 b [a])).cells) H:=by
 have hi:=Zmr a Xf
 have hd:Xz (.mk 3 Um 0 b [a])=if isA a Xf=true then a.kd 0 else .mk 3 Um 0 b [a]:=by
  unfold Xz Zdb
  simp [ZeA,Tm.nm,Tm.kd,Um,V5,VY,YQ,YO,Y7]
 rw [hd]
 cases hp:isA a Xf with
 | true =>
   rw [hp] at hi
   obtain ⟨b1,x,y,rfl⟩:=Xp ha hp rfl
   rw [if_pos rfl]
   show ∀ H,CallOk E0 Tryz.prog 206 _ H (.agg (Tm.cells x)) H
   obtain ⟨k1,n1,s1,f1,l1⟩:=x
   obtain ⟨k2,n2,s2,f2,l2⟩:=y
   simp only [Tm.cells,VQ,ZbJ,Um,Xf] at hi ⊢
   refine Jw tOk fe206.ok (ZS _ _ _ _ _ _ _) ?_
   repeat' first|refine Jc (hi _) ?_|refine Jt ?_|refine Jo ?_|fail
   all_goals first
    | exact ZS _ _ _ _ _ _ _
    | (exfalso;simp at hb;done)
 | false =>
   rw [hp] at hi
   rw [if_neg (by decide)]
   obtain ⟨k1,n1,s1,f1,l1⟩:=a
   simp only [Tm.cells,ZbJ,Um] at hi ⊢
   refine Jw tOk fe206.ok rfl ?_
   repeat' first|refine Jc (hi _) ?_|refine Jt ?_|refine Jo ?_|fail
   all_goals first
    | rfl
    | (exfalso;simp at hb;done)
theorem Zo1 (ha:a.okA=true) (b:Bool):∀ H,CallOk E0 Tryz.prog 206 [.agg (Tm.mk 3 V5 0 b [a]).cells] H (.agg (Xz (.mk 3 V5 0 b [a])).cells) H:=by
 have hi:=Zmr a Xf
 have hd:Xz (.mk 3 V5 0 b [a])=if isA a Xf=true then a.kd 1 else .mk 3 V5 0 b [a]:=by
  unfold Xz Zdb
  simp [ZeA,Tm.nm,Tm.kd,Um,V5,VY,YQ,YO,Y7]
 rw [hd]
 cases hp:isA a Xf with
 | true =>
   rw [hp] at hi
   obtain ⟨b1,x,y,rfl⟩:=Xp ha hp rfl
   rw [if_pos rfl]
   show ∀ H,CallOk E0 Tryz.prog 206 _ H (.agg (Tm.cells y)) H
   obtain ⟨k1,n1,s1,f1,l1⟩:=x
   obtain ⟨k2,n2,s2,f2,l2⟩:=y
   simp only [Tm.cells,VQ,ZbJ,V5,Xf] at hi ⊢
   refine Jw tOk fe206.ok (ZS _ _ _ _ _ _ _) ?_
   repeat' first|refine Jc (hi _) ?_|refine Jt ?_|refine Jo ?_|fail
   all_goals first
    | exact ZS _ _ _ _ _ _ _
    | (exfalso;simp at hb;done)
 | false =>
   rw [hp] at hi
   rw [if_neg (by decide)]
   obtain ⟨k1,n1,s1,f1,l1⟩:=a
   simp only [Tm.cells,ZbJ,V5] at hi ⊢
   refine Jw tOk fe206.ok rfl ?_
   repeat' first|refine Jc (hi _) ?_|refine Jt ?_|refine Jo ?_|fail
   all_goals first
    | rfl
    | (exfalso;simp at hb;done)
theorem ZkW (ha:a.okA=true) (b:Bool):∀ H,CallOk E0 Tryz.prog 206 [.agg (Tm.mk 3 Y7 0 b [a]).cells] H (.agg (Xz (.mk 3 Y7 0 b [a])).cells) H:=by
 have hi:=Zmr a Y9
 have hd:Xz (.mk 3 Y7 0 b [a])=if isA a Y9=true then a.kd 0 else .mk 3 Y7 0 b [a]:=by
  unfold Xz Zdb
  simp [ZeA,Tm.nm,Tm.kd,Um,V5,VY,YQ,YO,Y7]
 rw [hd]
 cases hp:isA a Y9 with
 | true =>
   rw [hp] at hi
   obtain ⟨b1,x,y,rfl⟩:=Xp ha hp rfl
   rw [if_pos rfl]
   show ∀ H,CallOk E0 Tryz.prog 206 _ H (.agg (Tm.cells x)) H
   obtain ⟨k1,n1,s1,f1,l1⟩:=x
   obtain ⟨k2,n2,s2,f2,l2⟩:=y
   simp only [Tm.cells,VQ,ZbJ,Y7,Y9] at hi ⊢
   refine Jw tOk fe206.ok (ZS _ _ _ _ _ _ _) ?_
   repeat' first|refine Jc (hi _) ?_|refine Jt ?_|refine Jo ?_|fail
   all_goals first
    | exact ZS _ _ _ _ _ _ _
    | (exfalso;simp at hb;done)
 | false =>
   rw [hp] at hi
   rw [if_neg (by decide)]
   obtain ⟨k1,n1,s1,f1,l1⟩:=a
   simp only [Tm.cells,ZbJ,Y7] at hi ⊢
   refine Jw tOk fe206.ok rfl ?_
   repeat' first|refine Jc (hi _) ?_|refine Jt ?_|refine Jo ?_|fail
   all_goals first
    | rfl
    | (exfalso;simp at hb;done)
theorem V6 {k:Int} {s:Int} {b:Bool} {kz:List Tm} (h:(Tm.mk k nm s b kz).Ok∧(Tm.mk k nm s b kz).size≤100000) {x:Tm} (hx:x∈kz):x.Ok∧x.size≤100000:=⟨h.1.kid hx,by
 have h1:=Z7 hx
 have h2:=h.2
 rw [Tm.size] at h2
 omega⟩
theorem ZoQ (ha:a.okA=true) (hk:key.okA=true) (ha':a.Ok∧a.size≤100000) (hk':key.Ok∧key.size≤100000) (b:Bool):∀ H,CallOk E0 Tryz.prog 206 [.agg (Tm.mk 3 VY 0 b [a,key]).cells] H (.agg (Xz (.mk 3 VY 0 b [a,key])).cells) H:=by
 have hi:=Zmr a Zb8
 have hd:Xz (.mk 3 VY 0 b [a,key])=if (isA a Zb8&&decide ((a.kd 1).cmp key=0))=true then a.kd 0 else .mk 3 VY 0 b [a,key]:=by
  unfold Xz Zdb
  simp [ZeA,Tm.nm,Tm.kd,Um,V5,VY,YQ,YO,Y7]
 rw [hd]
 cases hp:isA a Zb8 with
 | false =>
   rw [hp] at hi
   rw [if_neg (by simp)]
   obtain ⟨k1,n1,s1,f1,l1⟩:=a
   obtain ⟨k2,n2,s2,f2,l2⟩:=key
   simp only [Tm.cells,VQ,VY] at hi ⊢
   refine Jw tOk fe206.ok rfl ?_
   repeat' first|refine Jt ?_|refine Jo ?_|(apply dK;rfl;rfl;rfl)|refine Jd (hi _) ?_|(apply dF (ty:=4);rfl;rfl;rfl;rfl)|refine Jh ?_|(apply Wp.draw tOk follows;kernel_rfl)|fail
   all_goals first
    | exact ZS _ _ _ _ _ _ _
    | rfl
    | (exfalso;simp at hb;done)
 | true =>
   rw [hp] at hi
   obtain ⟨b1,x,y,rfl⟩:=Xp ha hp rfl
   have hs:=Zrv (V6 ha' (x:=y) (by simp)) hk'
   show ∀ H,CallOk E0 Tryz.prog 206 _ H (.agg (Tm.cells (if (true&&decide (y.cmp key=0))=true then x else _))) H
   rw [Bool.true_and]
   generalize decide (y.cmp key=0)=c at hs ⊢
   obtain ⟨k1,n1,s1,f1,l1⟩:=x
   obtain ⟨k2,n2,s2,f2,l2⟩:=y
   obtain ⟨k3,n3,s3,f3,l3⟩:=key
   cases c
   · rw [if_neg (by decide)]
     simp only [Tm.cells,VQ,VY,Zb8] at hi hs ⊢
     refine Jw tOk fe206.ok rfl ?_
     repeat' first|refine Jt ?_|refine Jo ?_|refine Jd (hi _) ?_|refine Jd (hs _) ?_|(apply dT (ty:=4);rfl;rfl;rfl;rfl)|(apply dF (ty:=4);rfl;rfl;rfl;rfl)|refine Jh ?_|(apply Wp.draw tOk follows;kernel_rfl)|fail
     all_goals first
      | exact ZS _ _ _ _ _ _ _
      | rfl
      | (exfalso;simp at hb;done)
   · rw [if_pos rfl]
     simp only [Tm.cells,VQ,VY,Zb8] at hi hs ⊢
     refine Jw tOk fe206.ok (ZS _ _ _ _ _ _ _) ?_
     repeat' first|refine Jt ?_|refine Jo ?_|refine Jd (hi _) ?_|refine Jd (hs _) ?_|(apply dT (ty:=4);rfl;rfl;rfl;rfl)|refine Jh ?_|(apply Wp.draw tOk follows;kernel_rfl)|fail
     all_goals first
      | exact ZS _ _ _ _ _ _ _
      | rfl
      | (exfalso;simp at hb;done)
theorem Zlu (ha:a.okA=true) (hk:key.okA=true) (ha':a.Ok∧a.size≤100000) (hk':key.Ok∧key.size≤100000) (b:Bool):∀ H,CallOk E0 Tryz.prog 206 [.agg (Tm.mk 3 YQ 0 b [a,key]).cells] H (.agg (Xz (.mk 3 YQ 0 b [a,key])).cells) H:=by
 have hi:=Zmr a Wy
 have hd:Xz (.mk 3 YQ 0 b [a,key])=if (isA a Wy&&isA (a.kd 1) pkN&&decide (((a.kd 1).kd 0).cmp key=0))=true then a.kd 0 else .mk 3 YQ 0 b [a,key]:=by
  unfold Xz Zdb
  simp [ZeA,Tm.nm,Tm.kd,Um,V5,VY,YQ,YO,Y7]
 rw [hd]
 cases hp:isA a Wy with
 | false =>
   rw [hp] at hi
   rw [if_neg (by simp)]
   obtain ⟨k1,n1,s1,f1,l1⟩:=a
   obtain ⟨k2,n2,s2,f2,l2⟩:=key
   simp only [Tm.cells,VQ,YQ] at hi ⊢
   refine Jw tOk fe206.ok rfl ?_
   repeat' first|refine Jt ?_|refine Jo ?_|(apply dK;rfl;rfl;rfl)|refine Jd (hi _) ?_|(apply dF (ty:=4);rfl;rfl;rfl;rfl)|refine Jh ?_|(apply Wp.draw tOk follows;kernel_rfl)|fail
   all_goals first
    | exact ZS _ _ _ _ _ _ _
    | rfl
    | (exfalso;simp at hb;done)
 | true =>
   rw [hp] at hi
   obtain ⟨b1,x,y,rfl⟩:=Xp ha hp rfl
   have hy:=V6 ha' (x:=y) (by simp)
   have hyA:=U6 ha y (by simp)
   have hj:=Zmr y pkN
   show ∀ H,CallOk E0 Tryz.prog 206 _ H (.agg (Tm.cells (if (true&&isA y pkN&&decide ((y.kd 0).cmp key=0))=true then x else _))) H
   rw [Bool.true_and]
   cases hq:isA y pkN with
   | false =>
     rw [hq] at hj
     rw [if_neg (by simp)]
     obtain ⟨k1,n1,s1,f1,l1⟩:=x
     obtain ⟨k2,n2,s2,f2,l2⟩:=y
     obtain ⟨k3,n3,s3,f3,l3⟩:=key
     simp only [Tm.cells,VQ,YQ,Wy] at hi hj ⊢
     refine Jw tOk fe206.ok rfl ?_
     repeat' first|refine Jt ?_|refine Jo ?_|(apply dK;rfl;rfl;rfl)|refine Jd (hi _) ?_|refine Jd (hj _) ?_|(apply dT (ty:=4);rfl;rfl;rfl;rfl)|(apply dF (ty:=4);rfl;rfl;rfl;rfl)|refine Jh ?_|(apply Wp.draw tOk follows;kernel_rfl)|fail
     all_goals first
      | exact ZS _ _ _ _ _ _ _
      | rfl
      | (exfalso;simp at hb;done)
   | true =>
     rw [hq] at hj
     obtain ⟨b2,z,rfl⟩:=Zjk hyA hq
     have hs:=Zrv (V6 hy (x:=z) (by simp)) hk'
     rw [Bool.true_and]
     show ∀ H,CallOk E0 Tryz.prog 206 _ H (.agg (Tm.cells (if decide (z.cmp key=0)=true then x else _))) H
     generalize decide (z.cmp key=0)=c at hs ⊢
     obtain ⟨k1,n1,s1,f1,l1⟩:=x
     obtain ⟨k2,n2,s2,f2,l2⟩:=z
     obtain ⟨k3,n3,s3,f3,l3⟩:=key
     cases c
     · rw [if_neg (by decide)]
       simp only [Tm.cells,VQ,ZbJ,YQ,Wy,pkN] at hi hj hs ⊢
       refine Jw tOk fe206.ok rfl ?_
       repeat' first|refine Jt ?_|refine Jo ?_|(apply dCl;rfl;rfl;rfl;rfl;rfl;first|exact hi _|exact hj _|exact hs _)|(apply dT (ty:=4);rfl;rfl;rfl;rfl)|(apply dF (ty:=4);rfl;rfl;rfl;rfl)|refine Jh ?_|(apply Wp.draw tOk follows;kernel_rfl)|fail
       all_goals first
        | exact ZS _ _ _ _ _ _ _
        | rfl
        | (exfalso;simp at hb;done)
     · rw [if_pos rfl]
       simp only [Tm.cells,VQ,ZbJ,YQ,Wy,pkN] at hi hj hs ⊢
       refine Jw tOk fe206.ok (ZS _ _ _ _ _ _ _) ?_
       repeat' first|refine Jt ?_|refine Jo ?_|(apply dCl;rfl;rfl;rfl;rfl;rfl;first|exact hi _|exact hj _|exact hs _)|(apply dT (ty:=4);rfl;rfl;rfl;rfl)|refine Jh ?_|(apply Wp.draw tOk follows;kernel_rfl)|fail
       all_goals first
        | exact ZS _ _ _ _ _ _ _
        | rfl
        | (exfalso;simp at hb;done)
theorem Zk9 (ha:a.okA=true) (hk:key.okA=true) (ha':a.Ok∧a.size≤100000) (hk':key.Ok∧key.size≤100000) (b:Bool):∀ H,CallOk E0 Tryz.prog 206 [.agg (Tm.mk 3 YO 0 b [a,key]).cells] H (.agg (Xz (.mk 3 YO 0 b [a,key])).cells) H:=by
 have hi:=Zmr a Y9
 have hd:Xz (.mk 3 YO 0 b [a,key])=if (isA a Y9&&isA key pkN&&decide ((a.kd 1).cmp (key.kd 0)=0))=true then a.kd 0 else .mk 3 YO 0 b [a,key]:=by
  unfold Xz Zdb
  simp [ZeA,Tm.nm,Tm.kd,Um,V5,VY,YQ,YO,Y7]
 rw [hd]
 cases hp:isA a Y9 with
 | false =>
   rw [hp] at hi
   rw [if_neg (by simp)]
   obtain ⟨k1,n1,s1,f1,l1⟩:=a
   obtain ⟨k2,n2,s2,f2,l2⟩:=key
   simp only [Tm.cells,VQ,YO] at hi ⊢
   refine Jw tOk fe206.ok rfl ?_
   repeat' first|refine Jt ?_|refine Jo ?_|(apply dK;rfl;rfl;rfl)|refine Jd (hi _) ?_|(apply dF (ty:=4);rfl;rfl;rfl;rfl)|refine Jh ?_|(apply Wp.draw tOk follows;kernel_rfl)|fail
   all_goals first
    | exact ZS _ _ _ _ _ _ _
    | rfl
    | (exfalso;simp at hb;done)
 | true =>
   rw [hp] at hi
   obtain ⟨b1,x,y,rfl⟩:=Xp ha hp rfl
   have hj:=Zmr key pkN
   show ∀ H,CallOk E0 Tryz.prog 206 _ H (.agg (Tm.cells (if (true&&isA key pkN&&decide (y.cmp (key.kd 0)=0))=true then x else _))) H
   rw [Bool.true_and]
   cases hq:isA key pkN with
   | false =>
     rw [hq] at hj
     rw [if_neg (by simp)]
     obtain ⟨k1,n1,s1,f1,l1⟩:=x
     obtain ⟨k2,n2,s2,f2,l2⟩:=y
     obtain ⟨k3,n3,s3,f3,l3⟩:=key
     simp only [Tm.cells,VQ,YO,Y9] at hi hj ⊢
     refine Jw tOk fe206.ok rfl ?_
     repeat' first|refine Jt ?_|refine Jo ?_|(apply dK;rfl;rfl;rfl)|refine Jd (hi _) ?_|refine Jd (hj _) ?_|(apply dT (ty:=4);rfl;rfl;rfl;rfl)|(apply dF (ty:=4);rfl;rfl;rfl;rfl)|refine Jh ?_|(apply Wp.draw tOk follows;kernel_rfl)|fail
     all_goals first
      | exact ZS _ _ _ _ _ _ _
      | rfl
      | (exfalso;simp at hb;done)
   | true =>
     rw [hq] at hj
     obtain ⟨b2,z,rfl⟩:=Zjk hk hq
     have hs:=Zrv (V6 ha' (x:=y) (by simp)) (V6 hk' (x:=z) (by simp))
     rw [Bool.true_and]
     show ∀ H,CallOk E0 Tryz.prog 206 _ H (.agg (Tm.cells (if decide (y.cmp z=0)=true then x else _))) H
     generalize decide (y.cmp z=0)=c at hs ⊢
     obtain ⟨k1,n1,s1,f1,l1⟩:=x
     obtain ⟨k2,n2,s2,f2,l2⟩:=y
     obtain ⟨k3,n3,s3,f3,l3⟩:=z
     cases c
     · rw [if_neg (by decide)]
       simp only [Tm.cells,VQ,ZbJ,YO,Y9,pkN] at hi hj hs ⊢
       refine Jw tOk fe206.ok rfl ?_
       repeat' first|refine Jt ?_|refine Jo ?_|(apply dCl;rfl;rfl;rfl;rfl;rfl;first|exact hi _|exact hj _|exact hs _)|(apply dT (ty:=4);rfl;rfl;rfl;rfl)|(apply dF (ty:=4);rfl;rfl;rfl;rfl)|refine Jh ?_|(apply Wp.draw tOk follows;kernel_rfl)|fail
       all_goals first
        | exact ZS _ _ _ _ _ _ _
        | rfl
        | (exfalso;simp at hb;done)
     · rw [if_pos rfl]
       simp only [Tm.cells,VQ,ZbJ,YO,Y9,pkN] at hi hj hs ⊢
       refine Jw tOk fe206.ok (ZS _ _ _ _ _ _ _) ?_
       repeat' first|refine Jt ?_|refine Jo ?_|(apply dCl;rfl;rfl;rfl;rfl;rfl;first|exact hi _|exact hj _|exact hs _)|(apply dT (ty:=4);rfl;rfl;rfl;rfl)|refine Jh ?_|(apply Wp.draw tOk follows;kernel_rfl)|fail
       all_goals first
        | exact ZS _ _ _ _ _ _ _
        | rfl
        | (exfalso;simp at hb;done)
theorem ZtU {l:List α} (h:l.length=1):∃ a,l= [a]:=by
 match l,h with
 | [a],_=>exact ⟨a,rfl⟩
theorem Zrt {l:List α} (h:l.length=2):∃ a b,l= [a,b]:=by
 match l,h with
 | [a,b],_=>exact ⟨a,b,rfl⟩
theorem ZcQ (h:(YA nm).kind=3):((nm=Um∨nm=V5∨nm=Y7)∧(YA nm).least=1∧(YA nm).most=1)∨((nm=VY∨nm=YQ∨nm=YO)∧(YA nm).least=2∧(YA nm).most=2):=by
 rcases Zan nm with e|⟨e1,e2⟩
 · rw [e] at h;exact absurd h (by decide)
 · rw [← e2]
   rw [e2]
   revert h
   have e3:=e2
   generalize YA nm=s at e1 e2 e3 ⊢
   simp only [Zbc,List.mem_cons,List.not_mem_nil,or_false] at e1
   rcases e1 with rfl|rfl|rfl|rfl|rfl|rfl|rfl|rfl|rfl|rfl|rfl|rfl|rfl|rfl|rfl|rfl|rfl|rfl|rfl|rfl|rfl<;>intro h<;>first|exact absurd h (by decide)|(subst e2;first|exact .inl ⟨.inl rfl,rfl,rfl⟩|exact .inl ⟨.inr (.inl rfl),rfl,rfl⟩|exact .inl ⟨.inr (.inr rfl),rfl,rfl⟩|exact .inr ⟨.inl rfl,rfl,rfl⟩|exact .inr ⟨.inr (.inl rfl),rfl,rfl⟩|exact .inr ⟨.inr (.inr rfl),rfl,rfl⟩)
theorem ZuD {ks:List Tm} (h0:(YA nm).kind=3) (h1:(YA nm).least≤ks.length) (h2:(ks.length:Int)≤(YA nm).most) (hA:∀ x,x∈ks→x.okA=true) (hS:SmL ks) (b:Bool):∀ H,CallOk E0 Tryz.prog 206 [.agg (Tm.mk 3 nm 0 b ks).cells] H (.agg (Xz (.mk 3 nm 0 b ks)).cells) H:=by
 rcases ZcQ h0 with ⟨hn,e1,e2⟩|⟨hn,e1,e2⟩
 · rw [e1] at h1
   rw [e2] at h2
   obtain ⟨a,rfl⟩:=ZtU (l:=ks) (by omega)
   have ha:=hA a (by simp)
   rcases hn with rfl|rfl|rfl
   · exact ZoS ha b
   · exact Zo1 ha b
   · exact ZkW ha b
 · rw [e1] at h1
   rw [e2] at h2
   obtain ⟨a,key,rfl⟩:=Zrt (l:=ks) (by omega)
   have ha:=hA a (by simp)
   have hk:=hA key (by simp)
   have ha':=hS a (by simp)
   have hk':=hS key (by simp)
   rcases hn with rfl|rfl|rfl
   · exact ZoQ ha hk ha' hk' b
   · exact Zlu ha hk ha' hk' b
   · exact Zk9 ha hk ha' hk' b
theorem isR (t:Tm) (w:Bs):∀ H,CallOk E0 Tryz.prog 175 [.agg t.cells,.str w] H (.bool (isA t w)) H:=by
 obtain ⟨k,nm,s,b,kz⟩:=t
 have e:isF k nm w=isA (.mk k nm s b kz) w:=rfl
 rw [← e]
 exact Zur k nm s b kz w
theorem Yd (m:Nat) (H:Heap) (k:Int) (nm:Bs) (s:Int) (b:Bool) (l:List (List PV)) (x:Bool):frz3 m H (.tup [.agg [.int .i64 k,.str nm,.int .i64 s,slV b 4 l],.bool x])=some (.tup [.agg [.int .i64 k,.str nm,.int .i64 s,slV b 4 l],.bool x]):=by
 rw [WW]
 simp only [Wn,frz2,WH,VN]
 rfl
theorem Zlv (ha:a.okA=true) (b:Bool):∀ H,CallOk E0 Tryz.prog 151 [.agg (Tm.mk 3 Um 0 b [a]).cells] H (.tup [.agg (Xz (.mk 3 Um 0 b [a])).cells,.bool (isA a Xf)]) H:=by
 have hi:=isR a Xf
 have hd:Xz (.mk 3 Um 0 b [a])=if isA a Xf=true then a.kd 0 else .mk 3 Um 0 b [a]:=by
  unfold Xz Zdb
  simp [ZeA,Tm.nm,Tm.kd,Um,V5,VY,YQ,YO,Y7]
 rw [hd]
 cases hp:isA a Xf with
 | true =>
   rw [hp] at hi
   obtain ⟨b1,x,y,rfl⟩:=Xp ha hp rfl
   rw [if_pos rfl]
   show ∀ H,CallOk E0 Tryz.prog 151 _ H (.tup [.agg (Tm.cells x),.bool true]) H
   obtain ⟨k1,n1,s1,f1,l1⟩:=x
   obtain ⟨k2,n2,s2,f2,l2⟩:=y
   simp only [Tm.cells,VQ,ZbJ,Um,Xf] at hi ⊢
   refine Jw tOk fe151.ok (Yd _ _ _ _ _ _ _ _) ?_
   repeat' first|refine Jc (hi _) ?_|refine Jt ?_|refine Jo ?_|fail
   all_goals first
    | exact Yd _ _ _ _ _ _ _ _
    | (exfalso;simp at hb;done)
 | false =>
   rw [hp] at hi
   rw [if_neg (by decide)]
   obtain ⟨k1,n1,s1,f1,l1⟩:=a
   simp only [Tm.cells,ZbJ,Um] at hi ⊢
   refine Jw tOk fe151.ok rfl ?_
   repeat' first|refine Jk ?_|refine Jc (hi _) ?_|refine Jt ?_|refine Jo ?_|(apply dK;rfl;rfl;rfl)|(apply dF (ty:=4);rfl;rfl;rfl;rfl)|refine Jh ?_|(apply Wp.draw tOk follows;kernel_rfl)|fail
   all_goals first
    | rfl
    | (exfalso;simp at hb;done)
theorem ZlJ (ha:a.okA=true) (b:Bool):∀ H,CallOk E0 Tryz.prog 151 [.agg (Tm.mk 3 V5 0 b [a]).cells] H (.tup [.agg (Xz (.mk 3 V5 0 b [a])).cells,.bool (isA a Xf)]) H:=by
 have hi:=isR a Xf
 have hd:Xz (.mk 3 V5 0 b [a])=if isA a Xf=true then a.kd 1 else .mk 3 V5 0 b [a]:=by
  unfold Xz Zdb
  simp [ZeA,Tm.nm,Tm.kd,Um,V5,VY,YQ,YO,Y7]
 rw [hd]
 cases hp:isA a Xf with
 | true =>
   rw [hp] at hi
   obtain ⟨b1,x,y,rfl⟩:=Xp ha hp rfl
   rw [if_pos rfl]
   show ∀ H,CallOk E0 Tryz.prog 151 _ H (.tup [.agg (Tm.cells y),.bool true]) H
   obtain ⟨k1,n1,s1,f1,l1⟩:=x
   obtain ⟨k2,n2,s2,f2,l2⟩:=y
   simp only [Tm.cells,VQ,ZbJ,V5,Xf] at hi ⊢
   refine Jw tOk fe151.ok (Yd _ _ _ _ _ _ _ _) ?_
   repeat' first|refine Jk ?_|refine Jc (hi _) ?_|refine Jt ?_|refine Jo ?_|fail
   all_goals first
    | exact Yd _ _ _ _ _ _ _ _
    | (exfalso;simp at hb;done)
 | false =>
   rw [hp] at hi
   rw [if_neg (by decide)]
   obtain ⟨k1,n1,s1,f1,l1⟩:=a
   simp only [Tm.cells,ZbJ,V5] at hi ⊢
   refine Jw tOk fe151.ok rfl ?_
   repeat' first|refine Jk ?_|refine Jc (hi _) ?_|refine Jt ?_|refine Jo ?_|(apply dK;rfl;rfl;rfl)|(apply dF (ty:=4);rfl;rfl;rfl;rfl)|refine Jh ?_|(apply Wp.draw tOk follows;kernel_rfl)|fail
   all_goals first
    | rfl
    | (exfalso;simp at hb;done)
theorem ZkH (ha:a.okA=true) (b:Bool):∀ H,CallOk E0 Tryz.prog 151 [.agg (Tm.mk 3 Y7 0 b [a]).cells] H (.tup [.agg (Xz (.mk 3 Y7 0 b [a])).cells,.bool (isA a Y9)]) H:=by
 have hi:=isR a Y9
 have hd:Xz (.mk 3 Y7 0 b [a])=if isA a Y9=true then a.kd 0 else .mk 3 Y7 0 b [a]:=by
  unfold Xz Zdb
  simp [ZeA,Tm.nm,Tm.kd,Um,V5,VY,YQ,YO,Y7]
 rw [hd]
 cases hp:isA a Y9 with
 | true =>
   rw [hp] at hi
   obtain ⟨b1,x,y,rfl⟩:=Xp ha hp rfl
   rw [if_pos rfl]
   show ∀ H,CallOk E0 Tryz.prog 151 _ H (.tup [.agg (Tm.cells x),.bool true]) H
   obtain ⟨k1,n1,s1,f1,l1⟩:=x
   obtain ⟨k2,n2,s2,f2,l2⟩:=y
   simp only [Tm.cells,VQ,ZbJ,Y7,Y9] at hi ⊢
   refine Jw tOk fe151.ok (Yd _ _ _ _ _ _ _ _) ?_
   repeat' first|refine Jk ?_|refine Jc (hi _) ?_|refine Jt ?_|refine Jo ?_|(apply dK;rfl;rfl;rfl)|(apply dF (ty:=4);rfl;rfl;rfl;rfl)|refine Jh ?_|(apply Wp.draw tOk follows;kernel_rfl)|fail
   all_goals first
    | exact Yd _ _ _ _ _ _ _ _
    | (exfalso;simp at hb;done)
 | false =>
   rw [hp] at hi
   rw [if_neg (by decide)]
   obtain ⟨k1,n1,s1,f1,l1⟩:=a
   simp only [Tm.cells,ZbJ,Y7] at hi ⊢
   refine Jw tOk fe151.ok rfl ?_
   repeat' first|refine Jk ?_|refine Jc (hi _) ?_|refine Jt ?_|refine Jo ?_|(apply dK;rfl;rfl;rfl)|(apply dF (ty:=4);rfl;rfl;rfl;rfl)|refine Jh ?_|(apply Wp.draw tOk follows;kernel_rfl)|fail
   all_goals first
    | rfl
    | (exfalso;simp at hb;done)
theorem Zfe {u:Tm} (ht:t.Ok∧t.size≤200000) (hu:u.Ok∧u.size≤200000):∀ H,CallOk E0 Tryz.prog 37 [.agg t.cells,.agg u.cells] H (.bool (decide (t.cmp u=0))) H:=by
 have hc:∀ H,CallOk E0 Tryz.prog 67 [.agg t.cells,.agg u.cells] H (.int .i64 (t.cmp u)) H:=fun H=>Zoe (d67 ht.1 hu.1 (by have:=ht.2;omega) (by have:=hu.2;omega) H)
 generalize t.cmp u=c at hc ⊢
 obtain ⟨k,nm,s,b,kz⟩:=t
 obtain ⟨k',nm',s',b',kz'⟩:=u
 simp only [Tm.cells] at hc ⊢
 refine Jw tOk fe37.ok rfl ?_
 repeat' first|refine Jc (hc _) ?_|refine Jt ?_|refine Jb ?_ ?_|refine Jo ?_|intro hb
 all_goals simp_all
theorem up2 (h:t.Ok∧t.size≤100000):t.Ok∧t.size≤200000:=⟨h.1,Nat.le_trans h.2 (by decide)⟩
theorem Zlz (ha:a.okA=true) (ha':a.Ok∧a.size≤100000) (hk':key.Ok∧key.size≤100000) (b:Bool):∀ H,CallOk E0 Tryz.prog 151 [.agg (Tm.mk 3 VY 0 b [a,key]).cells] H (.tup [.agg (Xz (.mk 3 VY 0 b [a,key])).cells,.bool (isA a Zb8&&decide ((a.kd 1).cmp key=0))]) H:=by
 have hi:=isR a Zb8
 have hd:Xz (.mk 3 VY 0 b [a,key])=if (isA a Zb8&&decide ((a.kd 1).cmp key=0))=true then a.kd 0 else .mk 3 VY 0 b [a,key]:=by
  unfold Xz Zdb
  simp [ZeA,Tm.nm,Tm.kd,Um,V5,VY,YQ,YO,Y7]
 rw [hd]
 cases hp:isA a Zb8 with
 | false =>
   rw [hp] at hi
   rw [if_neg (by simp),Bool.false_and]
   obtain ⟨k1,n1,s1,f1,l1⟩:=a
   obtain ⟨k2,n2,s2,f2,l2⟩:=key
   simp only [Tm.cells,VQ,VY] at hi ⊢
   refine Jw tOk fe151.ok rfl ?_
   repeat' first|refine Jk ?_|refine Jt ?_|refine Jo ?_|(apply dK;rfl;rfl;rfl)|refine Jd (hi _) ?_|(apply dT (ty:=4);rfl;rfl;rfl;rfl)|(apply dF (ty:=4);rfl;rfl;rfl;rfl)|refine Jh ?_|(apply Wp.draw tOk follows;kernel_rfl)|fail
   all_goals first
    | exact Yd _ _ _ _ _ _ _ _
    | rfl
    | (exfalso;simp at hb;done)
 | true =>
   rw [hp] at hi
   obtain ⟨b1,x,y,rfl⟩:=Xp ha hp rfl
   have hs:=Zfe (up2 (V6 ha' (x:=y) (by simp))) (up2 hk')
   show ∀ H,CallOk E0 Tryz.prog 151 _ H (.tup [.agg (Tm.cells (if (true&&decide (y.cmp key=0))=true then x else _)),.bool (true&&decide (y.cmp key=0))]) H
   rw [Bool.true_and]
   generalize decide (y.cmp key=0)=c at hs ⊢
   obtain ⟨k1,n1,s1,f1,l1⟩:=x
   obtain ⟨k2,n2,s2,f2,l2⟩:=y
   obtain ⟨k3,n3,s3,f3,l3⟩:=key
   cases c
   · rw [if_neg (by decide)]
     simp only [Tm.cells,VQ,VY,Zb8] at hi hs ⊢
     refine Jw tOk fe151.ok rfl ?_
     repeat' first|refine Jk ?_|refine Jt ?_|refine Jo ?_|(apply dK;rfl;rfl;rfl)|refine Jd (hi _) ?_|refine Jd (hs _) ?_|(apply dT (ty:=4);rfl;rfl;rfl;rfl)|(apply dF (ty:=4);rfl;rfl;rfl;rfl)|refine Jh ?_|(apply Wp.draw tOk follows;kernel_rfl)|fail
     all_goals first
      | exact Yd _ _ _ _ _ _ _ _
      | rfl
      | (exfalso;simp at hb;done)
   · rw [if_pos rfl]
     simp only [Tm.cells,VQ,VY,Zb8] at hi hs ⊢
     refine Jw tOk fe151.ok (Yd _ _ _ _ _ _ _ _) ?_
     repeat' first|refine Jk ?_|refine Jt ?_|refine Jo ?_|refine Jd (hi _) ?_|refine Jd (hs _) ?_|(apply dT (ty:=4);rfl;rfl;rfl;rfl)|refine Jh ?_|(apply Wp.draw tOk follows;kernel_rfl)|fail
     all_goals first
      | exact Yd _ _ _ _ _ _ _ _
      | rfl
      | (exfalso;simp at hb;done)
