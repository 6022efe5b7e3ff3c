/-
  Destructors: the second text's decryption and opening.
-/
import Derived.Test.YtnghnjdabbjcnaaGreatDoorVNb
set_option maxHeartbeats 0
set_option maxRecDepth 100000
namespace Go.Vm.Seat
variable {a key t u:Tm} {nm:Bs} {α:Type}
open Go.Proofs
theorem Zj5 (t:Tm) (w:Bs):∀H,CO 217 [.agg t.cells,.str w] H (.bool (isA t w)) H:=by
 obtain⟨k,nm,s,b,kz⟩:=t;simp only[Tm.cells];refine Jw tOk fe217.ok rfl ?_ (by simp[ZH,frzG,XA,frz1]);repeat' first|refine KM ?_|refine Jb ?_ ?_|refine Jo ?_|intro hb
 all_goals simp_all[isA]
theorem Ztf (t:Tm):∀H,CO 240 [.agg t.cells] H (.bool t.sym) H:=by
 obtain⟨k,nm,s,b,kz⟩:=t;simp only[Tm.cells,Tm.sym];refine Jw tOk fe240.ok rfl ?_;repeat' first|refine KM ?_|refine Jb ?_ ?_|refine Jo ?_|intro hb
 all_goals simp_all[ZbO,Ug,VG,Um]
theorem ZsC (t:Tm):∀H,CO 259 [.agg t.cells] H (.bool t.sym) H:=by
 obtain⟨k,nm,s,b,kz⟩:=t;simp only[Tm.cells,Tm.sym];refine Jw tOk fe259.ok rfl ?_;repeat' first|refine KM ?_|refine Jb ?_ ?_|refine Jo ?_|intro hb
 all_goals simp_all[ZbO,Ug,VG,Um]
theorem ZqM (ht:t.Ok∧t.size≤100000) (hu:u.Ok∧u.size≤100000):∀H,CO 162 [.agg t.cells,.agg u.cells] H (.bool (decide (t.cmp u=0))) H:=by
 have hc:=ZqF ht hu;generalize t.cmp u=c at hc ⊢;obtain⟨k,nm,s,b,kz⟩:=t;obtain⟨k',nm',s',b',kz'⟩:=u;simp only[Tm.cells]at hc ⊢;refine Jw tOk fe162.ok rfl ?_;repeat' first|refine Jc (hc _) ?_|refine Jt ?_|refine Jb ?_ ?_|refine Jo ?_|intro hb
 all_goals simp_all
theorem ZcN (b:Bool) (el:List (List PV)):slV b 4 el= .nils∨∃el',slV b 4 el= .sl .none 4 el':=by
 cases el with
 | nil => cases b with
   | true=>exact .inl (Zi 4)
   | false=>exact .inr ⟨[],ZB 4⟩
 |cons x r=>exact .inr ⟨x::r,Zp _ _ _ _⟩
theorem ZvZ (nm:Bs) (l:List Tm) (b:Bool):∀H,CO 228 [.str nm,slV b 4 (Za l)] H (.agg (Tm.mk 3 nm 0 b l).cells) H:=by
 simp only[Tm.cells];rcases ZcN b (Za l) with e|⟨el,e⟩;all_goals
  rw[e]
  refine Jw tOk fe228.ok rfl ?_
  repeat' first|refine Jo ?_|fail
  rfl
theorem ZsT (nm:Bs) (l:List Tm) (b:Bool):∀H,CO 225 [.str nm,slV b 4 (Za l)] H (.agg (Tm.mk 3 nm 0 b l).cells) H:=by
 simp only[Tm.cells];rcases ZcN b (Za l) with e|⟨el,e⟩;all_goals
  rw[e]
  refine Jw tOk fe225.ok rfl ?_
  repeat' first|refine Jo ?_|fail
  rfl
def pwC (x:Pw):List PV:=x.1.cells++ [.int .i64 x.2]
theorem Zvy {x:Pw} (ht:x.1.Ok∧x.1.size≤100000) (hu:u.Ok∧u.size≤100000):∀H,CO 253 [.agg (pwC x),.agg u.cells] H (.int .i64 (x.1.cmp u)) H:=by
 have hc:=ZqF ht hu;obtain⟨t,n⟩:=x;simp only at hc ⊢;generalize t.cmp u=c at hc ⊢;obtain⟨k,nm,s,b,kz⟩:=t;obtain⟨k',nm',s',b',kz'⟩:=u;simp only[Tm.cells,pwC,List.cons_append,List.nil_append]at hc ⊢;refine Jw tOk fe253.ok rfl ?_;repeat' first|refine Jc (hc _) ?_|refine Jo ?_|fail
 all_goals rfl
theorem Xe (h:a.okA=true) (hp:isA a nm=true) (hn:((nm==XQ)||(nm==ZeN)||(nm==VJ)||(nm==Xp)||(nm==YS))=true):∃b x y,a= .mk 3 nm 0 b [x,y]:=by
 obtain⟨k,nm',s,b,kz⟩:=a;simp only[isA,Bool.and_eq_true,decide_eq_true_eq,beq_iff_eq]at hp;obtain⟨rfl,rfl⟩:=hp;simp only[Tm.okA,if_pos,Bool.and_eq_true,decide_eq_true_eq]at h;obtain⟨⟨rfl,h1⟩,_⟩:=h;simp only[Znl,Bool.and_eq_true,hn,if_true,decide_eq_true_eq]at h1;match kz,h1.1 with
 | [x,y],_=>exact⟨b,x,y,rfl⟩
theorem Vx (b:Bool) (x y:Tm):slV b 4 (Za [x,y])= .sl .none 4 [x.cells,y.cells]:=Zp _ _ _ _
theorem ZaU (b:Bool) (x:Tm):slV b 4 (Za [x])= .sl .none 4 [x.cells]:=Zp _ _ _ _
theorem ZnR (ha:a.okA=true) (b:Bool):∀H,CO 205 [.agg (Tm.mk 3 V9 0 b [a]).cells] H (.agg (Xw (.mk 3 V9 0 b [a])).cells) H:=by
 have hi:=Zj5 a XQ;have hd:Xw (.mk 3 V9 0 b [a])=if isA a XQ=true then a.kd 0 else .mk 3 V9 0 b [a]:=by unfold Xw ZcC;simp[Zd1,Tm.nm,Tm.kd,V9,VW,VQ,YG,YN,Y1]
 rw[hd];cases hp:isA a XQ with
 |true=>
  rw[hp]at hi;obtain⟨b1,x,y,rfl⟩:=Xe ha hp rfl;rw[if_pos rfl];show ∀H,CO 205 _ H (.agg (Tm.cells x)) H;obtain⟨k1,n1,s1,f1,l1⟩:=x;obtain⟨k2,n2,s2,f2,l2⟩:=y;simp only[Tm.cells,Vx,ZaU,V9,XQ]at hi ⊢;refine Jw tOk fe205.ok (Z7 _ _ _ _ _ _ _) ?_;repeat' first|refine Jc (hi _) ?_|refine Ka ?_|fail
  all_goals first
   | exact Z7 _ _ _ _ _ _ _
   | (exfalso;simp at hb;done)
 |false=>
  rw[hp]at hi;rw[if_neg (by decide)];obtain⟨k1,n1,s1,f1,l1⟩:=a;simp only[Tm.cells,ZaU,V9]at hi ⊢;refine Jw tOk fe205.ok rfl ?_;repeat' first|refine Jc (hi _) ?_|refine Ka ?_|fail
  all_goals first
   | rfl
   | (exfalso;simp at hb;done)
theorem ZnU (ha:a.okA=true) (b:Bool):∀H,CO 205 [.agg (Tm.mk 3 VW 0 b [a]).cells] H (.agg (Xw (.mk 3 VW 0 b [a])).cells) H:=by
 have hi:=Zj5 a XQ;have hd:Xw (.mk 3 VW 0 b [a])=if isA a XQ=true then a.kd 1 else .mk 3 VW 0 b [a]:=by unfold Xw ZcC;simp[Zd1,Tm.nm,Tm.kd,V9,VW,VQ,YG,YN,Y1]
 rw[hd];cases hp:isA a XQ with
 |true=>
  rw[hp]at hi;obtain⟨b1,x,y,rfl⟩:=Xe ha hp rfl;rw[if_pos rfl];show ∀H,CO 205 _ H (.agg (Tm.cells y)) H;obtain⟨k1,n1,s1,f1,l1⟩:=x;obtain⟨k2,n2,s2,f2,l2⟩:=y;simp only[Tm.cells,Vx,ZaU,VW,XQ]at hi ⊢;refine Jw tOk fe205.ok (Z7 _ _ _ _ _ _ _) ?_;repeat' first|refine Jc (hi _) ?_|refine Ka ?_|fail
  all_goals first
   | exact Z7 _ _ _ _ _ _ _
   | (exfalso;simp at hb;done)
 |false=>
  rw[hp]at hi;rw[if_neg (by decide)];obtain⟨k1,n1,s1,f1,l1⟩:=a;simp only[Tm.cells,ZaU,VW]at hi ⊢;refine Jw tOk fe205.ok rfl ?_;repeat' first|refine Jc (hi _) ?_|refine Ka ?_|fail
  all_goals first
   | rfl
   | (exfalso;simp at hb;done)
theorem ZkP (ha:a.okA=true) (b:Bool):∀H,CO 205 [.agg (Tm.mk 3 Y1 0 b [a]).cells] H (.agg (Xw (.mk 3 Y1 0 b [a])).cells) H:=by
 have hi:=Zj5 a Xp;have hd:Xw (.mk 3 Y1 0 b [a])=if isA a Xp=true then a.kd 0 else .mk 3 Y1 0 b [a]:=by unfold Xw ZcC;simp[Zd1,Tm.nm,Tm.kd,V9,VW,VQ,YG,YN,Y1]
 rw[hd];cases hp:isA a Xp with
 |true=>
  rw[hp]at hi;obtain⟨b1,x,y,rfl⟩:=Xe ha hp rfl;rw[if_pos rfl];show ∀H,CO 205 _ H (.agg (Tm.cells x)) H;obtain⟨k1,n1,s1,f1,l1⟩:=x;obtain⟨k2,n2,s2,f2,l2⟩:=y;simp only[Tm.cells,Vx,ZaU,Y1,Xp]at hi ⊢;refine Jw tOk fe205.ok (Z7 _ _ _ _ _ _ _) ?_;repeat' first|refine Jc (hi _) ?_|refine Ka ?_|fail
  all_goals first
   | exact Z7 _ _ _ _ _ _ _
   | (exfalso;simp at hb;done)
 |false=>
  rw[hp]at hi;rw[if_neg (by decide)];obtain⟨k1,n1,s1,f1,l1⟩:=a;simp only[Tm.cells,ZaU,Y1]at hi ⊢;refine Jw tOk fe205.ok rfl ?_;repeat' first|refine Jc (hi _) ?_|refine Ka ?_|fail
  all_goals first
   | rfl
   | (exfalso;simp at hb;done)
theorem VU {k:Int} {s:Int} {b:Bool} {kz:List Tm} (h:(Tm.mk k nm s b kz).Ok∧(Tm.mk k nm s b kz).size≤100000) {x:Tm} (hx:x∈kz):x.Ok∧x.size≤100000:=⟨h.1.kid hx,by
 have h1:=Z4 hx
 have h2:=h.2
 rw[Tm.size]at h2
 omega⟩
theorem Znd (ha:a.okA=true) (hk:key.okA=true) (ha':a.Ok∧a.size≤100000) (hk':key.Ok∧key.size≤100000) (b:Bool):∀H,CO 205 [.agg (Tm.mk 3 VQ 0 b [a,key]).cells] H (.agg (Xw (.mk 3 VQ 0 b [a,key])).cells) H:=by
 have hi:=Zj5 a ZeN;have hd:Xw (.mk 3 VQ 0 b [a,key])=if(isA a ZeN&&decide ((a.kd 1).cmp key=0))=true then a.kd 0 else .mk 3 VQ 0 b [a,key]:=by unfold Xw ZcC;simp[Zd1,Tm.nm,Tm.kd,V9,VW,VQ,YG,YN,Y1]
 rw[hd];cases hp:isA a ZeN with
 |false=>
  rw[hp]at hi;rw[if_neg (by simp)];obtain⟨k1,n1,s1,f1,l1⟩:=a;obtain⟨k2,n2,s2,f2,l2⟩:=key;simp only[Tm.cells,Vx,VQ]at hi ⊢;refine Jw tOk fe205.ok rfl ?_;repeat' first|refine Kr ?_|refine Jd (hi _) ?_|refine Kl ?_|fail
  all_goals first
   | exact Z7 _ _ _ _ _ _ _
   | rfl
   | (exfalso;simp at hb;done)
 |true=>
  rw[hp]at hi;obtain⟨b1,x,y,rfl⟩:=Xe ha hp rfl;have hs:=ZqM (VU ha' (x:=y) (by simp)) hk';show ∀H,CO 205 _ H (.agg (Tm.cells (if(true&&decide (y.cmp key=0))=true then x else _))) H;rw[Bool.true_and];generalize decide (y.cmp key=0)=c at hs ⊢;obtain⟨k1,n1,s1,f1,l1⟩:=x;obtain⟨k2,n2,s2,f2,l2⟩:=y;obtain⟨k3,n3,s3,f3,l3⟩:=key;cases c
  ·rw[if_neg (by decide)];simp only[Tm.cells,Vx,VQ,ZeN]at hi hs ⊢;refine Jw tOk fe205.ok rfl ?_;(repeat' first|refine Ka ?_|refine Jd (hi _) ?_|refine Jd (hs _) ?_|refine KA ?_|fail);all_goals first
    | exact Z7 _ _ _ _ _ _ _
    | rfl
    | (exfalso;simp at hb;done)
  ·rw[if_pos rfl];simp only[Tm.cells,Vx,VQ,ZeN]at hi hs ⊢;refine Jw tOk fe205.ok (Z7 _ _ _ _ _ _ _) ?_;(repeat' first|refine Ka ?_|refine Jd (hi _) ?_|refine Jd (hs _) ?_|refine Ku ?_|fail);all_goals first
    | exact Z7 _ _ _ _ _ _ _
    | rfl
    | (exfalso;simp at hb;done)
theorem ZlA (ha:a.okA=true) (hk:key.okA=true) (ha':a.Ok∧a.size≤100000) (hk':key.Ok∧key.size≤100000) (b:Bool):∀H,CO 205 [.agg (Tm.mk 3 YG 0 b [a,key]).cells] H (.agg (Xw (.mk 3 YG 0 b [a,key])).cells) H:=by
 have hi:=Zj5 a VJ;have hd:Xw (.mk 3 YG 0 b [a,key])=if(isA a VJ&&isA (a.kd 1) pkN&&decide (((a.kd 1).kd 0).cmp key=0))=true then a.kd 0 else .mk 3 YG 0 b [a,key]:=by unfold Xw ZcC;simp[Zd1,Tm.nm,Tm.kd,V9,VW,VQ,YG,YN,Y1]
 rw[hd];cases hp:isA a VJ with
 |false=>
  rw[hp]at hi;rw[if_neg (by simp)];obtain⟨k1,n1,s1,f1,l1⟩:=a;obtain⟨k2,n2,s2,f2,l2⟩:=key;simp only[Tm.cells,Vx,YG]at hi ⊢;refine Jw tOk fe205.ok rfl ?_;repeat' first|refine Kr ?_|refine Jd (hi _) ?_|refine Kl ?_|fail
  all_goals first
   | exact Z7 _ _ _ _ _ _ _
   | rfl
   | (exfalso;simp at hb;done)
 |true=>
  rw[hp]at hi;obtain⟨b1,x,y,rfl⟩:=Xe ha hp rfl;have hy:=VU ha' (x:=y) (by simp);have hyA:=UE ha y (by simp);have hj:=Zj5 y pkN;show ∀H,CO 205 _ H (.agg (Tm.cells (if(true&&isA y pkN&&decide ((y.kd 0).cmp key=0))=true then x else _))) H;rw[Bool.true_and];cases hq:isA y pkN with
  | false=>
   rw[hq]at hj;rw[if_neg (by simp)];obtain⟨k1,n1,s1,f1,l1⟩:=x;obtain⟨k2,n2,s2,f2,l2⟩:=y;obtain⟨k3,n3,s3,f3,l3⟩:=key;simp only[Tm.cells,Vx,YG,VJ]at hi hj ⊢;refine Jw tOk fe205.ok rfl ?_;(repeat' first|refine Kr ?_|refine Jd (hi _) ?_|refine Jd (hj _) ?_|refine KA ?_|fail);all_goals first
    | exact Z7 _ _ _ _ _ _ _
    | rfl
    | (exfalso;simp at hb;done)
  | true=>
   rw[hq]at hj;obtain⟨b2,z,rfl⟩:=ZiM hyA hq;have hs:=ZqM (VU hy (x:=z) (by simp)) hk';rw[Bool.true_and];show ∀H,CO 205 _ H (.agg (Tm.cells (if decide (z.cmp key=0)=true then x else _))) H;generalize decide (z.cmp key=0)=c at hs ⊢;obtain⟨k1,n1,s1,f1,l1⟩:=x;obtain⟨k2,n2,s2,f2,l2⟩:=z;obtain⟨k3,n3,s3,f3,l3⟩:=key;cases c
   ·rw[if_neg (by decide)];simp only[Tm.cells,Vx,ZaU,YG,VJ,pkN]at hi hj hs ⊢;refine Jw tOk fe205.ok rfl ?_;(repeat' first|refine Ka ?_|(apply dCl;rfl;rfl;rfl;rfl;rfl;first|exact hi _|exact hj _|exact hs _)|refine KA ?_|fail);all_goals first
     | exact Z7 _ _ _ _ _ _ _
     | rfl
     | (exfalso;simp at hb;done)
   ·rw[if_pos rfl];simp only[Tm.cells,Vx,ZaU,YG,VJ,pkN]at hi hj hs ⊢;refine Jw tOk fe205.ok (Z7 _ _ _ _ _ _ _) ?_;(repeat' first|refine Ka ?_|(apply dCl;rfl;rfl;rfl;rfl;rfl;first|exact hi _|exact hj _|exact hs _)|refine Ku ?_|fail);all_goals first
     | exact Z7 _ _ _ _ _ _ _
     | rfl
     | (exfalso;simp at hb;done)
theorem ZkV (ha:a.okA=true) (hk:key.okA=true) (ha':a.Ok∧a.size≤100000) (hk':key.Ok∧key.size≤100000) (b:Bool):∀H,CO 205 [.agg (Tm.mk 3 YN 0 b [a,key]).cells] H (.agg (Xw (.mk 3 YN 0 b [a,key])).cells) H:=by
 have hi:=Zj5 a Xp;have hd:Xw (.mk 3 YN 0 b [a,key])=if(isA a Xp&&isA key pkN&&decide ((a.kd 1).cmp (key.kd 0)=0))=true then a.kd 0 else .mk 3 YN 0 b [a,key]:=by unfold Xw ZcC;simp[Zd1,Tm.nm,Tm.kd,V9,VW,VQ,YG,YN,Y1]
 rw[hd];cases hp:isA a Xp with
 |false=>
  rw[hp]at hi;rw[if_neg (by simp)];obtain⟨k1,n1,s1,f1,l1⟩:=a;obtain⟨k2,n2,s2,f2,l2⟩:=key;simp only[Tm.cells,Vx,YN]at hi ⊢;refine Jw tOk fe205.ok rfl ?_;repeat' first|refine Kr ?_|refine Jd (hi _) ?_|refine Kl ?_|fail
  all_goals first
   | exact Z7 _ _ _ _ _ _ _
   | rfl
   | (exfalso;simp at hb;done)
 |true=>
  rw[hp]at hi;obtain⟨b1,x,y,rfl⟩:=Xe ha hp rfl;have hj:=Zj5 key pkN;show ∀H,CO 205 _ H (.agg (Tm.cells (if(true&&isA key pkN&&decide (y.cmp (key.kd 0)=0))=true then x else _))) H;rw[Bool.true_and];cases hq:isA key pkN with
  | false=>
   rw[hq]at hj;rw[if_neg (by simp)];obtain⟨k1,n1,s1,f1,l1⟩:=x;obtain⟨k2,n2,s2,f2,l2⟩:=y;obtain⟨k3,n3,s3,f3,l3⟩:=key;simp only[Tm.cells,Vx,YN,Xp]at hi hj ⊢;refine Jw tOk fe205.ok rfl ?_;(repeat' first|refine Kr ?_|refine Jd (hi _) ?_|refine Jd (hj _) ?_|refine KA ?_|fail);all_goals first
    | exact Z7 _ _ _ _ _ _ _
    | rfl
    | (exfalso;simp at hb;done)
  | true=>
   rw[hq]at hj;obtain⟨b2,z,rfl⟩:=ZiM hk hq;have hs:=ZqM (VU ha' (x:=y) (by simp)) (VU hk' (x:=z) (by simp));rw[Bool.true_and];show ∀H,CO 205 _ H (.agg (Tm.cells (if decide (y.cmp z=0)=true then x else _))) H;generalize decide (y.cmp z=0)=c at hs ⊢;obtain⟨k1,n1,s1,f1,l1⟩:=x;obtain⟨k2,n2,s2,f2,l2⟩:=y;obtain⟨k3,n3,s3,f3,l3⟩:=z;cases c
   ·rw[if_neg (by decide)];simp only[Tm.cells,Vx,ZaU,YN,Xp,pkN]at hi hj hs ⊢;refine Jw tOk fe205.ok rfl ?_;(repeat' first|refine Ka ?_|(apply dCl;rfl;rfl;rfl;rfl;rfl;first|exact hi _|exact hj _|exact hs _)|refine KA ?_|fail);all_goals first
     | exact Z7 _ _ _ _ _ _ _
     | rfl
     | (exfalso;simp at hb;done)
   ·rw[if_pos rfl];simp only[Tm.cells,Vx,ZaU,YN,Xp,pkN]at hi hj hs ⊢;refine Jw tOk fe205.ok (Z7 _ _ _ _ _ _ _) ?_;(repeat' first|refine Ka ?_|(apply dCl;rfl;rfl;rfl;rfl;rfl;first|exact hi _|exact hj _|exact hs _)|refine Ku ?_|fail);all_goals first
     | exact Z7 _ _ _ _ _ _ _
     | rfl
     | (exfalso;simp at hb;done)
theorem Ztz {l:List α} (h:l.length=1):∃a,l= [a]:=by
 match l,h with
 | [a],_=>exact⟨a,rfl⟩
theorem ZqQ {l:List α} (h:l.length=2):∃a b,l= [a,b]:=by
 match l,h with
 | [a,b],_=>exact⟨a,b,rfl⟩
theorem ZbU (h:(YQ nm).kind=3):((nm=V9∨nm=VW∨nm=Y1)∧(YQ nm).least=1∧(YQ nm).most=1)∨((nm=VQ∨nm=YG∨nm=YN)∧(YQ nm).least=2∧(YQ nm).most=2):=by rcases Zaq nm with e|⟨e1,e2⟩;{rw[e]at h;exact absurd h (by decide)};{rw[← e2];rw[e2];revert h;have e3:=e2;generalize YQ nm=s at e1 e2 e3 ⊢;simp only[ZaM,List.mem_cons,List.not_mem_nil,or_false]at e1;rcases e1 with rfl|rfl|rfl|rfl|rfl|rfl|rfl|rfl|rfl|rfl|rfl|rfl|rfl|rfl|rfl|rfl|rfl|rfl|rfl|rfl|rfl<;>intro h<;>first|exact absurd h (by decide)|(subst e2;first|exact .inl ⟨.inl rfl,rfl,rfl⟩|exact .inl ⟨.inr (.inl rfl),rfl,rfl⟩|exact .inl ⟨.inr (.inr rfl),rfl,rfl⟩|exact .inr ⟨.inl rfl,rfl,rfl⟩|exact .inr ⟨.inr (.inl rfl),rfl,rfl⟩|exact .inr ⟨.inr (.inr rfl),rfl,rfl⟩)}
theorem Zul {ks:List Tm} (h0:(YQ nm).kind=3) (h1:(YQ nm).least≤ks.length) (h2:(ks.length:Int)≤(YQ nm).most) (hA:∀x,x∈ks→x.okA=true) (hS:SmL ks) (b:Bool):∀H,CO 205 [.agg (Tm.mk 3 nm 0 b ks).cells] H (.agg (Xw (.mk 3 nm 0 b ks)).cells) H:=by rcases ZbU h0 with⟨hn,e1,e2⟩|⟨hn,e1,e2⟩;{rw[e1]at h1;rw[e2]at h2;obtain⟨a,rfl⟩:=Ztz (l:=ks) (by omega);have ha:=hA a (by simp);rcases hn with rfl|rfl|rfl;{exact ZnR ha b};{exact ZnU ha b};{exact ZkP ha b}};{rw[e1]at h1;rw[e2]at h2;obtain⟨a,key,rfl⟩:=ZqQ (l:=ks) (by omega);have ha:=hA a (by simp);have hk:=hA key (by simp);have ha':=hS a (by simp);have hk':=hS key (by simp);rcases hn with rfl|rfl|rfl;{exact Znd ha hk ha' hk' b};{exact ZlA ha hk ha' hk' b};{exact ZkV ha hk ha' hk' b}}
theorem isR (t:Tm) (w:Bs):∀H,CO 230 [.agg t.cells,.str w] H (.bool (isA t w)) H:=by obtain⟨k,nm,s,b,kz⟩:=t;have e:isF k nm w=isA (.mk k nm s b kz) w:=rfl;rw[← e];exact Zum k nm s b kz w
theorem Yh (m:Nat) (H:Heap) (k:Int) (nm:Bs) (s:Int) (b:Bool) (l:List (List PV)) (x:Bool):frz3 m H (.tup [.agg [.int .i64 k,.str nm,.int .i64 s,slV b 4 l],.bool x])=some (.tup [.agg [.int .i64 k,.str nm,.int .i64 s,slV b 4 l],.bool x]):=by rw[Xu];simp only[Wu,frz2,Wr,Qz];rfl
theorem Zk2 (ha:a.okA=true) (b:Bool):∀H,CO 213 [.agg (Tm.mk 3 V9 0 b [a]).cells] H (.tup [.agg (Xw (.mk 3 V9 0 b [a])).cells,.bool (isA a XQ)]) H:=by
 have hi:=isR a XQ;have hd:Xw (.mk 3 V9 0 b [a])=if isA a XQ=true then a.kd 0 else .mk 3 V9 0 b [a]:=by unfold Xw ZcC;simp[Zd1,Tm.nm,Tm.kd,V9,VW,VQ,YG,YN,Y1]
 rw[hd];cases hp:isA a XQ with
 |true=>
  rw[hp]at hi;obtain⟨b1,x,y,rfl⟩:=Xe ha hp rfl;rw[if_pos rfl];show ∀H,CO 213 _ H (.tup [.agg (Tm.cells x),.bool true]) H;obtain⟨k1,n1,s1,f1,l1⟩:=x;obtain⟨k2,n2,s2,f2,l2⟩:=y;simp only[Tm.cells,Vx,ZaU,V9,XQ]at hi ⊢;refine Jw tOk fe213.ok (Yh _ _ _ _ _ _ _ _) ?_;repeat' first|refine Jc (hi _) ?_|refine Ka ?_|fail
  all_goals first
   | exact Yh _ _ _ _ _ _ _ _
   | (exfalso;simp at hb;done)
 |false=>
  rw[hp]at hi;rw[if_neg (by decide)];obtain⟨k1,n1,s1,f1,l1⟩:=a;simp only[Tm.cells,ZaU,V9]at hi ⊢;refine Jw tOk fe213.ok rfl ?_;repeat' first|refine Jk ?_|refine Jc (hi _) ?_|refine Kr ?_|refine Kl ?_|fail
  all_goals first
   | rfl
   | (exfalso;simp at hb;done)
theorem Zke (ha:a.okA=true) (b:Bool):∀H,CO 213 [.agg (Tm.mk 3 VW 0 b [a]).cells] H (.tup [.agg (Xw (.mk 3 VW 0 b [a])).cells,.bool (isA a XQ)]) H:=by
 have hi:=isR a XQ;have hd:Xw (.mk 3 VW 0 b [a])=if isA a XQ=true then a.kd 1 else .mk 3 VW 0 b [a]:=by unfold Xw ZcC;simp[Zd1,Tm.nm,Tm.kd,V9,VW,VQ,YG,YN,Y1]
 rw[hd];cases hp:isA a XQ with
 |true=>
  rw[hp]at hi;obtain⟨b1,x,y,rfl⟩:=Xe ha hp rfl;rw[if_pos rfl];show ∀H,CO 213 _ H (.tup [.agg (Tm.cells y),.bool true]) H;obtain⟨k1,n1,s1,f1,l1⟩:=x;obtain⟨k2,n2,s2,f2,l2⟩:=y;simp only[Tm.cells,Vx,ZaU,VW,XQ]at hi ⊢;refine Jw tOk fe213.ok (Yh _ _ _ _ _ _ _ _) ?_;repeat' first|refine Jk ?_|refine Jc (hi _) ?_|refine Ka ?_|fail
  all_goals first
   | exact Yh _ _ _ _ _ _ _ _
   | (exfalso;simp at hb;done)
 |false=>
  rw[hp]at hi;rw[if_neg (by decide)];obtain⟨k1,n1,s1,f1,l1⟩:=a;simp only[Tm.cells,ZaU,VW]at hi ⊢;refine Jw tOk fe213.ok rfl ?_;repeat' first|refine Jk ?_|refine Jc (hi _) ?_|refine Kr ?_|refine Kl ?_|fail
  all_goals first
   | rfl
   | (exfalso;simp at hb;done)
theorem Zjh (ha:a.okA=true) (b:Bool):∀H,CO 213 [.agg (Tm.mk 3 Y1 0 b [a]).cells] H (.tup [.agg (Xw (.mk 3 Y1 0 b [a])).cells,.bool (isA a Xp)]) H:=by
 have hi:=isR a Xp;have hd:Xw (.mk 3 Y1 0 b [a])=if isA a Xp=true then a.kd 0 else .mk 3 Y1 0 b [a]:=by unfold Xw ZcC;simp[Zd1,Tm.nm,Tm.kd,V9,VW,VQ,YG,YN,Y1]
 rw[hd];cases hp:isA a Xp with
 |true=>
  rw[hp]at hi;obtain⟨b1,x,y,rfl⟩:=Xe ha hp rfl;rw[if_pos rfl];show ∀H,CO 213 _ H (.tup [.agg (Tm.cells x),.bool true]) H;obtain⟨k1,n1,s1,f1,l1⟩:=x;obtain⟨k2,n2,s2,f2,l2⟩:=y;simp only[Tm.cells,Vx,ZaU,Y1,Xp]at hi ⊢;refine Jw tOk fe213.ok (Yh _ _ _ _ _ _ _ _) ?_;repeat' first|refine Jk ?_|refine Jc (hi _) ?_|refine Kr ?_|refine Kl ?_|fail
  all_goals first
   | exact Yh _ _ _ _ _ _ _ _
   | (exfalso;simp at hb;done)
 |false=>
  rw[hp]at hi;rw[if_neg (by decide)];obtain⟨k1,n1,s1,f1,l1⟩:=a;simp only[Tm.cells,ZaU,Y1]at hi ⊢;refine Jw tOk fe213.ok rfl ?_;repeat' first|refine Jk ?_|refine Jc (hi _) ?_|refine Kr ?_|refine Kl ?_|fail
  all_goals first
   | rfl
   | (exfalso;simp at hb;done)
theorem ZeR (ht:t.Ok∧t.size≤200000) (hu:u.Ok∧u.size≤200000):∀H,CO 59 [.agg t.cells,.agg u.cells] H (.bool (decide (t.cmp u=0))) H:=by
 have hc:∀H,CO 92 [.agg t.cells,.agg u.cells] H (.int .i64 (t.cmp u)) H:=fun H=>Zqa (d92 ht.1 hu.1 (by have:=ht.2;omega) (by have:=hu.2;omega) H);generalize t.cmp u=c at hc ⊢;obtain⟨k,nm,s,b,kz⟩:=t;obtain⟨k',nm',s',b',kz'⟩:=u;simp only[Tm.cells]at hc ⊢;refine Jw tOk fe59.ok rfl ?_;repeat' first|refine Jc (hc _) ?_|refine Jt ?_|refine Jb ?_ ?_|refine Jo ?_|intro hb
 all_goals simp_all
theorem up2 (h:t.Ok∧t.size≤100000):t.Ok∧t.size≤200000:=⟨h.1,Nat.le_trans h.2 (by decide)⟩
theorem Zj7 (ha:a.okA=true) (ha':a.Ok∧a.size≤100000) (hk':key.Ok∧key.size≤100000) (b:Bool):∀H,CO 213 [.agg (Tm.mk 3 VQ 0 b [a,key]).cells] H (.tup [.agg (Xw (.mk 3 VQ 0 b [a,key])).cells,.bool (isA a ZeN&&decide ((a.kd 1).cmp key=0))]) H:=by
 have hi:=isR a ZeN;have hd:Xw (.mk 3 VQ 0 b [a,key])=if(isA a ZeN&&decide ((a.kd 1).cmp key=0))=true then a.kd 0 else .mk 3 VQ 0 b [a,key]:=by unfold Xw ZcC;simp[Zd1,Tm.nm,Tm.kd,V9,VW,VQ,YG,YN,Y1]
 rw[hd];cases hp:isA a ZeN with
 |false=>
  rw[hp]at hi;rw[if_neg (by simp),Bool.false_and];obtain⟨k1,n1,s1,f1,l1⟩:=a;obtain⟨k2,n2,s2,f2,l2⟩:=key;simp only[Tm.cells,Vx,VQ]at hi ⊢;refine Jw tOk fe213.ok rfl ?_;repeat' first|refine Jk ?_|refine Kr ?_|refine Jd (hi _) ?_|refine KA ?_|fail
  all_goals first
   | exact Yh _ _ _ _ _ _ _ _
   | rfl
   | (exfalso;simp at hb;done)
 |true=>
  rw[hp]at hi;obtain⟨b1,x,y,rfl⟩:=Xe ha hp rfl;have hs:=ZeR (up2 (VU ha' (x:=y) (by simp))) (up2 hk');show ∀H,CO 213 _ H (.tup [.agg (Tm.cells (if(true&&decide (y.cmp key=0))=true then x else _)),.bool (true&&decide (y.cmp key=0))]) H;rw[Bool.true_and];generalize decide (y.cmp key=0)=c at hs ⊢;obtain⟨k1,n1,s1,f1,l1⟩:=x;obtain⟨k2,n2,s2,f2,l2⟩:=y;obtain⟨k3,n3,s3,f3,l3⟩:=key;cases c
  ·rw[if_neg (by decide)];simp only[Tm.cells,Vx,VQ,ZeN]at hi hs ⊢;refine Jw tOk fe213.ok rfl ?_;(repeat' first|refine Jk ?_|refine Kr ?_|refine Jd (hi _) ?_|refine Jd (hs _) ?_|refine KA ?_|fail);all_goals first
    | exact Yh _ _ _ _ _ _ _ _
    | rfl
    | (exfalso;simp at hb;done)
  ·rw[if_pos rfl];simp only[Tm.cells,Vx,VQ,ZeN]at hi hs ⊢;refine Jw tOk fe213.ok (Yh _ _ _ _ _ _ _ _) ?_;(repeat' first|refine Jk ?_|refine Ka ?_|refine Jd (hi _) ?_|refine Jd (hs _) ?_|refine Ku ?_|fail);all_goals first
    | exact Yh _ _ _ _ _ _ _ _
    | rfl
    | (exfalso;simp at hb;done)
