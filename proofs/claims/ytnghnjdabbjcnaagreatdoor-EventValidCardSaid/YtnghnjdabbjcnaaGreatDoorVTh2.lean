/-
  The symbols of the theory, and the terms that it allows: the reference's text.
-/
import Derived.Test.YtnghnjdabbjcnaaGreatDoorVTv3
set_option maxHeartbeats 0
set_option maxRecDepth 100000
namespace Go.Vm.Seat
variable {nm:List UInt8} {kz l:List Tm} {i:Nat} {t:Tm}
open Go.Proofs
theorem ZuA:∀H,CO 191 [] H (slV true 4 (ZbC ZaM)) H:=by have e:slV true 4 (ZbC ZaM)= .sl .none 4 (ZbC ZaM):=Zp _ _ _ _;rw[e];exact XB (x:=⟨191,[],.sl .none 4 (ZbC ZaM)⟩) tOk follows fOk zOk (fuel:=100) (k:=20) (by kernel_rfl)
theorem Qd {l:List Sym} {s:Sym} (h:l[i]? = some s):WX nm (l.drop i)=if(s.name==nm)=true then some s else WX nm (l.drop (i+1)):=by rw[Zw h];simp only[WX]
theorem ZtR (nm:List UInt8):∀H,CO 165 [.str nm] H (.agg (YQ nm).cells) H:=by
 have hc:=ZuA;obtain⟨l,hl⟩:∃l,l=ZaM:=⟨_,rfl⟩;have hlen:l.length=21:=by rw[hl];rfl
 unfold YQ;rw[← hl]at hc ⊢;refine Jw tOk fe165.ok rfl ?_;repeat' first|refine Jc (hc _) ?_|refine KN ?_|fail
 refine Wp.while (fun m tm H=>∃(i:Nat),∃base,i+m=l.length∧WX nm l=WX nm (l.drop i)∧tm=ovr base [(0,.str nm),(2,.ptr 0 4 0 0),(5,slV true 4 (ZbC l)),(6,.int .i64 (l.length:Int)),(7,.int .i64 (i:Int))]∧H=⟨[.cells 4 [[.str [],.int .i64 0,.int .i64 0,.int .i64 0]]],0,[],0⟩)
  (fun m tm H hI=>Wp.drop ?_) l.length _ _ ⟨0,_,by omega,by simp,Ze ⟨rfl,rfl,rfl,Zg (by rw[Ur]),rfl,trivial⟩,rfl⟩
 clear hc hl;obtain⟨i,base,hi,hgo,rfl,rfl⟩:=hI;rw[hgo];by_cases hlt:i<l.length
 ·obtain⟨s,hs⟩:∃s,l[i]? = some s:=⟨l[i],by simp⟩;rw[Qd hs];obtain⟨sn,sl,sm,sk⟩:=s;have hj:(ZbC l)[i]? = some [.str sn,.int .i64 sl,.int .i64 sm,.int .i64 sk]:=Zb2 hs;repeat' first|refine Jx ?_|refine Jb ?_ ?_|refine Jz ?_ ?_|refine Jo ?_|intro hb
  {rw[if_pos (by simpa using hb)];rfl}
  ·rw[if_neg (by simpa using hb)];exact DropQ.go [(0,.str nm),(2,.ptr 0 4 0 0),(5,slV true 4 (ZbC l)),(6,.int .i64 (l.length:Int)),(7,.int .i64 ((i+1:Nat):Int))] ⟨rfl,rfl,rfl,rfl,Zg (Zd (n:=i+1) (by omega)),trivial⟩
    (by simp[Zl,under]) rfl (by simp[Yy,ZO,under]) (LoopI.go (m-1) (by omega) ⟨i+1,_,by omega,rfl,rfl,rfl⟩)
  {exfalso;simp at hb;omega}
 ·have e:i=l.length:=by omega
  subst e;repeat' first|refine Jz ?_ ?_|refine Jo ?_|intro hb
  {exfalso;simp at hb};{rw[List.drop_length];rfl}
theorem Us {e:Int} (h:l[i]? = some t) (he:t.th=e):thL (l.drop i)=if e≠0 then e else thL (l.drop (i+1)):=by rw[Zw h];simp only[thL,he]
def YY (t:Tm):Bool:=match t with| .mk k _ s _ _=> !(decide (k=3))&&decide (s=1)
theorem Q0 (h:nm≠ [110,101,119]):Qy nm kz=kz.all YY:=by unfold Qy;rw[if_neg h];rfl
theorem ZtQ {b:Bool} (h:kz[i]? = some t):Zy E0 30 (slV b 4 (Za kz)) (.int .i64 (i:Int))=some (.fptr t.cells 0):=by refine Wd (E:=E0) (t:=30) (e:=39) rfl rfl rfl rfl b ?_;obtain⟨k,nm,s,b',kz'⟩:=t;exact Zj h
theorem Zca {p:Tm→Bool} (h:l[i]? = some t):(l.drop i).all p=(p t&&(l.drop (i+1)).all p):=by rw[Zw h];rfl
theorem Zvh (ht:t.Ok):∀H,CO 159 [.agg t.cells] H (.int .i64 t.th) H:=by
 induction ht with
 | @mk k nm s b kz hk hs hn hl hok ih=>
 have hc:=ZtR nm;obtain⟨R,hR⟩:∃R,R=(Tm.mk k nm s b kz).th:=⟨_,rfl⟩;rw[← hR];simp only[Tm.th]at hR;have hp:=Zhr (nm:=nm);obtain⟨sn,sl,sm,sk,sy⟩:∃sn sl sm sk,YQ nm=⟨sn,sl,sm,sk⟩:=⟨_,_,_,_,rfl⟩;rw[sy]at hc hR hp;simp only[]at hR hp;refine Jw tOk fe159.ok rfl ?_;repeat' first|refine Jk ?_|refine Jc (hc _) ?_|refine Kv ?_|refine Jb ?_ ?_|refine Jo ?_|intro hb
 all_goals first
  | (rw[hR,if_pos (by simpa using hb)];done)
  | (rw[hR,if_neg (by simpa using ‹(k != 3)=false›),if_pos (by simpa using hb)];done)
  | (rw[hR,if_neg (by simpa using ‹(k != 3)=false›),if_neg (by simpa using ‹((Sym.mk sn sl sm sk).kind==0)=false›),if_pos (by rw[Zb]at hb;simp at hb;omega)];done)
  | skip
 all_goals
  rw[if_neg (by simpa using ‹(k != 3)=false›),if_neg (by simpa using ‹((Sym.mk sn sl sm sk).kind==0)=false›),if_neg (by
   have h1:= ‹decide (((Za kz).length:Int)<(Sym.mk sn sl sm sk).least)=false›
   have h2:= ‹decide ((Sym.mk sn sl sm sk).most<((Za kz).length:Int))=false›
   rw[Zb]at h1 h2
   simp at h1 h2
   omega)]at hR
  clear hc
  unfold maxLen at hl
 ·have e:nm= [115,107]:=by simpa using hb
  have hsk:sk=2:=hp.2 (by simp[e]);rw[Q0 (by rw[e];simp)]at hR;refine Wp.while (fun m tm H=>∃(i:Nat),∃base,i+m=kz.length∧kz.all YY=(kz.drop i).all YY∧tm=ovr base [(1,.ptr 0 4 0 0),(38,slV b 4 (Za kz)),(39,.int .i64 (kz.length:Int)),(40,.int .i64 (i:Int))]∧H=⟨[.cells 4 [[.int .i64 k,.str nm,.int .i64 s,slV b 4 (Za kz)]],.cells 4 [[.str sn,.int .i64 sl,.int .i64 sm,.int .i64 sk]]],0,[],0⟩)
   (fun m tm H hI=>Wp.drop ?_) kz.length _ _ ⟨0,_,by omega,by simp,Ze ⟨rfl,rfl,Zg (by rw[Zb]),rfl,trivial⟩,rfl⟩
  obtain⟨i,base,hi,hall,rfl,rfl⟩:=hI;by_cases hlt:i<kz.length
  ·obtain⟨t',ht'⟩:∃t',kz[i]? = some t':=⟨kz[i],by simp⟩;rw[Zca ht']at hall;obtain⟨k',nm',s',b',kz'⟩:=t';have hj:=Zj ht';(repeat' first|refine Jk ?_|refine Kx ?_|refine Jt ?_|refine Jb ?_ ?_|refine Jz ?_ ?_|refine Jo ?_|intro hb);{rw[hR,if_pos ⟨hsk,by rw[hall];simp at hb;simp[YY,hb]⟩]};{rw[hR,if_pos ⟨hsk,by rw[hall];simp at hb;simp[YY,hb]⟩]}
   ·(have hA : YY (Tm.mk k' nm' s' b' kz') = true := by have h1:= ‹(k'==3)=false›;have h2:= ‹(s' != 1)=false›;simp at h1 h2;simp[YY,h1,h2]);rw[hA,Bool.true_and]at hall;exact DropQ.go [(1,.ptr 0 4 0 0),(38,slV b 4 (Za kz)),(39,.int .i64 (kz.length:Int)),(40,.int .i64 ((i+1:Nat):Int))] ⟨rfl,rfl,rfl,Zg (Zd (n:=i+1) (by omega)),trivial⟩
     (by simp[Zl,under]) rfl (by simp[Yy,ZO,Zl,under]) (LoopI.go (m-1) (by omega) ⟨i+1,_,by omega,hall,rfl,rfl⟩)
   {exfalso;simp at hb;omega}
  ·(have e : i = kz.length := by omega);subst e;(repeat' first|refine Jl ?_|refine Jz ?_ ?_|refine Jo ?_|intro hb);{exfalso;simp at hb};(have hall:kz.all YY=true:=by rw[hall,List.drop_length];rfl);rw[if_neg (by simp[hall])]at hR;refine Wp.while (fun m tm H=>∃(i:Nat),∃base,i+m=kz.length∧R=thL (kz.drop i)∧tm=ovr base [(62,slV b 4 (Za kz)),(63,.int .i64 (kz.length:Int)),(64,.int .i64 (i:Int))]∧H=⟨[.cells 4 [[.int .i64 k,.str nm,.int .i64 s,slV b 4 (Za kz)]],.cells 4 [[.str sn,.int .i64 sl,.int .i64 sm,.int .i64 sk]]],0,[],0⟩)
    (fun m tm H hI=>Wp.drop ?_) kz.length _ _ ⟨0,_,by omega,by simpa using hR,Ze ⟨rfl,Zg (by rw[Zb]),rfl,trivial⟩,rfl⟩
   clear hR;obtain⟨i,base,hi,hR,rfl,rfl⟩:=hI;by_cases hlt:i<kz.length
   ·obtain⟨t',ht'⟩:∃t',kz[i]? = some t':=⟨kz[i],by simp⟩;have hm:t'∈kz:=List.mem_of_getElem? ht';have hc:=ih t' hm;obtain⟨e1,he1⟩:∃e1,t'.th=e1:=⟨_,rfl⟩;rw[he1]at hc;rw[Us ht' he1]at hR;obtain⟨k',nm',s',b',kz'⟩:=t';have hj:=Zj ht';(repeat' first|refine Jc (hc _) ?_|refine Jx ?_|refine Jb ?_ ?_|refine Jz ?_ ?_|refine Jo ?_|intro hb);{rw[hR,if_pos (by simpa using hb)]}
    ·rw[if_neg (by simpa using hb)]at hR;exact DropQ.go [(62,slV b 4 (Za kz)),(63,.int .i64 (kz.length:Int)),(64,.int .i64 ((i+1:Nat):Int))] ⟨rfl,rfl,Zg (Zd (n:=i+1) (by omega)),trivial⟩
      (by simp[Zl,under]) rfl (by simp[Yy,ZO,Zl,under]) (LoopI.go (m-1) (by omega) ⟨i+1,_,by omega,hR,rfl,rfl⟩)
    {exfalso;first|(simp at hb;omega)|(simp at hb hlt;omega)}
   {(have e:i=kz.length:=by omega);subst e;(repeat' first|refine Jz ?_ ?_|refine Jo ?_|intro hb);{exfalso;simp at hb};{rw[hR,List.drop_length];simp[thL]}}
 ·have e:nm= [115,104,107]:=by simpa using hb
  have hsk:sk=2:=hp.2 (by simp[e]);rw[Q0 (by rw[e];simp)]at hR;refine Wp.while (fun m tm H=>∃(i:Nat),∃base,i+m=kz.length∧kz.all YY=(kz.drop i).all YY∧tm=ovr base [(1,.ptr 0 4 0 0),(38,slV b 4 (Za kz)),(39,.int .i64 (kz.length:Int)),(40,.int .i64 (i:Int))]∧H=⟨[.cells 4 [[.int .i64 k,.str nm,.int .i64 s,slV b 4 (Za kz)]],.cells 4 [[.str sn,.int .i64 sl,.int .i64 sm,.int .i64 sk]]],0,[],0⟩)
   (fun m tm H hI=>Wp.drop ?_) kz.length _ _ ⟨0,_,by omega,by simp,Ze ⟨rfl,rfl,Zg (by rw[Zb]),rfl,trivial⟩,rfl⟩
  obtain⟨i,base,hi,hall,rfl,rfl⟩:=hI;by_cases hlt:i<kz.length
  ·obtain⟨t',ht'⟩:∃t',kz[i]? = some t':=⟨kz[i],by simp⟩;rw[Zca ht']at hall;obtain⟨k',nm',s',b',kz'⟩:=t';have hj:=Zj ht';(repeat' first|refine Jk ?_|refine Kx ?_|refine Jt ?_|refine Jb ?_ ?_|refine Jz ?_ ?_|refine Jo ?_|intro hb);{rw[hR,if_pos ⟨hsk,by rw[hall];simp at hb;simp[YY,hb]⟩]};{rw[hR,if_pos ⟨hsk,by rw[hall];simp at hb;simp[YY,hb]⟩]}
   ·(have hA : YY (Tm.mk k' nm' s' b' kz') = true := by have h1:= ‹(k'==3)=false›;have h2:= ‹(s' != 1)=false›;simp at h1 h2;simp[YY,h1,h2]);rw[hA,Bool.true_and]at hall;exact DropQ.go [(1,.ptr 0 4 0 0),(38,slV b 4 (Za kz)),(39,.int .i64 (kz.length:Int)),(40,.int .i64 ((i+1:Nat):Int))] ⟨rfl,rfl,rfl,Zg (Zd (n:=i+1) (by omega)),trivial⟩
     (by simp[Zl,under]) rfl (by simp[Yy,ZO,Zl,under]) (LoopI.go (m-1) (by omega) ⟨i+1,_,by omega,hall,rfl,rfl⟩)
   {exfalso;simp at hb;omega}
  ·(have e : i = kz.length := by omega);subst e;(repeat' first|refine Jl ?_|refine Jz ?_ ?_|refine Jo ?_|intro hb);{exfalso;simp at hb};(have hall:kz.all YY=true:=by rw[hall,List.drop_length];rfl);rw[if_neg (by simp[hall])]at hR;refine Wp.while (fun m tm H=>∃(i:Nat),∃base,i+m=kz.length∧R=thL (kz.drop i)∧tm=ovr base [(62,slV b 4 (Za kz)),(63,.int .i64 (kz.length:Int)),(64,.int .i64 (i:Int))]∧H=⟨[.cells 4 [[.int .i64 k,.str nm,.int .i64 s,slV b 4 (Za kz)]],.cells 4 [[.str sn,.int .i64 sl,.int .i64 sm,.int .i64 sk]]],0,[],0⟩)
    (fun m tm H hI=>Wp.drop ?_) kz.length _ _ ⟨0,_,by omega,by simpa using hR,Ze ⟨rfl,Zg (by rw[Zb]),rfl,trivial⟩,rfl⟩
   clear hR;obtain⟨i,base,hi,hR,rfl,rfl⟩:=hI;by_cases hlt:i<kz.length
   ·obtain⟨t',ht'⟩:∃t',kz[i]? = some t':=⟨kz[i],by simp⟩;have hm:t'∈kz:=List.mem_of_getElem? ht';have hc:=ih t' hm;obtain⟨e1,he1⟩:∃e1,t'.th=e1:=⟨_,rfl⟩;rw[he1]at hc;rw[Us ht' he1]at hR;obtain⟨k',nm',s',b',kz'⟩:=t';have hj:=Zj ht';(repeat' first|refine Jc (hc _) ?_|refine Jx ?_|refine Jb ?_ ?_|refine Jz ?_ ?_|refine Jo ?_|intro hb);{rw[hR,if_pos (by simpa using hb)]}
    ·rw[if_neg (by simpa using hb)]at hR;exact DropQ.go [(62,slV b 4 (Za kz)),(63,.int .i64 (kz.length:Int)),(64,.int .i64 ((i+1:Nat):Int))] ⟨rfl,rfl,Zg (Zd (n:=i+1) (by omega)),trivial⟩
      (by simp[Zl,under]) rfl (by simp[Yy,ZO,Zl,under]) (LoopI.go (m-1) (by omega) ⟨i+1,_,by omega,hR,rfl,rfl⟩)
    {exfalso;first|(simp at hb;omega)|(simp at hb hlt;omega)}
   {(have e:i=kz.length:=by omega);subst e;(repeat' first|refine Jz ?_ ?_|refine Jo ?_|intro hb);{exfalso;simp at hb};{rw[hR,List.drop_length];simp[thL]}}
 ·have e:nm= [110,101,119]:=by simpa using hb
  subst e;obtain⟨rfl,rfl,rfl,rfl⟩:sn= [110,101,119]∧sl=1∧sm=8∧sk=2:=by have:YQ [110,101,119]=⟨[110,101,119],1,8,2⟩:=rfl;rw[this]at sy;cases sy;exact⟨rfl,rfl,rfl,rfl⟩
  obtain⟨a,r,rfl⟩:∃a r,kz=a::r:=by
   cases kz with
   | nil =>
     exfalso
     have h1:= ‹decide (((Za []).length:Int)<_)=false›
     rw[Zb]at h1
     simp at h1
   | cons a r=>exact⟨a,r,rfl⟩
  obtain⟨ka,na,sa,ba,la⟩:=a;have hj:=ZtQ (b:=b) (show(Tm.mk ka na sa ba la::r)[0]? = some (Tm.mk ka na sa ba la) from rfl);repeat' first|refine JJ ?_|refine Jl ?_|refine Jb ?_ ?_|refine Jo ?_|intro hb
  {rw[hR,if_pos ⟨rfl,by simp at hb;simp[Qy,hb]⟩]}
  ·rw[if_neg (by simp at hb; simp[Qy, hb])]at hR;clear hj;refine Wp.while (fun m tm H=>∃(i:Nat),∃base,i+m=(Tm.mk ka na sa ba la::r).length∧R=thL ((Tm.mk ka na sa ba la::r).drop i)∧tm=ovr base [(62,slV b 4 (Za (Tm.mk ka na sa ba la::r))),(63,.int .i64 ((Tm.mk ka na sa ba la::r).length:Int)),(64,.int .i64 (i:Int))]∧H=⟨[.cells 4 [[.int .i64 k,.str [110,101,119],.int .i64 s,slV b 4 (Za (Tm.mk ka na sa ba la::r))]],.cells 4 [[.str [110,101,119],.int .i64 1,.int .i64 8,.int .i64 2]]],0,[],0⟩)
    (fun m tm H hI=>Wp.drop ?_) (Tm.mk ka na sa ba la::r).length _ _ ⟨0,_,by omega,by simpa using hR,Ze ⟨rfl,Zg (by rw[Zb]),rfl,trivial⟩,rfl⟩
   clear hR;obtain⟨i,base,hi,hR,rfl,rfl⟩:=hI;by_cases hlt:i<(Tm.mk ka na sa ba la::r).length
   ·obtain⟨t',ht'⟩:∃t',(Tm.mk ka na sa ba la::r)[i]? = some t':=⟨(Tm.mk ka na sa ba la::r)[i],by simp⟩;have hm:t'∈(Tm.mk ka na sa ba la::r):=List.mem_of_getElem? ht';have hc:=ih t' hm;obtain⟨e1,he1⟩:∃e1,t'.th=e1:=⟨_,rfl⟩;rw[he1]at hc;rw[Us ht' he1]at hR;obtain⟨k',nm',s',b',kz'⟩:=t';have hj:=Zj ht';(repeat' first|refine Jc (hc _) ?_|refine Jx ?_|refine Jb ?_ ?_|refine Jz ?_ ?_|refine Jo ?_|intro hb);{rw[hR,if_pos (by simpa using hb)]}
    ·rw[if_neg (by simpa using hb)]at hR;exact DropQ.go [(62,slV b 4 (Za (Tm.mk ka na sa ba la::r))),(63,.int .i64 ((Tm.mk ka na sa ba la::r).length:Int)),(64,.int .i64 ((i+1:Nat):Int))] ⟨rfl,rfl,Zg (Zd (n:=i+1) (by omega)),trivial⟩
      (by simp[Zl,under]) rfl (by simp[Yy,ZO,Zl,under]) (LoopI.go (m-1) (by omega) ⟨i+1,_,by omega,hR,rfl,rfl⟩)
    {exfalso;first|(simp at hb;omega)|(simp at hb hlt;omega)}
   {(have e:i=(Tm.mk ka na sa ba la::r).length:=by omega);subst e;(repeat' first|refine Jz ?_ ?_|refine Jo ?_|intro hb);{exfalso;simp at hb};{rw[hR,List.drop_length];simp[thL]}}
 ·have hR:R=thL kz:=by rw[hR,if_neg];rintro⟨h1,h2⟩;rcases hp.1 h1 with e|e|e<;>(subst e;simp at *)
  refine Wp.while (fun m tm H=>∃(i:Nat),∃base,i+m=kz.length∧R=thL (kz.drop i)∧tm=ovr base [(62,slV b 4 (Za kz)),(63,.int .i64 (kz.length:Int)),(64,.int .i64 (i:Int))]∧H=⟨[.cells 4 [[.int .i64 k,.str nm,.int .i64 s,slV b 4 (Za kz)]],.cells 4 [[.str sn,.int .i64 sl,.int .i64 sm,.int .i64 sk]]],0,[],0⟩)
   (fun m tm H hI=>Wp.drop ?_) kz.length _ _ ⟨0,_,by omega,by simpa using hR,Ze ⟨rfl,Zg (by rw[Zb]),rfl,trivial⟩,rfl⟩
  clear hR;obtain⟨i,base,hi,hR,rfl,rfl⟩:=hI;by_cases hlt:i<kz.length
  ·obtain⟨t',ht'⟩:∃t',kz[i]? = some t':=⟨kz[i],by simp⟩;have hm:t'∈kz:=List.mem_of_getElem? ht';have hc:=ih t' hm;obtain⟨e1,he1⟩:∃e1,t'.th=e1:=⟨_,rfl⟩;rw[he1]at hc;rw[Us ht' he1]at hR;obtain⟨k',nm',s',b',kz'⟩:=t';have hj:=Zj ht';(repeat' first|refine Jc (hc _) ?_|refine Jx ?_|refine Jb ?_ ?_|refine Jz ?_ ?_|refine Jo ?_|intro hb);{rw[hR,if_pos (by simpa using hb)]}
   ·rw[if_neg (by simpa using hb)]at hR;exact DropQ.go [(62,slV b 4 (Za kz)),(63,.int .i64 (kz.length:Int)),(64,.int .i64 ((i+1:Nat):Int))] ⟨rfl,rfl,Zg (Zd (n:=i+1) (by omega)),trivial⟩
     (by simp[Zl,under]) rfl (by simp[Yy,ZO,Zl,under]) (LoopI.go (m-1) (by omega) ⟨i+1,_,by omega,hR,rfl,rfl⟩)
   {exfalso;first|(simp at hb;omega)|(simp at hb hlt;omega)}
  {(have e:i=kz.length:=by omega);subst e;(repeat' first|refine Jz ?_ ?_|refine Jo ?_|intro hb);{exfalso;simp at hb};{rw[hR,List.drop_length];simp[thL]}}
theorem Zti (ht:t.Ok) (hsz:t.size<4611686018427387000):∀H,CO 119 [.agg t.cells] H (.int .i64 (if t.valid≠0 then t.valid else t.th)) H:=by
 have h1:=c65 ht hsz;have h2:=Zvh ht;generalize t.valid=e at h1;generalize t.th=e2 at h2;obtain⟨k,nm,s,b,kz⟩:=t;refine Jw tOk fe119.ok rfl ?_;repeat' first|refine Jc (h1 _) ?_|refine Jc (h2 _) ?_|refine Jb ?_ ?_|refine Jo ?_|intro hb
 {rw[if_pos (by simpa using hb)]};{rw[if_neg (by simpa using hb)]}
theorem ZtS:∀H,CO 196 [] H (slV true 4 (ZbC ZaM)) H:=by have e:slV true 4 (ZbC ZaM)= .sl .none 4 (ZbC ZaM):=Zp _ _ _ _;rw[e];exact XB (x:=⟨196,[],.sl .none 4 (ZbC ZaM)⟩) tOk follows fOk zOk (fuel:=100) (k:=20) (by kernel_rfl)
theorem Zsa (nm:List UInt8):∀H,CO 170 [.str nm] H (.int .i64 (YQ nm).kind) H:=by
 have hc:=ZtS;obtain⟨l,hl⟩:∃l,l=ZaM:=⟨_,rfl⟩;have hlen:l.length=21:=by rw[hl];rfl
 unfold YQ;rw[← hl]at hc ⊢;refine Jw tOk fe170.ok rfl ?_;repeat' first|refine Jc (hc _) ?_|refine Jo ?_|fail
 refine Wp.while (fun m tm H=>∃(i:Nat),∃base,i+m=l.length∧WX nm l=WX nm (l.drop i)∧tm=ovr base [(0,.str nm),(3,slV true 4 (ZbC l)),(4,.int .i64 (i:Int))]∧H=⟨[],0,[],0⟩)
  (fun m tm H hI=>?_) l.length _ _ ⟨0,_,by omega,by simp,Ze ⟨rfl,rfl,rfl,trivial⟩,rfl⟩
 clear hc hl;obtain⟨i,base,hi,hgo,rfl,rfl⟩:=hI;rw[hgo];by_cases hlt:i<l.length
 ·obtain⟨s,hs⟩:∃s,l[i]? = some s:=⟨l[i],by simp⟩;rw[Qd hs];obtain⟨sn,sl,sm,sk⟩:=s;have hj:(ZbC l)[i]? = some [.str sn,.int .i64 sl,.int .i64 sm,.int .i64 sk]:=Zb2 hs;repeat' first|refine Kx ?_|refine Jb ?_ ?_|refine Jo ?_|intro hb
  {rw[if_pos (by simpa using hb)];rfl};{rw[if_neg (by simpa using hb)];exact LoopI.go (m-1) (by omega) ⟨i+1,_,by omega,rfl,Ze ⟨rfl,rfl,Zg (Zd (n:=i+1) (by omega)),trivial⟩,rfl⟩};{exfalso;rw[Ur]at hb;simp at hb;omega}
 ·have e:i=l.length:=by omega
  subst e;repeat' first|refine Jl ?_|refine Jb ?_ ?_|refine Jo ?_|intro hb
  {exfalso;rw[Ur]at hb;simp at hb};{rw[List.drop_length];rfl}
def Zev (o:Option Sym) (n:Int):Bool:=match o with
 |none=>false
 |some s=>decide (s.least≤n)&&decide (n≤s.most)
theorem ZuL (k:Int) (nm:List UInt8) (s:Int) (b:Bool) (kz:List Tm):∀H,CO 192 [.agg [.int .i64 k,.str nm,.int .i64 s,slV b 4 (Za kz)]] H (.bool (Zev (WX nm ZaM) (kz.length:Int))) H:=by
 have hc:=ZtS;obtain⟨l,hl⟩:∃l,l=ZaM:=⟨_,rfl⟩;have hlen:l.length=21:=by rw[hl];rfl
 rw[← hl]at hc ⊢;refine Jw tOk fe192.ok rfl ?_;repeat' first|refine Jc (hc _) ?_|refine Ka ?_|fail
 refine Wp.while (fun m tm H=>∃(i:Nat),∃base,i+m=l.length∧WX nm l=WX nm (l.drop i)∧tm=ovr base [(1,.ptr 0 4 0 0),(3,slV true 4 (ZbC l)),(4,.int .i64 (i:Int))]∧H=⟨[.cells 4 [[.int .i64 k,.str nm,.int .i64 s,slV b 4 (Za kz)]]],0,[],0⟩)
  (fun m tm H hI=>?_) l.length _ _ ⟨0,_,by omega,by simp,Ze ⟨rfl,rfl,rfl,trivial⟩,rfl⟩
 clear hc hl;obtain⟨i,base,hi,hgo,rfl,rfl⟩:=hI;rw[hgo];by_cases hlt:i<l.length
 ·obtain⟨s,hs⟩:∃s,l[i]? = some s:=⟨l[i],by simp⟩;rw[Qd hs];obtain⟨sn,sl,sm,sk⟩:=s;have hj:(ZbC l)[i]? = some [.str sn,.int .i64 sl,.int .i64 sm,.int .i64 sk]:=Zb2 hs;repeat' first|refine Kv ?_|refine Jb ?_ ?_|refine Jo ?_|(apply dK;rfl;rfl;rfl)|(apply dLn;rfl;rfl;rfl;rfl;rfl)|refine JI ?_|refine Kc ?_|(apply dB (ty:=4);rfl;rfl;rfl;rfl)|refine Kb ?_|intro hb
  {rw[if_pos (by simpa using ‹(sn==nm)=true›)];have h1:= ‹decide (sl≤((Za kz).length:Int))=true›;rw[Zb]at h1 hb;simp only[Zev,h1,hb,Bool.and_self]};{rw[if_pos (by simpa using ‹(sn==nm)=true›)];rw[Zb]at hb;simp only[Zev,hb,Bool.and_false]};{rw[if_pos (by simpa using ‹(sn==nm)=true›)];rw[Zb]at hb;simp only[Zev,hb,Bool.false_and]};{rw[if_neg (by simpa using hb)];exact LoopI.go (m-1) (by omega) ⟨i+1,_,by omega,rfl,Ze ⟨rfl,rfl,Zg (Zd (n:=i+1) (by omega)),trivial⟩,rfl⟩};{exfalso;rw[Ur]at hb;simp at hb;omega}
 ·have e:i=l.length:=by omega
  subst e;repeat' first|refine Kv ?_|refine Jb ?_ ?_|refine Jo ?_|refine Kb ?_|intro hb
  {exfalso;rw[Ur]at hb;simp at hb};{rw[List.drop_length];rfl}
theorem Zug (k:Int) (nm:List UInt8) (s:Int) (b:Bool) (kz:List Tm) (hl:kz.length≤maxLen) (hne:nm= [110,101,119]→kz≠ []):∀H,CO 193 [.agg [.int .i64 k,.str nm,.int .i64 s,slV b 4 (Za kz)]] H (.bool (Qy nm kz)) H:=by
 refine Jw tOk fe193.ok rfl ?_;by_cases e:nm= [110,101,119]
 ·subst e;obtain⟨a,r,rfl⟩:∃a r,kz=a::r:=by
   cases kz with
   | nil=>exact absurd rfl (hne rfl)
   | cons a r=>exact⟨a,r,rfl⟩
  obtain⟨ka,na,sa,ba,la⟩:=a;have hj:=ZtQ (b:=b) (show(Tm.mk ka na sa ba la::r)[0]? = some (Tm.mk ka na sa ba la) from rfl);repeat' first|refine JJ ?_|refine Jt ?_|refine Jb ?_ ?_|refine Jo ?_|intro hb
  {simp at hb;simp[Qy,hb]};{simp at hb;simp[Qy,hb]}
 ·rw[Q0 e];repeat' first|refine Jt ?_|refine Jb ?_ ?_|refine Jo ?_|intro hb
  {exfalso;exact e (by simpa using hb)};unfold maxLen at hl;refine Wp.while (fun m tm H=>∃(i:Nat),∃base,i+m=kz.length∧kz.all YY=(kz.drop i).all YY∧tm=ovr base [(1,.ptr 0 4 0 0),(3,.int .i64 (i:Int))]∧H=⟨[.cells 4 [[.int .i64 k,.str nm,.int .i64 s,slV b 4 (Za kz)]]],0,[],0⟩)
   (fun m tm H hI=>?_) kz.length _ _ ⟨0,_,by omega,by simp,Ze ⟨rfl,rfl,trivial⟩,rfl⟩
  obtain⟨i,base,hi,hall,rfl,rfl⟩:=hI;rw[hall];by_cases hlt:i<kz.length;{obtain⟨t',ht'⟩:∃t',kz[i]? = some t':=⟨kz[i],by simp⟩;rw[Zca ht'];obtain⟨k',nm',s',b',kz'⟩:=t';have hj:=Zj ht';(repeat' first|refine Jk ?_|refine Kx ?_|refine Jt ?_|refine Jb ?_ ?_|refine Jo ?_|intro hb);{simp at hb;simp[YY,hb]};{simp at hb;simp[YY,hb]};{(have hA:YY (Tm.mk k' nm' s' b' kz')=true:=by have h1:= ‹(k'==3)=false›;have h2:= ‹(s' != 1)=false›;simp at h1 h2;simp[YY,h1,h2]);rw[hA,Bool.true_and];exact LoopI.go (m-1) (by omega) ⟨i+1,_,by omega,rfl,Ze ⟨rfl,Zg (Zd (n:=i+1) (by omega)),trivial⟩,rfl⟩};{exfalso;rw[Zb]at hb;simp at hb;omega}};{(have e:i=kz.length:=by omega);subst e;(repeat' first|refine Kv ?_|refine Jb ?_ ?_|refine Jo ?_|intro hb);{exfalso;rw[Zb]at hb;simp at hb};{rw[List.drop_length];rfl}}
theorem Zkw {n:Int} (h:(YQ nm).kind≠0):Zev (WX nm ZaM) n= !(decide (n<(YQ nm).least∨(YQ nm).most<n)):=by
 unfold YQ at *;cases e:WX nm ZaM with
 |none=>rw[e]at h;exact absurd rfl h
 |some s=>simp only[Zev,Option.getD_some];rw[Bool.eq_iff_iff];simp only[Bool.and_eq_true,decide_eq_true_eq,Bool.not_eq_true',decide_eq_false_iff_not];omega
theorem ZuE (ht:t.Ok):∀H,CO 166 [.agg t.cells] H (.int .i64 t.th) H:=by
 induction ht with
 | @mk k nm s b kz hk hs hn hl hok ih=>
 have hc:=Zsa nm;have hc2:=ZuL k nm s b kz;obtain⟨R,hR⟩:∃R,R=(Tm.mk k nm s b kz).th:=⟨_,rfl⟩;rw[← hR];simp only[Tm.th]at hR;by_cases hne:nm= [110,101,119]→kz≠ []
 ·have hc3:=Zug k nm s b kz hl hne;have hf:=Zkw (nm:=nm) (n:=(kz.length:Int));generalize Zev (WX nm ZaM) (kz.length:Int)=F at hc2 hf;generalize Qy nm kz=G at hc3 hR;obtain⟨sn,sl,sm,sk,sy⟩:∃sn sl sm sk,YQ nm=⟨sn,sl,sm,sk⟩:=⟨_,_,_,_,rfl⟩;rw[sy]at hc hR hf;simp only[]at hR hf hc;refine Jw tOk fe166.ok rfl ?_;repeat' first|refine Jk ?_|(apply qCl;rfl;rfl;rfl;rfl;first|exact hc _|exact hc2 _|exact hc3 _)|refine Jt ?_|refine Jb ?_ ?_|refine Jo ?_|intro hb
  {rw[hR,if_pos (by simpa using hb)]};{rw[hR,if_neg (by simpa using ‹(k != 3)=false›),if_pos (by simpa using hb)]};all_goals
   have hk0:sk≠0:=by simpa using ‹(sk==0)=false›
   rw[if_neg (by simpa using ‹(k != 3)=false›),if_neg hk0]at hR
   have hf:=hf hk0
  ·(have h1 : F = false := by simpa using hb);rw[h1]at hf;have h2:decide ((kz.length:Int)<sl∨sm<(kz.length:Int))=true:=by
    cases e:decide ((kz.length:Int)<sl∨sm<(kz.length:Int)) with
    | true=>rfl
    | false=>rw[e]at hf;exact absurd hf (by simp)
   rw[hR,if_pos (of_decide_eq_true h2)]
  all_goals
   have h1:F=true:=by simpa using ‹(!F)=false›
   rw[h1]at hf
   have h2:decide ((kz.length:Int)<sl∨sm<(kz.length:Int))=false:=by
    cases e:decide ((kz.length:Int)<sl∨sm<(kz.length:Int)) with
    | false=>rfl
    | true=>rw[e]at hf;exact absurd hf (by simp)
   rw[if_neg (of_decide_eq_false h2)]at hR
  {rw[hR,if_pos ⟨by simpa using ‹(sk==2)=true›,by simpa using hb⟩]};all_goals
   have hR:R=thL kz:=by
    rw[hR,if_neg]
    rintro⟨h1,h2⟩
    first
     | (subst h2;simp at hb;done)
     | (subst h1;simp at hb;done)
   clear hc hc2 hc3 hf
   unfold maxLen at hl
   refine Wp.while (fun m tm H=>∃(i:Nat),∃base,i+m=kz.length∧R=thL (kz.drop i)∧tm=ovr base [(1,.ptr 0 4 0 0),(4,.int .i64 (i:Int))]∧H=⟨[.cells 4 [[.int .i64 k,.str nm,.int .i64 s,slV b 4 (Za kz)]]],0,[],0⟩)
    (fun m tm H hI=>?_) kz.length _ _ ⟨0,_,by omega,by simpa using hR,Ze ⟨rfl,rfl,trivial⟩,rfl⟩
   clear hR
   obtain⟨i,base,hi,hR,rfl,rfl⟩:=hI
   by_cases hlt:i<kz.length
   · obtain⟨t', ht'⟩ : ∃t', kz[i]? = some t' := ⟨kz[i], by simp⟩
     have hm:t'∈kz:=List.mem_of_getElem? ht'
     have hc:=ih t' hm
     obtain⟨e1,he1⟩:∃e1,t'.th=e1:=⟨_,rfl⟩
     rw[he1]at hc
     rw[Us ht' he1]at hR
     obtain⟨k',nm',s',b',kz'⟩:=t'
     have hj:=Zj ht'
     repeat' first|refine Jc (hc _) ?_|refine Kx ?_|refine Jb ?_ ?_|refine Jo ?_|intro hb
     · rw[hR,if_pos (by simpa using hb)]
     · rw[if_neg (by simpa using hb)]at hR
       exact LoopI.go (m-1) (by omega) ⟨i+1,_,by omega,hR,Ze ⟨rfl,Zg (Zd (n:=i+1) (by omega)),trivial⟩,rfl⟩
     · exfalso;rw[Zb]at hb;simp at hb;omega
   · have e : i = kz.length := by omega
     subst e
     repeat' first|refine Jl ?_|refine Jb ?_ ?_|refine Jo ?_|intro hb
     · exfalso;rw[Zb]at hb;simp at hb
     · rw[hR, List.drop_length]
       simp[thL]
 ·obtain⟨rfl,rfl⟩:nm= [110,101,119]∧kz= []:=by by_cases e:nm= [110,101,119];{exact⟨e,Classical.byContradiction fun h=>hne fun _=>h⟩};{exact absurd (fun h=>absurd h e) hne}
  have hc:∀H,CO 170 [.str [110,101,119]] H (.int .i64 2) H:=hc;have hc2:∀H,CO 192 [.agg [.int .i64 k,.str [110,101,119],.int .i64 s,slV b 4 (Za [])]] H (.bool false) H:=hc2;have h6:R=if k≠3 then 0 else 6:=hR
  clear hR;refine Jw tOk fe166.ok rfl ?_;repeat' first|refine Jc (hc _) ?_|refine Jc (hc2 _) ?_|refine Jt ?_|refine Jb ?_ ?_|refine Jo ?_|intro hb
  {rw[h6,if_pos (by simpa using hb)]};{rw[h6,if_neg (by simpa using hb)]}
theorem ZtA (ht:t.Ok) (hsz:t.size<4611686018427387904):∀H,CO 122 [.agg t.cells] H (.int .i64 (if t.valid≠0 then t.valid else t.th)) H:=by
 have h1:=c97 ht hsz;have h2:=ZuE ht;generalize t.valid=e at h1;generalize t.th=e2 at h2;obtain⟨k,nm,s,b,kz⟩:=t;refine Jw tOk fe122.ok rfl ?_;repeat' first|refine Jc (h1 _) ?_|refine Jc (h2 _) ?_|refine Jb ?_ ?_|refine Jo ?_|intro hb
 {rw[if_pos (by simpa using hb)]};{rw[if_neg (by simpa using hb)]}
