/-
  The variables of a term: the program's text.
-/
import Derived.Test.YtnghnjdabbjcnaaGreatDoorTh
set_option maxHeartbeats 0
set_option maxRecDepth 100000
namespace Go.Vm.Seat
variable {t:Tm} {l:List Tm} {b:Bool} {es nt:Nat} {L:List (List PV)} {out:PV} {lv:List Nat}
open Go.Proofs
theorem ZuD:∀H,CO 196 [] H (slV true 4 (ZcW Zbj)) H:=by have e:slV true 4 (ZcW Zbj)= .sl .none 4 (ZcW Zbj):=Zr _ _ _ _;rw[e];exact XD (x:=⟨196,[],.sl .none 4 (ZcW Zbj)⟩) tOk follows fOk zOk (fuel:=100) (k:=20) (by kernel_rfl)
theorem Zue (nm:List UInt8):∀H,CO 170 [.str nm] H (.int .i64 (YI nm).kind) H:=by
 have hc:=ZuD;obtain⟨l,hl⟩:∃l,l=Zbj:=⟨_,rfl⟩;have hlen:l.length=21:=by rw[hl];rfl
 unfold YI;rw[← hl]at hc ⊢;refine Jw tOk fe170.ok rfl ?_;repeat' first|refine Jc (hc _) ?_|refine Jo ?_|fail
 refine Wp.while (fun m tm H=>∃(i:Nat),∃base,i+m=l.length∧Vg nm l=Vg nm (l.drop i)∧tm=ovr base [(0,.str nm),(3,slV true 4 (ZcW l)),(4,.int .i64 (i:Int))]∧H=⟨[],0,[],0⟩)
  (fun m tm H hI=>?_) l.length _ _ ⟨0,_,by omega,by simp,Zd ⟨rfl,rfl,rfl,trivial⟩,rfl⟩
 clear hc hl;obtain⟨i,base,hi,hgo,rfl,rfl⟩:=hI;rw[hgo];by_cases hlt:i<l.length
 ·obtain⟨s,hs⟩:∃s,l[i]? = some s:=⟨l[i],by simp⟩;rw[QB hs];obtain⟨sn,sl,sm,sk⟩:=s;have hj:(ZcW l)[i]? = some [.str sn,.int .i64 sl,.int .i64 sm,.int .i64 sk]:=ZcF hs;repeat' first|refine Ku ?_|refine Jb ?_ ?_|refine Jo ?_|intro hb
  {rw[if_pos (by simpa using hb)];rfl};{rw[if_neg (by simpa using hb)];exact LoopI.go (m-1) (by omega) ⟨i+1,_,by omega,rfl,Zd ⟨rfl,rfl,Zg (Ze (n:=i+1) (by omega)),trivial⟩,rfl⟩};{exfalso;rw[U8]at hb;simp at hb;omega}
 ·have e:i=l.length:=by omega
  subst e;repeat' first|refine Jl ?_|refine Jb ?_ ?_|refine Jo ?_|intro hb
  {exfalso;rw[U8]at hb;simp at hb};{rw[List.drop_length];rfl}
def ZeW (o:Option Sym) (n:Int):Bool:=match o with
 |none=>false
 |some s=>decide (s.least≤n)&&decide (n≤s.most)
theorem Zv4 (k:Int) (nm:List UInt8) (s:Int) (b:Bool) (kz:List Tm):∀H,CO 192 [.agg [.int .i64 k,.str nm,.int .i64 s,slV b 4 (Za kz)]] H (.bool (ZeW (Vg nm Zbj) (kz.length:Int))) H:=by
 have hc:=ZuD;obtain⟨l,hl⟩:∃l,l=Zbj:=⟨_,rfl⟩;have hlen:l.length=21:=by rw[hl];rfl
 rw[← hl]at hc ⊢;refine Jw tOk fe192.ok rfl ?_;repeat' first|refine Jc (hc _) ?_|refine Ka ?_|fail
 refine Wp.while (fun m tm H=>∃(i:Nat),∃base,i+m=l.length∧Vg nm l=Vg nm (l.drop i)∧tm=ovr base [(1,.ptr 0 4 0 0),(3,slV true 4 (ZcW l)),(4,.int .i64 (i:Int))]∧H=⟨[.cells 4 [[.int .i64 k,.str nm,.int .i64 s,slV b 4 (Za kz)]]],0,[],0⟩)
  (fun m tm H hI=>?_) l.length _ _ ⟨0,_,by omega,by simp,Zd ⟨rfl,rfl,rfl,trivial⟩,rfl⟩
 clear hc hl;obtain⟨i,base,hi,hgo,rfl,rfl⟩:=hI;rw[hgo];by_cases hlt:i<l.length
 ·obtain⟨s,hs⟩:∃s,l[i]? = some s:=⟨l[i],by simp⟩;rw[QB hs];obtain⟨sn,sl,sm,sk⟩:=s;have hj:(ZcW l)[i]? = some [.str sn,.int .i64 sl,.int .i64 sm,.int .i64 sk]:=ZcF hs;repeat' first|refine Ky ?_|refine Jb ?_ ?_|refine Jo ?_|refine KM ?_|refine KP ?_|(apply dB (ty:=4);rfl;rfl;rfl;rfl)|refine Kb ?_|intro hb
  {rw[if_pos (by simpa using ‹(sn==nm)=true›)];have h1:= ‹decide (sl≤((Za kz).length:Int))=true›;rw[Zb]at h1 hb;simp only[ZeW,h1,hb,Bool.and_self]};{rw[if_pos (by simpa using ‹(sn==nm)=true›)];rw[Zb]at hb;simp only[ZeW,hb,Bool.and_false]};{rw[if_pos (by simpa using ‹(sn==nm)=true›)];rw[Zb]at hb;simp only[ZeW,hb,Bool.false_and]};{rw[if_neg (by simpa using hb)];exact LoopI.go (m-1) (by omega) ⟨i+1,_,by omega,rfl,Zd ⟨rfl,rfl,Zg (Ze (n:=i+1) (by omega)),trivial⟩,rfl⟩};{exfalso;rw[U8]at hb;simp at hb;omega}
 ·have e:i=l.length:=by omega
  subst e;repeat' first|refine Ky ?_|refine Jb ?_ ?_|refine Jo ?_|refine Kb ?_|intro hb
  {exfalso;rw[U8]at hb;simp at hb};{rw[List.drop_length];rfl}
theorem Zwz (k:Int) (nm:List UInt8) (s:Int) (b:Bool) (kz:List Tm) (hl:kz.length≤maxLen) (hne:nm= [110,101,119]→kz≠ []):∀H,CO 193 [.agg [.int .i64 k,.str nm,.int .i64 s,slV b 4 (Za kz)]] H (.bool (UF nm kz)) H:=by
 refine Jw tOk fe193.ok rfl ?_;by_cases e:nm= [110,101,119]
 ·subst e;obtain⟨a,r,rfl⟩:∃a r,kz=a::r:=by
   cases kz with
   | nil=>exact absurd rfl (hne rfl)
   | cons a r=>exact⟨a,r,rfl⟩
  obtain⟨ka,na,sa,ba,la⟩:=a;have hj:=Zuu (b:=b) (show(Tm.mk ka na sa ba la::r)[0]? = some (Tm.mk ka na sa ba la) from rfl);repeat' first|refine JJ ?_|refine Jt ?_|refine Jb ?_ ?_|refine Jo ?_|intro hb
  {simp at hb;simp[UF,hb]};{simp at hb;simp[UF,hb]}
 ·rw[ZaM e];repeat' first|refine Jt ?_|refine Jb ?_ ?_|refine Jo ?_|intro hb
  {exfalso;exact e (by simpa using hb)};unfold maxLen at hl;refine Wp.while (fun m tm H=>∃(i:Nat),∃base,i+m=kz.length∧kz.all YZ=(kz.drop i).all YZ∧tm=ovr base [(1,.ptr 0 4 0 0),(3,.int .i64 (i:Int))]∧H=⟨[.cells 4 [[.int .i64 k,.str nm,.int .i64 s,slV b 4 (Za kz)]]],0,[],0⟩)
   (fun m tm H hI=>?_) kz.length _ _ ⟨0,_,by omega,by simp,Zd ⟨rfl,rfl,trivial⟩,rfl⟩
  obtain⟨i,base,hi,hall,rfl,rfl⟩:=hI;rw[hall];by_cases hlt:i<kz.length;{obtain⟨t',ht'⟩:∃t',kz[i]? = some t':=⟨kz[i],by simp⟩;rw[Zb9 ht'];obtain⟨k',nm',s',b',kz'⟩:=t';have hj:=Zk ht';(repeat' first|refine Jk ?_|refine KJ ?_|refine Jb ?_ ?_|refine Jo ?_|intro hb);{simp at hb;simp[YZ,hb]};{simp at hb;simp[YZ,hb]};{(have hA:YZ (Tm.mk k' nm' s' b' kz')=true:=by have h1:= ‹(k'==3)=false›;have h2:= ‹(s' != 1)=false›;simp at h1 h2;simp[YZ,h1,h2]);rw[hA,Bool.true_and];exact LoopI.go (m-1) (by omega) ⟨i+1,_,by omega,rfl,Zd ⟨rfl,Zg (Ze (n:=i+1) (by omega)),trivial⟩,rfl⟩};{exfalso;rw[Zb]at hb;simp at hb;omega}};{(have e:i=kz.length:=by omega);subst e;(repeat' first|refine Ky ?_|refine Jb ?_ ?_|refine Jo ?_|intro hb);{exfalso;rw[Zb]at hb;simp at hb};{rw[List.drop_length];rfl}}
theorem ZkU {nm:List UInt8} {n:Int} (h:(YI nm).kind≠0):ZeW (Vg nm Zbj) n= !(decide (n<(YI nm).least∨(YI nm).most<n)):=by
 unfold YI at *;cases e:Vg nm Zbj with
 |none=>rw[e]at h;exact absurd rfl h
 |some s=>simp only[ZeW,Option.getD_some];rw[Bool.eq_iff_iff];simp only[Bool.and_eq_true,decide_eq_true_eq,Bool.not_eq_true',decide_eq_false_iff_not];omega
theorem ZwX (ht:t.Ok):∀H,CO 166 [.agg t.cells] H (.int .i64 t.th) H:=by
 induction ht with
 | @mk k nm s b kz hk hs hn hl hok ih=>
 have hc:=Zue nm;have hc2:=Zv4 k nm s b kz;obtain⟨R,hR⟩:∃R,R=(Tm.mk k nm s b kz).th:=⟨_,rfl⟩;rw[← hR];simp only[Tm.th]at hR;by_cases hne:nm= [110,101,119]→kz≠ []
 ·have hc3:=Zwz k nm s b kz hl hne;have hf:=ZkU (nm:=nm) (n:=(kz.length:Int));generalize ZeW (Vg nm Zbj) (kz.length:Int)=F at hc2 hf;generalize UF nm kz=G at hc3 hR;obtain⟨sn,sl,sm,sk,sy⟩:∃sn sl sm sk,YI nm=⟨sn,sl,sm,sk⟩:=⟨_,_,_,_,rfl⟩;rw[sy]at hc hR hf;simp only[]at hR hf hc;refine Jw tOk fe166.ok rfl ?_;repeat' first|refine Jk ?_|(apply qCl;rfl;rfl;rfl;rfl;first|exact hc _|exact hc2 _|exact hc3 _)|refine Jt ?_|refine Jb ?_ ?_|refine Jo ?_|intro hb
  {rw[hR,if_pos (by simpa using hb)]};{rw[hR,if_neg (by simpa using ‹(k != 3)=false›),if_pos (by simpa using hb)]};all_goals
   have hk0:sk≠0:=by simpa using ‹(sk==0)=false›
   rw[if_neg (by simpa using ‹(k != 3)=false›),if_neg hk0]at hR
   have hf:=hf hk0
  ·(have h1 : F = false := by simpa using hb);rw[h1]at hf;have h2:decide ((kz.length:Int)<sl∨sm<(kz.length:Int))=true:=by
    cases e:decide ((kz.length:Int)<sl∨sm<(kz.length:Int)) with
    | true=>rfl
    | false=>rw[e]at hf;exact absurd hf (by simp)
   rw[hR,if_pos (of_decide_eq_true h2)]
  all_goals
   have h1:F=true:=by simpa using ‹(!F)=false›
   rw[h1]at hf
   have h2:decide ((kz.length:Int)<sl∨sm<(kz.length:Int))=false:=by
    cases e:decide ((kz.length:Int)<sl∨sm<(kz.length:Int)) with
    | false=>rfl
    | true=>rw[e]at hf;exact absurd hf (by simp)
   rw[if_neg (of_decide_eq_false h2)]at hR
  {rw[hR,if_pos ⟨by simpa using ‹(sk==2)=true›,by simpa using hb⟩]};all_goals
   have hR:R=thL kz:=by
    rw[hR,if_neg]
    rintro⟨h1,h2⟩
    first
     | (subst h2;simp at hb;done)
     | (subst h1;simp at hb;done)
   clear hc hc2 hc3 hf
   unfold maxLen at hl
   refine Wp.while (fun m tm H=>∃(i:Nat),∃base,i+m=kz.length∧R=thL (kz.drop i)∧tm=ovr base [(1,.ptr 0 4 0 0),(4,.int .i64 (i:Int))]∧H=⟨[.cells 4 [[.int .i64 k,.str nm,.int .i64 s,slV b 4 (Za kz)]]],0,[],0⟩)
    (fun m tm H hI=>?_) kz.length _ _ ⟨0,_,by omega,by simpa using hR,Zd ⟨rfl,rfl,trivial⟩,rfl⟩
   clear hR
   obtain⟨i,base,hi,hR,rfl,rfl⟩:=hI
   by_cases hlt:i<kz.length
   · obtain⟨t', ht'⟩ : ∃t', kz[i]? = some t' := ⟨kz[i], by simp⟩
     have hm:t'∈kz:=List.mem_of_getElem? ht'
     have hc:=ih t' hm
     obtain⟨e1,he1⟩:∃e1,t'.th=e1:=⟨_,rfl⟩
     rw[he1]at hc
     rw[U9 ht' he1]at hR
     obtain⟨k',nm',s',b',kz'⟩:=t'
     have hj:=Zk ht'
     repeat' first|refine Jc (hc _) ?_|refine Ku ?_|refine Jb ?_ ?_|refine Jo ?_|intro hb
     · rw[hR,if_pos (by simpa using hb)]
     · rw[if_neg (by simpa using hb)]at hR
       exact LoopI.go (m-1) (by omega) ⟨i+1,_,by omega,hR,Zd ⟨rfl,Zg (Ze (n:=i+1) (by omega)),trivial⟩,rfl⟩
     · exfalso;rw[Zb]at hb;simp at hb;omega
   · have e : i = kz.length := by omega
     subst e
     repeat' first|refine Jl ?_|refine Jb ?_ ?_|refine Jo ?_|intro hb
     · exfalso;rw[Zb]at hb;simp at hb
     · rw[hR, List.drop_length]
       simp[thL]
 ·obtain⟨rfl,rfl⟩:nm= [110,101,119]∧kz= []:=by by_cases e:nm= [110,101,119];{exact⟨e,Classical.byContradiction fun h=>hne fun _=>h⟩};{exact absurd (fun h=>absurd h e) hne}
  have hc:∀H,CO 170 [.str [110,101,119]] H (.int .i64 2) H:=hc;have hc2:∀H,CO 192 [.agg [.int .i64 k,.str [110,101,119],.int .i64 s,slV b 4 (Za [])]] H (.bool false) H:=hc2;have h6:R=if k≠3 then 0 else 6:=hR
  clear hR;refine Jw tOk fe166.ok rfl ?_;repeat' first|refine Jc (hc _) ?_|refine Jc (hc2 _) ?_|refine Jt ?_|refine Jb ?_ ?_|refine Jo ?_|intro hb
  {rw[h6,if_pos (by simpa using hb)]};{rw[h6,if_neg (by simpa using hb)]}
theorem ZuW (ht:t.Ok) (hsz:t.size<4611686018427387904):∀H,CO 122 [.agg t.cells] H (.int .i64 (if t.valid≠0 then t.valid else t.th)) H:=by
 have h1:=c97 ht hsz;have h2:=ZwX ht;generalize t.valid=e at h1;generalize t.th=e2 at h2;obtain⟨k,nm,s,b,kz⟩:=t;refine Jw tOk fe122.ok rfl ?_;repeat' first|refine Jc (h1 _) ?_|refine Jc (h2 _) ?_|refine Jb ?_ ?_|refine Jo ?_|intro hb
 {rw[if_pos (by simpa using hb)]};{rw[if_neg (by simpa using hb)]}
theorem WF (k:Int) (nm:List UInt8) (s:Int) (b:Bool) (kz:List Tm):Za [Tm.mk k nm s b kz]= [[.int .i64 k,.str nm,.int .i64 s,slV b 4 (Za kz)]]:=rfl
theorem ZuU (ht:t.Ok):t.size≤100000→∀H,CO 169 [.agg t.cells] H (slV false 4 (Za t.all)) H:=by
 induction ht with
 | @mk k nm s b kz hk hs hn hl hok ih=>
 intro hsz;simp only[Tm.size]at hsz;simp only[Tm.all];refine Jw tOk fe169.ok (ZJ _ _ _ _ _) ?_;repeat' first|refine Js ?_|refine Jo ?_|fail
 refine Wp.while (fun m tm H => ∃(i : Nat) (base : TM) (out : PV) (lv : List Nat) (nt : Nat), i + m = kz.length ∧ ApV false 4 (Za (Tm.mk k nm s b kz :: Ug (kz.take i))) out lv nt ∧
   tm=ovr base [(1,.ptr 0 4 0 0),(3,out),(4,.int .i64 (i:Int))]∧H=⟨[.cells 4 [[.int .i64 k,.str nm,.int .i64 s,slV b 4 (Za kz)]]],0,lv,nt⟩)
  (fun m tm H hI=>?_) kz.length _ _ ⟨0,_,_,_,_,by omega,.full (Za [Tm.mk k nm s b kz]) _ _ rfl (Yd _),Zd ⟨rfl,rfl,rfl,trivial⟩,rfl⟩
 obtain⟨i,base,out,lv,nt,hi,hA,rfl,rfl⟩:=hI;by_cases hlt:i<kz.length
 ·obtain⟨t',ht'⟩:∃t',kz[i]? = some t':=⟨kz[i],by simp⟩;have hm:t'∈kz:=List.mem_of_getElem? ht';have hle:=Xq hm;have hs:=Zdp ht';have hc:=ih t' hm (by omega);have hlen1:(Ug (kz.take i)).length≤Zm kz:=by rw[UW];exact ZD kz i
  have hlen2:=t'.all_len;obtain⟨out',lv',nt',hap,hA', -⟩:=hA.app YD (.slV false 4 (Za t'.all)) (Zs _) (ZQ (by simp only[Zb,List.length_cons];omega) (by decide)) (Yd _);rw[← Zt,List.cons_append, ← hs]at hA';obtain⟨k',nm',s',b',kz'⟩:=t';have hj:=Zk ht';unfold maxLen at hl;repeat' first|refine Jc (hc _) ?_|refine JA ?_|refine Ku ?_|refine Jb ?_ ?_|refine Jo ?_|intro hb
  {exact LoopI.go (m-1) (by omega) ⟨i+1,_,out',lv',nt',by omega,hA',Zd ⟨rfl,rfl,Zg (Ze (n:=i+1) (by omega)),trivial⟩,rfl⟩};{exfalso;rw[Zb]at hb;simp at hb;omega}
 ·have e:i=kz.length:=by omega
  subst e;rw[List.take_length]at hA;repeat' first|refine Jl ?_|refine Jb ?_ ?_|refine Jo ?_|intro hb
  {exfalso;rw[Zb]at hb;simp at hb};{exact hA.frz3 _ _}
theorem Zus (b:Bool) (hl:∀x,x∈l→x.Ok∧x.size≤100000) (ht:t.Ok) (hsz:t.size≤100000) (hlen:l.length≤100000):∀H,CO 229 [slV b 4 (Za l),.agg t.cells] H (slV true 4 (Za (QI l t))) H:=by
 have hcmp:∀x,x∈l→∀H,CO 92 [.agg t.cells,.agg x.cells] H (.int .i64 (t.cmp x)) H:=fun x hx H=>Zpz (d92 ht (hl x hx).1 (by omega) (by have:=(hl x hx).2;omega) H);obtain⟨T,hT⟩:∃T,T=t:=⟨_,rfl⟩;obtain⟨k,nm,s,tb,kz⟩:=t;have hlen0:=fun i=>Uv T (l.take i) ([],false);refine Jw tOk fe229.ok (ZJ _ _ _ _ _) ?_ (by simp only[ZG,Xv];simp[frzG,Tm.cells,XK]);repeat' first|refine Ka ?_|fail
 refine Wp.while (fun m tm H => ∃(i : Nat) (base : TM) (out : PV) (lv : List Nat) (nt : Nat), i + m = l.length ∧ ApV true 4 (Za ((l.take i).foldl (ZH T) ([], false)).1) out lv nt ∧
   tm=ovr base [(0,slV b 4 (Za l)),(3,.ptr 0 4 0 0),(5,out),(6,.bool ((l.take i).foldl (ZH T) ([],false)).2),(7,.int .i64 (i:Int))]∧H=⟨[.cells 4 [[.int .i64 k,.str nm,.int .i64 s,slV tb 4 (Za kz)]]],0,lv,nt⟩)
  (fun m tm H hI=>?_) l.length _ _ ⟨0,_,_,_,_,by omega,.nil _ _ rfl,Zd ⟨rfl,rfl,rfl,rfl,rfl,trivial⟩,rfl⟩
 obtain⟨i,base,out,lv,nt,hi,hA,rfl,rfl⟩:=hI;have hl1:=hlen0 i;have hl2:(l.take i).length≤l.length:=by rw[List.length_take];omega
 by_cases hlt:i<l.length
 ·obtain⟨x,hx⟩:∃x,l[i]? = some x:=⟨l[i],by simp⟩;have hm:x∈l:=List.mem_of_getElem? hx;have hs:=XW (f:=ZH T) (b:=([],false)) hx;generalize (l.take i).foldl (ZH T) ([],false)=S at hA hs hl1 ⊢;obtain⟨o,d⟩:=S;have hc:=hcmp x hm;rw[← hT]at hc;have hlo:o.length≤100001:=by simp only[b01,List.length_nil]at hl1;omega
  simp only[ZH]at hs;generalize T.cmp x=c at hc hs;rw[hT]at hc;obtain⟨o1,v1,n1,hap1,hA1, -⟩:=hA.app YD (.sl .full 4 (Za [Tm.mk k nm s tb kz])) (Zs _) (ZQ (by simp only[Zb,List.length_cons,List.length_nil];omega) (by decide)) (Yd _);obtain⟨o2,v2,n2,hap2,hA2, -⟩:=hA.app YD (.sl .full 4 (Za [x])) (Zs _) (ZQ (by simp only[Zb,List.length_cons,List.length_nil];omega) (by decide)) (Yd _);obtain⟨o3,v3,n3,hap3,hA3, -⟩:=hA1.app YD (.sl .full 4 (Za [x])) (Zs _) (ZQ (by simp only[Zb,List.length_cons,List.length_nil,List.length_append];omega) (by decide)) (Yd _);rw[← Zt]at hA1 hA2;rw[← Zt, ← Zt, ← hT]at hA3;obtain⟨k',nm',s',b',kz'⟩:=x;have hj:=Zk hx;rw[WF]at hap1 hap2 hap3;repeat' first|refine Jk ?_|refine Kv ?_|refine KJ ?_|refine Jb ?_ ?_|refine Jo ?_|refine Jd (hc _) ?_|refine JI ?_|refine Kb ?_|intro hb
  {have hd:d=true:=hb;rw[if_neg (by rw[hd];simp)]at hs;exact LoopI.go (m-1) (by omega) ⟨i+1,_,o2,v2,n2,by omega,by rw[hs];exact hA2,Zd ⟨rfl,rfl,rfl,(by rw[hs];rfl),Zg (Ze (n:=i+1) (by omega)),trivial⟩,rfl⟩};{have hd:d=false:= ‹(o,d).snd=false›;(have h0:c<0:=by simpa using hb);rw[if_pos ⟨hd,by omega⟩,if_pos h0]at hs;exact LoopI.go (m-1) (by omega) ⟨i+1,_,o3,v3,n3,by omega,by rw[hs];exact hA3,Zd ⟨rfl,rfl,rfl,(by rw[hs];rfl),Zg (Ze (n:=i+1) (by omega)),trivial⟩,rfl⟩};{have hd:d=false:= ‹(o,d).snd=false›;(have h0:¬ c<0:=by simpa using hb);(have h1:c≤0:=by simpa using ‹decide (c≤0)=true›);rw[if_pos ⟨hd,h1⟩,if_neg h0,List.append_nil]at hs;exact LoopI.go (m-1) (by omega) ⟨i+1,_,o2,v2,n2,by omega,by rw[hs];exact hA2,Zd ⟨rfl,rfl,rfl,(by rw[hs];rfl),Zg (Ze (n:=i+1) (by omega)),trivial⟩,rfl⟩};{have hd:d=false:= ‹(o,d).snd=false›;(have h1:¬ c≤0:=by simpa using hb);rw[if_neg fun h=>h1 h.2]at hs;exact LoopI.go (m-1) (by omega) ⟨i+1,_,o2,v2,n2,by omega,by rw[hs];exact hA2,Zd ⟨rfl,rfl,rfl,(by rw[hs];rfl),Zg (Ze (n:=i+1) (by omega)),trivial⟩,rfl⟩};all_goals
   exfalso
   have h9:= ‹decide ((i:Int)<((Za l).length:Int))=false›
   rw[Zb]at h9
   simp at h9
   omega
 ·have e:i=l.length:=by omega
  subst e;rw[List.take_length]at hA hl1 ⊢;have hadd : QI l (Tm.mk k nm s tb kz) = match l.foldl (ZH T) ([], false) with
    | (o,true)=>o
    | (o,false)=>o++ [Tm.mk k nm s tb kz]:=by rw[hT];rfl
  rw[hadd];generalize l.foldl (ZH T) ([],false)=S at hA hl1 ⊢;obtain⟨o,d⟩:=S;have hlo:o.length≤100001:=by simp only[b01,List.length_nil]at hl1;omega
  obtain⟨o1,v1,n1,hap1,hA1, -⟩:=hA.app YD (.sl .full 4 (Za [Tm.mk k nm s tb kz])) (Zs _) (ZQ (by simp only[Zb,List.length_cons,List.length_nil];omega) (by decide)) (Yd _);rw[← Zt]at hA1;rw[WF]at hap1;repeat' first|refine Kv ?_|refine Ky ?_|refine Jb ?_ ?_|refine Jo ?_|refine Kb ?_|intro hb
  {exfalso;rw[Zb]at hb;simp at hb};all_goals
   first
    | (have hd : d = true := hb
       subst hd
       exact hA.frz3 _ _)
    | (have hd : d = false := hb
       subst hd
       exact hA1.frz3 _ _)
theorem ZvA (b:Bool) (hl:∀x,x∈l→x.Ok∧x.size≤100000) (hlen:l.length≤100000):∀H,CO 211 [slV b 4 (Za l)] H (slV true 4 (Za (Zjl l))) H:=by
 have hmem:=fun i=>Zai (l.take i) [];have hsl:=fun i=>ZaO (l.take i) [];refine Jw tOk fe211.ok (ZJ _ _ _ _ _) ?_;have e0:PV.nils=slV true 4 (Za ([]:List Tm)):=Zi 4 |>.symm
 repeat' first|refine Jo ?_|fail
 refine Wp.while (fun m tm H => ∃(i : Nat) (base : TM), i + m = l.length ∧
   tm=ovr base [(0,slV b 4 (Za l)),(3,slV true 4 (Za ((l.take i).foldl QI []))),(4,.int .i64 (i:Int))]∧H=⟨[],0,[],0⟩)
  (fun m tm H hI=>?_) l.length _ _ ⟨0,_,by omega,Zd ⟨rfl,e0,rfl,trivial⟩,rfl⟩
 obtain⟨i,base,hi,rfl,rfl⟩:=hI;have hm2:=hmem i;have hsl2:=hsl i;have hl2:(l.take i).length≤l.length:=by rw[List.length_take];omega
 by_cases hlt:i<l.length
 ·obtain⟨x,hx⟩:∃x,l[i]? = some x:=⟨l[i],by simp⟩;have hm:x∈l:=List.mem_of_getElem? hx;have hs:=XW (f:=QI) (b:=[]) hx;generalize (l.take i).foldl QI []=S at hs hm2 hsl2 ⊢;have hc:=Zus (l:=S) (t:=x) true (fun y hy=>hl y ((hm2 y hy).elim (fun h=>absurd h (by simp)) List.mem_of_mem_take)) (hl x hm).1 (hl x hm).2 (by simp at hsl2;omega);rw[← hs]at hc;obtain⟨k',nm',s',b',kz'⟩:=x;have hj:=Zk hx;repeat' first|refine Jc (hc _) ?_|refine Ku ?_|refine Jb ?_ ?_|refine Jo ?_|intro hb
  {exact LoopI.go (m-1) (by omega) ⟨i+1,_,by omega,Zd ⟨rfl,rfl,Zg (Ze (n:=i+1) (by omega)),trivial⟩,rfl⟩};{exfalso;rw[Zb]at hb;simp at hb;omega}
 ·have e:i=l.length:=by omega
  subst e;rw[List.take_length];repeat' first|refine Jl ?_|refine Jb ?_ ?_|refine Jo ?_|intro hb
  {exfalso;rw[Zb]at hb;simp at hb};{exact ZJ _ _ _ _ _}
theorem Zvi (ht:t.Ok) (hsz:t.size≤100000) (kk:Int):∀H,CO 194 [.agg t.cells,.int .i64 kk] H (slV true 4 (Za (Zjl (UD kk t.all)))) H:=by
 have hc:=ZuU ht hsz;have hao:=Zkj ht;have hal:=t.all_len;generalize t.all=l at hc hao hal ⊢;have hkm:∀x,x∈UD kk l→x.Ok∧x.size≤100000:=fun x hx=>by have:=hao x (List.mem_filter.1 hx).1;exact⟨this.1,by omega⟩
 have hkl:=Zae kk l;have hc2:=fun b=>ZvA b hkm (by omega);obtain⟨k,nm,s,tb,kz⟩:=t;refine Jw tOk fe194.ok (ZJ _ _ _ _ _) ?_ (by simp[ZG,frzG,Tm.cells,XK,frz1]);repeat' first|refine Jc (hc _) ?_|refine Jo ?_|fail
 refine Wp.while (fun m tm H => ∃(i : Nat) (base : TM) (out : PV) (lv : List Nat) (nt : Nat), i + m = l.length ∧ ApV true 4 (Za (UD kk (l.take i))) out lv nt ∧
   tm=ovr base [(1,.int .i64 kk),(5,out),(6,slV false 4 (Za l)),(7,.int .i64 (i:Int))]∧H=⟨[.cells 4 [[.int .i64 k,.str nm,.int .i64 s,slV tb 4 (Za kz)]]],0,lv,nt⟩)
  (fun m tm H hI=>?_) l.length _ _ ⟨0,_,_,_,_,by omega,.nil _ _ rfl,Zd ⟨rfl,rfl,rfl,rfl,trivial⟩,rfl⟩
 clear hc;obtain⟨i,base,out,lv,nt,hi,hA,rfl,rfl⟩:=hI;by_cases hlt:i<l.length
 ·obtain⟨x,hx⟩:∃x,l[i]? = some x:=⟨l[i],by simp⟩;have hs:=ZiL (k:=kk) hx;have hl1:=Zae kk (l.take i);have hl2:(l.take i).length≤l.length:=by rw[List.length_take];omega
  obtain⟨o2,v2,n2,hap2,hA2, -⟩:=hA.app YD (.sl .full 4 (Za [x])) (Zs _) (ZQ (by simp only[Zb,List.length_cons,List.length_nil];omega) (by decide)) (Yd _);rw[← Zt]at hA2;obtain⟨k',nm',s',b',kz'⟩:=x;have hj:=Zk hx;rw[WF]at hap2;repeat' first|refine Kv ?_|refine Ku ?_|refine Jb ?_ ?_|refine Jo ?_|intro hb
  {rw[if_pos (show(Tm.mk k' nm' s' b' kz').knd=kk by simpa[Tm.knd] using hb)]at hs;exact LoopI.go (m-1) (by omega) ⟨i+1,_,o2,v2,n2,by omega,by rw[hs];exact hA2,Zd ⟨rfl,rfl,rfl,Zg (Ze (n:=i+1) (by omega)),trivial⟩,rfl⟩};{rw[if_neg (show ¬ (Tm.mk k' nm' s' b' kz').knd=kk by simpa[Tm.knd] using hb),List.append_nil]at hs;exact LoopI.go (m-1) (by omega) ⟨i+1,_,out,lv,nt,by omega,by rw[hs];exact hA,Zd ⟨rfl,rfl,rfl,Zg (Ze (n:=i+1) (by omega)),trivial⟩,rfl⟩};all_goals (exfalso;rw[Zb]at hb;simp at hb;omega)
 ·have e:i=l.length:=by omega
  subst e;rw[List.take_length]at hA;have hc3:∀H,CO 211 [out] H (slV true 4 (Za (Zjl (UD kk l)))) H:=fun H=>Xn (hc2 true hNil) (by simp only[ZG,hA.frzG]) (ZJ _ _ _ _ _) H;repeat' first|refine Jc (hc3 _) ?_|refine Jl ?_|refine Jb ?_ ?_|refine Jo ?_|intro hb
  {exfalso;rw[Zb]at hb;simp at hb};{exact ZJ _ _ _ _ _}
theorem c167 (ht:t.Ok) (hsz:t.size≤100000):∀H,CO 167 [.agg t.cells] H (slV true 4 (Za (Zjl (UD 1 t.all)))) H:=by
 have hc:=Zvi ht hsz 1;generalize Zjl (UD 1 t.all)=l at hc ⊢;obtain⟨k,nm,s,tb,kz⟩:=t;refine Jw tOk fe167.ok (ZJ _ _ _ _ _) ?_;repeat' first|refine Jc (hc _) ?_|refine Jo ?_|fail
 exact ZJ _ _ _ _ _
theorem Zvl (ht:t.Ok) (hsz:t.size≤100000):∀H,CO 123 [.agg t.cells] H (.bool t.ground) H:=by
 have hc:=c167 ht hsz;have hg:t.ground=decide ((Zjl (UD 1 t.all)).length=0):=by
  unfold Tm.ground
  have:=Zk1 (l:=UD 1 t.all)
  cases h:UD 1 t.all with
  | nil=>rw[h]at this;simp[this.2 rfl]
  | cons a r =>
    rw[h]at this
    have h2:Zjl (a::r)≠ []:=fun e=>by simp at this;exact this e
    simp[h2]
 rw[hg];generalize Zjl (UD 1 t.all)=l at hc ⊢;clear hg;obtain⟨k,nm,s,tb,kz⟩:=t;refine Jw tOk fe123.ok rfl ?_;repeat' first|refine Jc (hc _) ?_|refine Ky ?_|refine Jb ?_ ?_|refine Jo ?_|intro hb
 all_goals (refine ifq ?_;rw[Zb]at hb;simp at hb;simp[hb])
theorem Wu (t:Tm):Za [t]= [t.cells]:=by obtain⟨k,nm,s,b,kz⟩:=t;rfl
theorem ZaQ (h:ApV b es L out lv nt) (k:Int) (nm:List UInt8) (s:Int):[PV.int .i64 k,.str nm,.int .i64 s,out].all ZP=true:=by cases h<;>rfl
theorem ZbX (h:ApV true es L out lv nt) (hL:L≠ []):∃k,out= .sl (.tok k) es L:=by
 cases h with
 |nil=>exact absurd rfl hL
 |full _ _ _ h=>cases h
 |tok L k=>exact⟨k,rfl⟩
theorem Yb (m:Nat) (H:Heap) (k:Int) (nm:List UInt8) (s:Int) (b:Bool) (l:List (List PV)):frz3 m H (.agg [.int .i64 k,.str nm,.int .i64 s,slV b 4 l])=some (.agg [.int .i64 k,.str nm,.int .i64 s,slV b 4 l]):=by rw[Zcn];simp only[XO,U2];rfl
theorem Zi6 (h:ApV b 4 L out lv nt) (m:Nat) (H:Heap) (k:Int) (nm:List UInt8) (s:Int):frz3 m H (.agg [.int .i64 k,.str nm,.int .i64 s,out])=some (.agg [.int .i64 k,.str nm,.int .i64 s,slV b 4 L]):=by rw[Zcn];simp only[XO,h.frzC];rfl
theorem Zuv (ht:t.Ok):t.size≤100000→∀H,CO 204 [.agg t.cells] H (.agg t.cl.cells) H:=by
 induction ht with
 | @mk k nm s b kz hk hs hn hl hok ih=>
 intro hsz;simp only[Tm.size]at hsz;have hkl:kz.length≤Zm kz:=by
  rw[← UW];have:∀l:List Tm,l.length≤(Ug l).length:=by
   intro l
   induction l with
   | nil=>simp
   | cons a r ih =>
     have:=a.all_len
     have:=Xw a
     simp only[Ug,List.length_append,List.length_cons]
     omega
  exact this kz
 simp only[Tm.cl,Tm.cells];refine Jw tOk fe204.ok (Yb _ _ _ _ _ _ _) ?_;repeat' first|refine KS ?_|fail
 refine Wp.while (fun m tm H => ∃(i : Nat) (base : TM) (out : PV) (lv : List Nat) (nt : Nat), i + m = kz.length ∧ ApV true 4 (Za (clL (kz.take i))) out lv nt ∧
   tm=ovr base [(1,.ptr 0 4 0 0),(2,.ptr 1 4 0 0),(9,slV b 4 (Za kz)),(10,.int .i64 (kz.length:Int)),(11,.int .i64 (i:Int))]∧H=⟨[.cells 4 [[.int .i64 k,.str nm,.int .i64 s,out]],.cells 4 [[.int .i64 0,.str [],.int .i64 0,.nils]]],0,lv,nt⟩)
  (fun m tm H hI=>Wp.drop ?_) kz.length _ _ ⟨0,_,_,_,_,by omega,.nil _ _ rfl,Zd ⟨rfl,rfl,rfl,Zg (by rw[Zb]),rfl,trivial⟩,rfl⟩
 obtain⟨i,base,out,lv,nt,hi,hA,rfl,rfl⟩:=hI;by_cases hlt:i<kz.length
 ·obtain⟨t',ht'⟩:∃t',kz[i]? = some t':=⟨kz[i],by simp⟩;have hm:t'∈kz:=List.mem_of_getElem? ht';have hle:=Xq hm;have hs:=ZcD ht';have hc:=ih t' hm (by omega);have hlen1:(clL (kz.take i)).length≤kz.length:=by rw[WG,List.length_take];omega
  obtain⟨out',lv',nt',hap,hA', -⟩:=hA.app YD (.sl .full 4 (Za [t'.cl])) (Zs _) (ZQ (by simp only[Zb,List.length_cons,List.length_nil];omega) (by decide)) (Yd _);rw[← Zt, ← hs]at hA';obtain⟨kc,nc,sc,bc,lc,ec⟩:∃kc nc sc bc lc,t'.cl= .mk kc nc sc bc lc:=by obtain⟨k',nm',s',b',kz'⟩:=t';exact⟨_,_,_,_,_,rfl⟩
  rw[ec]at hc hap;rw[WF]at hap;obtain⟨kt,rfl⟩:=ZbX hA' (by rw[hs,Zt,Wu];simp);obtain⟨k',nm',s',b',kz'⟩:=t';have hj:=Zk ht';repeat' first|refine Jx ?_|refine Jz ?_ ?_|refine Jo ?_|refine Jd (hc _) ?_|refine JB ?_|(apply dAp;rfl;rfl;rfl;rfl;rfl;(first|assumption|solve_by_elim);rfl)|refine Kg ?_|intro hb
  ·exact DropQ.go [(1, .ptr 0 4 0 0), (2, .ptr 1 4 0 0), (9, slV b 4 (Za kz)), (10, .int .i64 (kz.length : Int)), (11, .int .i64 ((i + 1 : Nat) : Int))] ⟨rfl, rfl, rfl, rfl, Zg (Ze (n := i + 1) (by omega)), trivial⟩
     (by simp[Zl,under]) rfl (by simp[Ys,ZC,under]) (LoopI.go (m-1) (by omega) ⟨i+1,_,_,lv',nt',by omega,hA',rfl,rfl⟩)
  {exfalso;simp at hb;omega}
 ·have e:i=kz.length:=by omega
  subst e;rw[List.take_length]at hA;have hco:=ZaQ hA k nm s;repeat' first|refine Jz ?_ ?_|refine Jo ?_|intro hb
  {exfalso;simp at hb};{exact Zi6 hA _ _ _ _ _}
