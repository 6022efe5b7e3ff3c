/-
  A call in a drawn region that makes something of the heap.
-/
import Derived.Test.YtnghnjdabbjcnaaGreatDoorVFh
import Derived.Shelf.SlSortCmp.WholeK
namespace Go.Vm
variable {kz ks l:List Tm} {f f':Bool} {N d es i ix j k k0 m n0 y:Nat} {a b b' e t x:Tm} {nm:Bs} {s:Int} {p q:PV} {all r:List Oper} {W:World} {fn:Func} {g g2:Gh} {v:Value} {L bx:List Box} {el el':List (List PV)} {ax cs:List PV} {ty:TypeId} {pos:String} {grd:Option (Nat×Bool)} {H1:Heap} {ps:Array (Nat×Operand)}
def Tm.sym:Tm→Bool
 | .mk k nm _ _ _=>ZbO k nm
def Ye (n m:Int):Bool:=decide (n< -m)||decide (m<n)
def Uz (p:Option Tm) (t:Tm):Bool:=match p with
 |none=>false
 |some q=>decide (0≤q.cmp t)
def pvL:Option Tm→List Pw→Int
 |_,[]=>0
 |p,x::r=>if x.1.valid≠0 then x.1.valid else if x.1.sym=true then 1 else if(decide (x.2=0)||Ye x.2 1000)=true then 7 else if Uz p x.1=true then 5 else pvL (some x.1) r
def pvG (l:List Pw):Int:=if 200<l.length then 3 else pvL none l
theorem Zhw:∀(p:Option Tm) (l:List Pw),pvL p l=0→(∀x,x∈l→x.2≠0∧x.1.valid=0∧x.1.sym=false∧Uz p x.1=false)∧VS l
 |p,[],_=>⟨fun x hx=>absurd hx (by simp),trivial⟩
 |p,x::r,h=>by
  simp only[pvL]at h;split at h;{rename_i h1;exact absurd h h1};rename_i h1;split at h;{exact absurd h (by decide)};rename_i h2;split at h;{exact absurd h (by decide)};rename_i h3;split at h;{exact absurd h (by decide)};rename_i h4;obtain⟨a,b⟩:=Zhw (some x.1) r h;have hx2:x.2≠0:=by intro e;simp[e]at h3
  have hlt:∀y,y∈r→x.1.cmp y.1<0:=fun y hy=>by have:=(a y hy).2.2.2;simp only[Uz,decide_eq_false_iff_not]at this;omega
  refine⟨fun y hy=>?_,⟨hx2,hlt⟩,b⟩;rcases List.mem_cons.1 hy with rfl|hy;{exact⟨hx2,Classical.not_not.1 h1,by simpa using h2,by simpa using h4⟩}
  ·refine⟨(a y hy).1,(a y hy).2.1,(a y hy).2.2.1,?_⟩;cases p with
   | none=>rfl
   | some q=>simp only[Uz,decide_eq_true_eq,decide_eq_false_iff_not]at h4 ⊢;have:=XX (a:=q) (b:=x.1) (c:=y.1) (by omega) (Int.le_of_lt (hlt y hy));omega
theorem Qb {l:List Pw} (h:pvG l=0):VS l∧∀x,x∈l→x.2≠0:=by unfold pvG at h;split at h;{exact absurd h (by decide)};obtain⟨a,b⟩:=Zhw none l h;exact⟨b,fun x hx=>(a x hx).1⟩
theorem Zpz (t:Tm):t.cl.sym=t.sym:=by cases t;rfl
theorem ZlK:∀(p:Option Tm) (l:List Pw),pvL (p.map Tm.cl) (l.map clP)=pvL p l
 |p,[]=>rfl
 |p,x::r=>by
  have e:Uz (p.map Tm.cl) x.1.cl=Uz p x.1:=by cases p<;>simp[Uz,Ud]
  have ih:=ZlK (some x.1) r;simp only[Option.map_some]at ih;simp only[List.map_cons,clP,pvL,VF,Zpz,e];rw[ih]
theorem ZfV (l:List Pw):pvG (l.map clP)=pvG l:=by unfold pvG;rw[List.length_map];exact congrArg _ (ZlK none l)
def ofG (t:Tm):List Pw×Int:=if t.valid≠0 then([],t.valid) else match t.col 1 [] with
 |none=>([],6)
 |some l=>if 200<l.length then([],3) else(l,0)
def ofR (t:Tm):List Pw×Int:=if t.valid≠0 then([],t.valid) else if t.ari=false then([],6) else if 200<(t.colR 1 []).length then([],3) else(t.colR 1 [],0)
theorem Zb3 (t:Tm):ofG t=ofR t:=by
 obtain⟨h1,h2⟩:=QR t 1 [] trivial (by decide);unfold ofG ofR;cases ha:t.ari with
 |true=>rw[(h1 ha).1,if_neg (by decide:¬ (true=false))]
 |false=>rw[h2 ha,if_pos rfl]
theorem Zqq (t:Tm):ofG t.cl=((ofG t).1.map clP,(ofG t).2):=by
 have h:=Zmr t 1 [];rw[List.map_nil]at h;unfold ofG;rw[VF,h];split;{rfl}
 ·cases t.col 1 [] with
  | none=>rfl
  | some l=>simp only[Option.map_some,List.length_map];split<;>rfl
def insF (l:List Pw) (b:List Pw):List Pw:=b.foldl (fun l x=>WV l x.1 x.2) l
def ZaK (l:List Pw) (b:List Pw):List Pw:=b.foldl (fun l x=>Zj4 l x.1 x.2) l
theorem Zb6:∀(b l:List Pw),VS l→(∀x,x∈b→x.2≠0)→ZaK l b=insF l b
 | [],l,_,_=>rfl
 |x::r,l,h,hb=>by simp only[ZaK,insF,List.foldl_cons];rw[QD l _ _ h];exact Zb6 r _ (QO h (hb x List.mem_cons_self)) fun y hy=>hb y (List.mem_cons_of_mem _ hy)
theorem Zgv:∀(b l:List Pw),(insF l b).map clP=insF (l.map clP) (b.map clP)
 | [],l=>rfl
 |x::r,l=>by simp only[insF,List.foldl_cons,List.map_cons];have:=Zgv r (WV l x.1 x.2);rw[Zb4]at this;exact this
def ZgA (l:List Pw):List Pw×Int:=if l.any (fun x=>Ye x.2 1000)=true then([],7) else if 200<l.length then([],3) else(l,0)
theorem Zm0 (l:List Pw):ZgA (l.map clP)=((ZgA l).1.map clP,(ZgA l).2):=by
 have e:(l.map clP).any (fun x=>Ye x.2 1000)=l.any (fun x=>Ye x.2 1000):=by rw[List.any_map];rfl
 unfold ZgA;rw[e,List.length_map];split;{rfl};{split<;>rfl}
def ZlF (f:List Pw→List Pw→List Pw) (a b:List Pw):List Pw×Int:=if pvG a≠0 then([],pvG a) else if pvG b≠0 then([],pvG b) else ZgA (f a b)
def Ui:List Pw→List Pw→List Pw×Int:=ZlF insF
def ZbJ:List Pw→List Pw→List Pw×Int:=ZlF ZaK
theorem ZfX (a b:List Pw):Ui a b=ZbJ a b:=by unfold Ui ZbJ ZlF;by_cases h:pvG a=0;{by_cases h':pvG b=0;{rw[Zb6 b a (Qb h).1 (Qb h').2]};{rw[if_neg (not_not_intro h),if_neg (not_not_intro h),if_pos h',if_pos h']}};{rw[if_pos h,if_pos h]}
theorem Zmg (a b:List Pw):Ui (a.map clP) (b.map clP)=((Ui a b).1.map clP,(Ui a b).2):=by unfold Ui ZlF;rw[ZfV,ZfV, ← Zgv,Zm0];split;{rfl};{split<;>rfl}
def Zfb (x:Tm):Tm:= .mk 3 VG 0 false [x]
def Qw (l:List Pw):List Tm:=l.flatMap fun x=>List.replicate x.2.toNat x.1
def Zbw (l:List Pw):List Tm:=l.flatMap fun x=>List.replicate (-x.2).toNat (Zfb x.1)
def WU (l:List Pw):List Tm:=Qw l++Zbw l
def prodT (f:Bool):List Tm→Tm
 | []=> .mk 3 Um 0 f []
 | [x]=>x
 |x::y::r=> .mk 3 Ug 0 false (x::y::r)
def Zka (f:Bool) (l:List Pw):Tm×Int:=if 8<(WU l).length then(.zero,3) else if(prodT f (WU l)).valid≠0 then(.zero,(prodT f (WU l)).valid) else(prodT f (WU l),0)
def termG (f:Bool) (l:List Pw):Tm×Int:=if pvG l≠0 then(.zero,pvG l) else Zka f l
def Wb (f:Bool) (l:List Pw):Tm×Int:=if pvG l≠0 then(.zero,pvG l) else if l.any (fun x=>Ye x.2 8)=true then(.zero,3) else Zka f l
def Wa (f:Bool) (l:List Pw):Tm×Int:=if pvG l≠0 then(.zero,pvG l) else if 8<((WU l).take 9).length then(.zero,3) else if(prodT f ((WU l).take 9)).valid≠0 then(.zero,(prodT f ((WU l).take 9)).valid) else(prodT f ((WU l).take 9),0)
theorem Zcj {α β:Type} {f:α→List β} {x:α}:∀{l:List α},x∈l→(f x).length≤(l.flatMap f).length
 |y::r,h=>by rw[List.flatMap_cons,List.length_append];rcases List.mem_cons.1 h with rfl|h;{omega};{have:=Zcj (f:=f) h;omega}
theorem ZjP (f:Bool) (l:List Pw):Wb f l=termG f l:=by
 unfold Wb termG;by_cases h:l.any (fun x=>Ye x.2 8)=true
 ·obtain⟨x,hx,ho⟩:=List.any_eq_true.1 h;have h9:8<(WU l).length:=by have h1:=Zcj (f:=fun x:Pw=>List.replicate x.2.toNat x.1) hx;have h2:=Zcj (f:=fun x:Pw=>List.replicate (-x.2).toNat (Zfb x.1)) hx;simp only[List.length_replicate]at h1 h2;simp only[Ye,Bool.or_eq_true,decide_eq_true_eq]at ho;simp only[WU,Qw,Zbw,List.length_append];omega
  rw[if_pos h];unfold Zka;rw[if_pos h9]
 {rw[if_neg h]}
theorem ZhF (f:Bool) (l:List Pw):Wa f l=termG f l:=by
 unfold Wa termG Zka;by_cases h:8<(WU l).length
 ·have h9:8<((WU l).take 9).length:=by rw[List.length_take];omega
  rw[if_pos h,if_pos h9]
 {rw[List.take_of_length_le (by omega)]}
theorem Zmx (n:Nat) (x:Tm):(List.replicate n x).map Tm.cl=List.replicate n x.cl:=List.map_replicate
theorem ZmQ (l:List Pw):Qw (l.map clP)=(Qw l).map Tm.cl:=by simp only[Qw,List.flatMap_map,List.map_flatMap,Zmx,clP]
theorem Znx (l:List Pw):(Zbw (l.map clP)).map Tm.cl=(Zbw l).map Tm.cl:=by simp only[Zbw,List.flatMap_map,List.map_flatMap,Zmx,clP,Zfb,Tm.cl,clL,ZcV]
theorem Ziq (l:List Pw):(WU (l.map clP)).map Tm.cl=(WU l).map Tm.cl:=by simp only[WU,List.map_append,ZmQ,Znx,List.map_map];congr 1;exact List.map_congr_left fun x _=>ZcV x
theorem Zkk {m:List Tm} (h:l.map Tm.cl=m.map Tm.cl):(prodT f l).cl=(prodT f' m).cl:=by
 match l,m,h with
 | [],[],_=>rfl
 | [],_::_,h=>simp at h
 |_::_,[],h=>simp at h
 | [x],[y],h=>simpa[prodT] using h
 | [x],_::_::_,h=>simp at h
 |_::_::_,[x],h=>simp at h
 |x::y::r,x'::y'::r',h=>simp only[prodT,Tm.cl,XI,h]
theorem Zgm {l m:List Pw} (h:l.map clP=m.map clP):(termG f l).2=(termG f' m).2∧(termG f l).1.cl=(termG f' m).1.cl:=by
 have e1:pvG l=pvG m:=by rw[← ZfV l,h,ZfV]
 have e2:(WU l).map Tm.cl=(WU m).map Tm.cl:=by rw[← Ziq l,h,Ziq]
 have e3:(WU l).length=(WU m).length:=by simpa using congrArg List.length e2
 have e4:=Zkk (f:=f) (f':=f') e2;unfold termG Zka;rw[e1,e3,XW e4];split; · exact⟨rfl,rfl⟩
 split; · exact⟨rfl,rfl⟩
 split; · exact⟨rfl,rfl⟩
 exact⟨rfl,e4⟩
def Tm.kd:Tm→Nat→Tm
 | .mk _ _ _ _ kz,i=>kz.getD i .zero
def isA:Tm→Bs→Bool
 | .mk k n _ _ _,nm=>decide (k=3)&&(n==nm)
theorem UU (l:List Tm) (i:Nat):(l.map Tm.cl).getD i .zero=(l.getD i .zero).cl:=by simp only[List.getD_eq_getElem?_getD,List.getElem?_map];cases l[i]? <;> rfl
theorem Zo3 (t:Tm) (i:Nat):t.cl.kd i=(t.kd i).cl:=by cases t;simp only[Tm.cl,Tm.kd,XI,UU]
theorem Zl3 (t:Tm) (nm:Bs):isA t.cl nm=isA t nm:=by cases t;rfl
theorem Qu (h:a.cl=b.cl) (i:Nat):(a.kd i).cl=(b.kd i).cl:=by rw[← Zo3,h,Zo3]
theorem Ql (h:a.cl=b.cl) (nm:Bs):isA a nm=isA b nm:=by rw[← Zl3,h,Zl3]
def V9:Bs:=[102,115,116]
def VW:Bs:=[115,110,100]
def VQ:Bs:=[100,101,99]
def YG:Bs:=[97,100,101,99]
def YN:Bs:=[111,112,101,110]
def Y1:Bs:=[114,101,97,100]
def ZeN:Bs:=[101,110,99]
def VJ:Bs:=[97,101,110,99]
def pkN:Bs:=[112,107]
def YS:Bs:=[101,120,112]
def Zd1 (nm:Bs) (a key:Tm):Bool:=
 ((nm==V9)&&isA a XQ)||((nm==VW)&&isA a XQ)||((nm==VQ)&&isA a ZeN&&decide ((a.kd 1).cmp key=0)) ||
 ((nm==YG)&&isA a VJ&&isA (a.kd 1) pkN&&decide (((a.kd 1).kd 0).cmp key=0)) ||
 ((nm==YN)&&isA a Xp&&isA key pkN&&decide ((a.kd 1).cmp (key.kd 0)=0))||((nm==Y1)&&isA a Xp)
def ZoP (nm:Bs) (a key:Tm):Bool:=
 ((nm==V9)&&isA a XQ)||((nm==VW)&&isA a XQ)||((nm==VQ)&&isA a ZeN&&decide ((a.kd 1).cmp key=0)) ||
 ((nm==YG)&&isA a VJ&&decide ((a.kd 1).cmp (.mk 3 pkN 0 true [key])=0)) ||
 ((nm==YN)&&isA a Xp&&decide (key.cmp (.mk 3 pkN 0 true [a.kd 1])=0))||((nm==Y1)&&isA a Xp)
def ZcC (f:Bs→Tm→Tm→Bool) (t:Tm):Tm:=if f t.nm (t.kd 0) (t.kd 1)=true then(t.kd 0).kd (if t.nm=VW then 1 else 0) else t
def Xw:Tm→Tm:=ZcC Zd1
theorem Ztd (h:a.cl=b.cl):a.nm=b.nm:=by rw[← ZpN,h,ZpN]
theorem Znq {a' k k':Tm} (h:a.cl=a'.cl) (hk:k.cl=k'.cl):Zd1 nm a k=Zd1 nm a' k':=by unfold Zd1;rw[Ql h,Ql h,Ql h,Ql h,Ql (Qu h 1),Ql hk,ZbM (Qu h 1) hk,ZbM (Qu (Qu h 1) 0) hk,ZbM (Qu h 1) (Qu hk 0)]
theorem ZoQ (h:a.cl=b.cl):(Xw a).cl=(Xw b).cl:=by unfold Xw ZcC;rw[Znq (Qu h 0) (Qu h 1),Ztd h];split;{exact Qu (Qu h 0) _};{exact h}
def Znl (nm:Bs) (n:Nat):Bool:=(if(nm==XQ)||(nm==ZeN)||(nm==VJ)||(nm==Xp)||(nm==YS) then decide (n=2) else true)&&(if nm==pkN then decide (n=1) else true)
mutual
def Tm.okA:Tm→Bool
 | .mk k nm s _ kz=>(if k=3 then decide (s=0)&&Znl nm kz.length else true)&&Zhb kz
def Zhb:List Tm→Bool
 | []=>true
 |t::r=>t.okA&&Zhb r
end
theorem Zch:∀l:List Tm,Zhb l=true↔∀x,x∈l→x.okA=true
 | []=>by simp[Zhb]
 |t::r=>by simp[Zhb,Zch r]
theorem UE {k:Int} {b:Bool} (h:(Tm.mk k nm s b kz).okA=true):∀x,x∈kz→x.okA=true:=by simp only[Tm.okA,Bool.and_eq_true]at h;exact(Zch kz).1 h.2
theorem Zly (h:∀x,x∈l→x.okA=true) (i:Nat):(l.getD i .zero).okA=true:=by
 rw[List.getD_eq_getElem?_getD];cases e:l[i]? with
 |none=>rfl
 |some x=>exact h x (List.mem_of_getElem? e)
theorem ZhT (h:t.okA=true) (i:Nat):(t.kd i).okA=true:=by cases t;exact Zly (UE h) i
theorem ZiM (h:t.okA=true) (hp:isA t pkN=true):∃b x,t= .mk 3 pkN 0 b [x]:=by
 obtain⟨k,nm,s,b,kz⟩:=t;simp only[isA,Bool.and_eq_true,decide_eq_true_eq,beq_iff_eq]at hp;obtain⟨rfl,rfl⟩:=hp;simp only[Tm.okA,if_pos,Bool.and_eq_true,decide_eq_true_eq]at h;obtain⟨⟨rfl,h1⟩,_⟩:=h;have h2:kz.length=1:=by simp only[Znl,Bool.and_eq_true]at h1;have:=h1.2;simpa using this
 match kz,h2 with
 | [x],_=>exact⟨b,x,rfl⟩
theorem Zmn (h:a.okA=true):decide (a.cmp (.mk 3 pkN 0 true [x])=0)=(isA a pkN&&decide ((a.kd 0).cmp x=0)):=by by_cases hp:isA a pkN=true;{obtain⟨b,y,rfl⟩:=ZiM h hp;rw[hp,Bool.true_and];refine decide_eq_decide.2 ?_;rw[XG,XG];simp only[Tm.cl,clL,Tm.kd,List.getD_cons_zero,Tm.mk.injEq,List.cons.injEq,and_true,true_and]};{rw[Bool.eq_false_iff.2 hp,Bool.false_and,decide_eq_false_iff_not];intro e;rw[XG]at e;exact hp (by rw[Ql e];rfl)}
theorem Zlc {key:Tm} (ha:a.okA=true) (hk:key.okA=true):ZoP nm a key=Zd1 nm a key:=by have e1:=Zmn (x:=key) (ZhT ha 1);have e2:=Zmn (x:=a.kd 1) hk;have e3:decide ((key.kd 0).cmp (a.kd 1)=0)=decide ((a.kd 1).cmp (key.kd 0)=0):=decide_eq_decide.2 Zkn;unfold ZoP Zd1;rw[e1,e2,e3];simp only[Bool.and_assoc]
theorem Zfg (h:t.okA=true):ZcC ZoP t=Xw t:=by unfold Xw ZcC;rw[Zlc (ZhT h 0) (ZhT h 1)]
def Zau (f:Bool) (t:Tm):Tm×Int:=if(ofG t).2≠0 then(.zero,(ofG t).2) else termG f (ofG t).1
def Zap (f:Bool) (b:Tm) (p:List Pw):Tm×Int:=if p.isEmpty=true then(b,0) else if(termG f p).2≠0 then(.zero,(termG f p).2) else(.mk 3 YS 0 f [b,(termG f p).1],0)
def WI (f:Bool) (b e:Tm):Tm×Int:=if(ofG e).2≠0 then(.zero,(ofG e).2) else if isA b YS=true then(if(ofG (b.kd 1)).2≠0 then(.zero,(ofG (b.kd 1)).2) else if(Ui (ofG (b.kd 1)).1 (ofG e).1).2≠0 then(.zero,(Ui (ofG (b.kd 1)).1 (ofG e).1).2) else Zap f (b.kd 0) (Ui (ofG (b.kd 1)).1 (ofG e).1).1) else Zap f b (ofG e).1
theorem Zna (h:a.cl=b.cl):(ofG a).2=(ofG b).2∧(ofG a).1.map clP=(ofG b).1.map clP:=by have h1:=Zqq a;have h2:=Zqq b;rw[h,h2]at h1;injection h1 with e1 e2;exact⟨e2.symm,e1.symm⟩
theorem ZpT {a b a' b':List Pw} (h:a.map clP=a'.map clP) (h':b.map clP=b'.map clP):(Ui a b).2=(Ui a' b').2∧(Ui a b).1.map clP=(Ui a' b').1.map clP:=by have h1:=Zmg a b;have h2:=Zmg a' b';rw[h,h',h2]at h1;injection h1 with e1 e2;exact⟨e2.symm,e1.symm⟩
theorem Zpm (h:a.cl=b.cl):(Zau f a).2=(Zau f' b).2∧(Zau f a).1.cl=(Zau f' b).1.cl:=by obtain⟨e1,e2⟩:=Zna h;unfold Zau;rw[e1];split;{exact⟨rfl,rfl⟩};{exact Zgm e2}
theorem Zme {p p':List Pw} (h:b.cl=b'.cl) (hp:p.map clP=p'.map clP):(Zap f b p).2=(Zap f' b' p').2∧(Zap f b p).1.cl=(Zap f' b' p').1.cl:=by
 obtain⟨e1,e2⟩:=Zgm (f:=f) (f':=f') hp;have e3:p.isEmpty=p'.isEmpty:=by cases p<;>cases p'<;>simp_all
 unfold Zap;rw[e1,e3];split; · exact⟨rfl,h⟩
 split; · exact⟨rfl,rfl⟩
 exact⟨rfl,by simp only[Tm.cl,clL,h,e2]⟩
theorem ZoR {e':Tm} (h:b.cl=b'.cl) (he:e.cl=e'.cl):(WI f b e).2=(WI f' b' e').2∧(WI f b e).1.cl=(WI f' b' e').1.cl:=by
 obtain⟨e1,e2⟩:=Zna he;obtain⟨e3,e4⟩:=Zna (Qu h 1);obtain⟨e5,e6⟩:=ZpT e4 e2;unfold WI;rw[e1,Ql h,e3,e5];split; · exact⟨rfl,rfl⟩
 split
 ·split; · exact⟨rfl,rfl⟩
  split; · exact⟨rfl,rfl⟩
  exact Zme (Qu h 0) e6
 {exact Zme h e2}
def YX (m:Bool) (nm:Bs) (ks:List Tm):Tm×Int:=
 if(YQ nm).kind=3 then(Xw (.mk 3 nm 0 m ks),0) else if nm=ZbZ then sumG m ks else if ZbO 3 nm=true then Zau m (.mk 3 nm 0 m ks) else if nm=YS then WI m (ks.getD 0 .zero) (ks.getD 1 .zero) else(.mk 3 nm 0 m ks,0)
mutual
def Tm.nrm (c:Bool):Tm→Tm×Int
 | .mk k nm s b kz=>if k≠3 then(.mk k nm s b kz,0) else if(nrmL c kz).2≠0 then(.zero,(nrmL c kz).2) else YX c nm (nrmL c kz).1
def nrmL (c:Bool):List Tm→List Tm×Int
 | []=>([],0)
 |t::r=>if(t.nrm c).2≠0 then([],(t.nrm c).2) else if(nrmL c r).2≠0 then([],(nrmL c r).2) else((t.nrm c).1::(nrmL c r).1,0)
end
theorem Zoa {m:List Tm} (h:l.map Tm.cl=m.map Tm.cl):(YX true nm l).2=(YX false nm m).2∧(YX true nm l).1.cl=(YX false nm m).1.cl:=by
 have ht:(Tm.mk 3 nm 0 true l).cl=(Tm.mk 3 nm 0 false m).cl:=by simp only[Tm.cl,XI,h]
 unfold YX;split; · exact⟨rfl,ZoQ ht⟩
 split; · exact ZnJ h
 split; · exact Zpm ht
 split;{exact ZoR (by rw[← UU,h,UU]) (by rw[← UU,h,UU])};{exact⟨rfl,ht⟩}
mutual
theorem Zf3:∀t u:Tm,t.cl=u.cl→(t.nrm true).2=(u.nrm false).2∧(t.nrm true).1.cl=(u.nrm false).1.cl
 | .mk k nm s b kz,.mk k' nm' s' b' kz',h=>by
  have h0:=h;simp only[Tm.cl,Tm.mk.injEq]at h;obtain⟨rfl,rfl,rfl, -,hk⟩:=h;obtain⟨e1,e2⟩:=Zc3 kz kz' hk;simp only[Tm.nrm];rw[e1];split; · exact⟨rfl,h0⟩
  split; · exact⟨rfl,rfl⟩
  exact Zoa e2
theorem Zc3:∀l m:List Tm,clL l=clL m→(nrmL true l).2=(nrmL false m).2∧(nrmL true l).1.map Tm.cl=(nrmL false m).1.map Tm.cl
 | [],[],_=>⟨rfl,rfl⟩
 | [],_::_,h=>by simp[clL]at h
 |_::_,[],h=>by simp[clL]at h
 |t::r,u::q,h=>by
  simp only[clL,List.cons.injEq]at h;obtain⟨a1,a2⟩:=Zf3 t u h.1;obtain⟨b1,b2⟩:=Zc3 r q h.2;simp only[nrmL];rw[a1,b1];split; · exact⟨rfl,rfl⟩
  split; · exact⟨rfl,rfl⟩
  exact⟨rfl,by simp only[List.map_cons,a2,b2]⟩
end
def Tm.nf (c:Bool) (t:Tm):Tm×Int:=if t.valid≠0 then(.zero,t.valid) else if t.th≠0 then(.zero,t.th) else if(t.nrm c).2≠0 then(.zero,(t.nrm c).2) else if(t.nrm c).1.valid≠0 then(.zero,(t.nrm c).1.valid) else((t.nrm c).1,0)
mutual
theorem Zk9:∀t:Tm,t.cl.th=t.th
 | .mk k nm s b kz => by
   have e:Qy nm (clL kz)=Qy nm kz:=by
    unfold Qy
    split
    · cases kz with
      | nil=>rfl
      | cons a r=>cases a;rfl
    · rw[XI, List.all_map]
      congr 1
      funext x
      cases x;rfl
   simp only[Tm.cl,Tm.th,Wl,e,Zl2 kz]
theorem Zl2:∀l:List Tm,thL (clL l)=thL l
 | []=>rfl
 |t::r=>by simp only[clL,thL,Zk9 t,Zl2 r]
end
theorem Zd9 {u:Tm} (h:t.cl=u.cl):(t.nf true).2=(u.nf false).2∧(t.nf true).1.cl=(u.nf false).1.cl:=by
 obtain⟨e1,e2⟩:=Zf3 t u h;have e3:t.th=u.th:=by rw[← Zk9,h,Zk9]
 unfold Tm.nf;rw[XW h,e3,e1,XW e2];split; · exact⟨rfl,rfl⟩
 split; · exact⟨rfl,rfl⟩
 split; · exact⟨rfl,rfl⟩
 split; · exact⟨rfl,rfl⟩
 exact⟨rfl,e2⟩
def Tm.dsB (t:Tm):Bool:=t.all.all fun x=>match x with| .mk k nm _ _ _=> !(decide (k=3)&&decide ((YQ nm).kind=3))
def Tm.plainB (c:Bool) (t:Tm):Bool:=decide ((t.nf c).2=0)&&decide ((t.nf c).1.cmp t=0)&&t.dsB
theorem ZgF (t:Tm):t.plainB true=t.plainB false:=by obtain⟨e1,e2⟩:=Zd9 (t:=t) rfl;unfold Tm.plainB;rw[e1,ZbM e2 rfl]
structure Kin (P:Tm→Prop):Prop where
 kid:∀{k:Int} {nm:Bs} {s:Int} {b:Bool} {kz:List Tm},P (.mk k nm s b kz)→∀x,x∈kz→P x
 app:∀{nm:Bs} {b:Bool} {ks:List Tm},nm.length≤24→ks.length≤1000000→Znl nm ks.length=true→(∀x,x∈ks→P x)→P (.mk 3 nm 0 b ks)
 zero:P .zero
 cl:∀{t:Tm},P t→P t.cl
theorem Zlb (h:t.Ok):t.cl.Ok:=by
 induction h with
 |mk hk hs hn hl _ ih=>simp only[Tm.cl,XI];refine .mk hk hs hn (by rw[List.length_map];exact hl) fun t ht=>?_;obtain⟨x,hx,rfl⟩:=List.mem_map.1 ht;exact ih x hx
theorem cls_ok:Kin Tm.Ok where
 kid h x hx:=h.kid hx
 app hn hl _ h:= .mk (by decide) (by decide) (Nat.le_trans hn (by decide)) (Nat.le_trans hl (by decide)) h
 zero:=Tm.ok_zero
 cl:=Zlb
mutual
theorem Zmt:∀t:Tm,t.cl.okA=t.okA
 | .mk k nm s b kz=>by simp only[Tm.cl,Tm.okA,Wl,Zi8 kz]
theorem Zi8:∀l:List Tm,Zhb (clL l)=Zhb l
 | []=>rfl
 |t::r=>by simp only[clL,Zhb,Zmt t,Zi8 r]
end
theorem cls_okA:Kin fun t=>t.okA=true where
 kid h x hx:=UE h x hx
 app _ _ ha h:=by
  simp only[Tm.okA,ha,if_pos,decide_true,Bool.and_self,Bool.true_and]
  exact(Zch _).2 h
 zero:=rfl
 cl {t} h:=by rw[Zmt];exact h
set_option linter.unusedSectionVars false
section
variable {P:Tm→Prop} (C:Kin P)
include C
theorem Kin.kd {t:Tm} (h:P t) (i:Nat):P (t.kd i):=by
 cases t;rename_i kz;simp only[Tm.kd,List.getD_eq_getElem?_getD];cases e:kz[i]? with
 |none=>exact C.zero
 |some x=>exact C.kid h x (List.mem_of_getElem? e)
theorem Kin.getD {l:List Tm} (h:∀x,x∈l→P x) (i:Nat):P (l.getD i .zero):=by
 rw[List.getD_eq_getElem?_getD];cases e:l[i]? with
 |none=>exact C.zero
 |some x=>exact h x (List.mem_of_getElem? e)
mutual
theorem Kin.sum:∀t:Tm,P t→∀z,z∈t.sumP→P z
 | .mk k nm s b kz,h,z,hz=>by rw[Tm.sumP]at hz;split at hz;{simp at hz};{split at hz;{exact Kin.sumL kz [] (C.kid h) (fun x hx=>by simp at hx) z hz};{rw[List.mem_singleton]at hz;subst hz;exact h}}
theorem Kin.sumL:∀l o:List Tm,(∀x,x∈l→P x)→(∀x,x∈o→P x)→∀z,z∈ZS l o→P z
 | [],o,_,ho,z,hz=>by rw[ZS]at hz;exact ho z hz
 |t::r,o,hl,ho,z,hz=>by rw[ZS]at hz;refine Kin.sumL r _ (fun x hx=>hl x (List.mem_cons_of_mem _ hx)) (fun x hx=>?_) z hz;rcases X2 _ _ x hx with hx|hx;{exact ho x hx};{exact Kin.sum t (hl t List.mem_cons_self) x hx}
end
theorem Kin.sumT {f:Bool} {l:List Tm} (h:∀x,x∈l→P x) (hl:l.length≤1000000):P (sumT f l):=by
 match l,h,hl with
 | [],_,_=>exact C.app (by decide) (by decide) rfl (fun x hx=>by simp at hx)
 | [x],h,_=>exact h x List.mem_cons_self
 |x::y::r,h,hl=>exact C.app (by decide) hl rfl h
omit C in
theorem Kin.ins {l:List Pw} {n:Int} (hl:∀x,x∈l→P x.1) (ht:P t):∀z,z∈WV l t n→P z.1:=fun z hz=>by
 rcases Zck l t n z hz with h|h|⟨y,h1,h2⟩
 · exact hl z h
 · rw[h];exact ht
 · rw[← h2];exact hl y h1
mutual
theorem Kin.col:∀(t:Tm) (n:Int) (l l':List Pw),P t→(∀x,x∈l→P x.1)→t.col n l=some l'→∀x,x∈l'→P x.1
 | .mk k nm s b kz,n,l,l',ht,hl,h=>by rw[Tm.col]at h;split at h;{split at h;{exact Kin.colL kz _ l l' (C.kid ht) hl h};{exact absurd h (by simp)}};{cases h;exact Kin.ins hl ht}
theorem Kin.colL:∀(ts:List Tm) (n:Int) (l l':List Pw),(∀x,x∈ts→P x)→(∀x,x∈l→P x.1)→Go.Vm.colL ts n l=some l'→∀x,x∈l'→P x.1
 | [],n,l,l',_,hl,h=>by rw[Go.Vm.colL]at h;cases h;exact hl
 |t::r,n,l,l',ht,hl,h=>by
  rw[Go.Vm.colL]at h;cases e:t.col n l with
  | none=>rw[e]at h;exact absurd h (by simp)
  | some m=>rw[e]at h;exact Kin.colL r n m l' (fun x hx=>ht x (List.mem_cons_of_mem _ hx)) (Kin.col t n l m (ht t List.mem_cons_self) hl e) h
end
theorem Kin.of (h:P t):∀x,x∈(ofG t).1→P x.1:=by unfold ofG;split;{intro x hx;simp at hx};{split;{intro x hx;simp at hx};{rename_i l e;split;{intro x hx;simp at hx};{exact C.col t 1 [] l h (fun x hx=>by simp at hx) e}}}
omit C in
theorem Kin.insF:∀(b l:List Pw),(∀x,x∈l→P x.1)→(∀x,x∈b→P x.1)→∀x,x∈Go.Vm.insF l b→P x.1
 | [],_,h,_=>h
 |y::r,_,h,hb=>Kin.insF r _ (Kin.ins h (hb y List.mem_cons_self)) fun x hx=>hb x (List.mem_cons_of_mem _ hx)
theorem Kin.mul {a b:List Pw} (ha:∀x,x∈a→P x.1) (hb:∀x,x∈b→P x.1):∀x,x∈(Ui a b).1→P x.1:=by
 unfold Ui ZlF ZgA;split; · intro x hx;simp at hx
 split; · intro x hx;simp at hx
 split; · intro x hx;simp at hx
 split; · intro x hx;simp at hx
 exact Kin.insF b a ha hb
theorem Kin.ops {l:List Pw} (h:∀x,x∈l→P x.1):∀z,z∈WU l→P z:=fun z hz=>by
 rcases List.mem_append.1 hz with hz|hz
 · obtain⟨x, hx, hz⟩ := List.mem_flatMap.1 hz
   rw[(List.mem_replicate.1 hz).2]
   exact h x hx
 · obtain⟨x, hx, hz⟩ := List.mem_flatMap.1 hz
   rw[(List.mem_replicate.1 hz).2]
   refine C.app (by decide) (by simp) rfl fun y hy=>?_
   rw[List.mem_singleton]at hy
   subst hy
   exact h x hx
theorem Kin.prodT {f:Bool} {l:List Tm} (h:∀x,x∈l→P x) (hl:l.length≤1000000):P (prodT f l):=by
 match l,h,hl with
 | [],_,_=>exact C.app (by decide) (by decide) rfl (fun x hx=>by simp at hx)
 | [x],h,_=>exact h x List.mem_cons_self
 |x::y::r,h,hl=>exact C.app (by decide) hl rfl h
theorem Kin.termG {f:Bool} {l:List Pw} (h:∀x,x∈l→P x.1):P (termG f l).1:=by
 unfold Go.Vm.termG Zka;split; · exact C.zero
 split; · exact C.zero
 rename_i h8;split; · exact C.zero
 exact C.prodT (C.ops h) (by omega)
theorem Kin.prd (h:P t):P (Zau f t).1:=by
 unfold Zau;split; · exact C.zero
 exact C.termG (C.of h)
theorem Kin.fin {p:List Pw} (hb:P b) (hp:∀x,x∈p→P x.1):P (Zap f b p).1:=by
 unfold Zap;split; · exact hb
 split; · exact C.zero
 refine C.app (by decide) (by simp) rfl fun y hy=>?_;simp only[List.mem_cons,List.not_mem_nil,or_false]at hy;rcases hy with rfl|rfl;{exact hb};{exact C.termG hp}
theorem Kin.rse (hb:P b) (he:P e):P (WI f b e).1:=by
 unfold WI;split; · exact C.zero
 split
 ·split; · exact C.zero
  split; · exact C.zero
  exact C.fin (C.kd hb 0) (C.mul (C.of (C.kd hb 1)) (C.of he))
 {exact C.fin hb (C.of he)}
theorem Kin.dst (h:P t):P (Xw t):=by unfold Xw ZcC;split;{exact C.kd (C.kd h 0) _};{exact h}
end
theorem Uw:∀a b:List Tm,(Yb a b).length≤a.length+b.length
 | [],b=>by rw[Yb];simp
 |x::a,[]=>by rw[Yb];simp
 |x::a,y::b=>by have h1:=Uw a (y::b);have h2:=Uw (x::a) b;have h3:=Uw a b;simp only[List.length_cons]at *;rw[Yb];split;{rw[List.length_cons];omega};{split;{rw[List.length_cons];omega};{omega}}
termination_by a b=>a.length+b.length
mutual
theorem UP:∀t:Tm,t.sumP.length≤t.size
 | .mk k nm s b kz=>by rw[Tm.sumP,Tm.size];split;{simp};{split;{have:=Xg kz [];simp only[List.length_nil]at this;omega};{simp only[List.length_singleton];omega}}
theorem Xg:∀l o:List Tm,(ZS l o).length≤o.length+Zk l
 | [],o=>by rw[ZS];omega
 |t::r,o=>by have h1:=Xg r (Yb o t.sumP);have h2:=Uw o t.sumP;have h3:=UP t;rw[ZS,Zk];omega
end
theorem Zcx:∀(l:List Pw) (t:Tm) (n:Int),(WV l t n).length≤l.length+1
 | [],t,n=>by simp[WV]
 |x::r,t,n=>by have:=Zcx r t n;simp only[WV];split;{simp only[List.length_cons];omega};{split;{simp};{split<;>simp only[List.length_cons]<;>omega}}
mutual
theorem ZeY:∀(t:Tm) (n:Int) (l l':List Pw),t.col n l=some l'→l'.length≤l.length+t.size
 | .mk k nm s b kz,n,l,l',h=>by rw[Tm.col]at h;rw[Tm.size];split at h;{split at h;{have:=Zcy kz _ l l' h;omega};{exact absurd h (by simp)}};{cases h;have:=Zcx l (.mk k nm s b kz) n;omega}
theorem Zcy:∀(ts:List Tm) (n:Int) (l l':List Pw),colL ts n l=some l'→l'.length≤l.length+Zk ts
 | [],n,l,l',h=>by rw[colL]at h;cases h;omega
 |t::r,n,l,l',h=>by
  rw[colL]at h;rw[Zk];cases e:t.col n l with
  | none=>rw[e]at h;exact absurd h (by simp)
  | some m=>rw[e]at h;have h1:=ZeY t n l m e;have h2:=Zcy r n m l' h;omega
end
theorem UK (t:Tm):1≤t.size:=by cases t;rw[Tm.size];omega
theorem YT (h:t.valid=0):t.size≤400:=by unfold Tm.valid at h;split at h;{rename_i h1;exact absurd h h1};{split at h;{exact absurd h (by decide)};{omega}}
theorem Yq:Tm.zero.size=1:=rfl
theorem Zhf (c:Bool) (l:List Tm):(sumG c l).1.size≤400:=by
 unfold sumG;split; · rw[Yq];omega
 split; · rw[Yq];omega
 split; · rw[Yq];omega
 rename_i h;exact YT (Classical.not_not.1 h)
theorem Zbu (f:Bool) (l:List Pw):(termG f l).1.size≤400:=by
 unfold termG Zka;split; · rw[Yq];omega
 split; · rw[Yq];omega
 split; · rw[Yq];omega
 rename_i h;exact YT (Classical.not_not.1 h)
theorem ZhG (f:Bool) (t:Tm):(Zau f t).1.size≤400:=by
 unfold Zau;split; · rw[Yq];omega
 exact Zbu _ _
theorem Z4:∀{l:List Tm} {x:Tm},x∈l→x.size≤Zk l
 |y::r,x,h=>by rw[Zk];rcases List.mem_cons.1 h with rfl|h;{omega};{have:=Z4 h;omega}
theorem ZeV (t:Tm) (i:Nat):(t.kd i).size≤t.size:=by
 cases t;rename_i kz;simp only[Tm.kd,List.getD_eq_getElem?_getD,Tm.size];cases e:kz[i]? with
 |none=>rw[Option.getD_none,Yq];omega
 |some x=>have:=Z4 (List.mem_of_getElem? e);rw[Option.getD_some];omega
theorem ZdA (f:Bool) (b:Tm) (p:List Pw):(Zap f b p).1.size≤b.size+401:=by
 have:=Zbu f p;unfold Zap;split; · show b.size≤_;omega
 split; · rw[Yq];omega
 simp only[Tm.size,Zk];omega
theorem Zhk (f:Bool) (b e:Tm):(WI f b e).1.size≤b.size+401:=by
 have h1:=ZeV b 0;have h2:=ZdA f (b.kd 0);have h3:=ZdA f b;unfold WI;split; · rw[Yq];omega
 split
 ·split; · rw[Yq];omega
  split; · rw[Yq];omega
  exact Nat.le_trans (h2 _) (by omega)
 {exact h3 _}
theorem Zi4 (t:Tm):(Xw t).size≤t.size:=by unfold Xw ZcC;split;{exact Nat.le_trans (ZeV _ _) (ZeV _ _)};{exact Nat.le_refl _}
theorem Zhl {b:Bool} (h:(Tm.mk 3 nm s b kz).th=0):(YQ nm).kind≠0∧(YQ nm).least≤kz.length∧(kz.length:Int)≤(YQ nm).most∧thL kz=0:=by rw[Tm.th]at h;split at h;{rename_i h1;exact absurd rfl h1};split at h;{exact absurd h (by decide)};rename_i h2;split at h;{exact absurd h (by decide)};rename_i h3;split at h;{exact absurd h (by decide)};exact⟨h2,by omega,by omega,h⟩
theorem Zqi {n:Nat} (h:Znl nm m=true) (e:n=m):Znl nm n=true:=by rw[e];exact h
theorem QQ {n:Nat} (h0:(YQ nm).kind≠0) (h1:(YQ nm).least≤n) (h2:(n:Int)≤(YQ nm).most):nm.length≤24∧n≤8∧Znl nm n=true:=by rcases Zaq nm with e|⟨e1,e2⟩;{rw[e]at h0;exact absurd rfl h0};{rw[← e2];revert h1 h2;generalize YQ nm=s at e1;simp only[ZaM,List.mem_cons,List.not_mem_nil,or_false]at e1;rcases e1 with rfl|rfl|rfl|rfl|rfl|rfl|rfl|rfl|rfl|rfl|rfl|rfl|rfl|rfl|rfl|rfl|rfl|rfl|rfl|rfl|rfl<;>intro h1 h2<;>simp only at h1 h2<;>refine⟨by decide,by omega,?_⟩<;>first|rfl|exact Zqi (m:=2) rfl (by omega)|exact Zqi (m:=1) rfl (by omega)}
theorem ZbX (c:Bool):∀l:List Tm,(nrmL c l).2=0→(nrmL c l).1.length=l.length
 | [],_=>rfl
 |t::r,h=>by have ih:=ZbX c r;simp only[nrmL]at h ⊢;split at h;{rename_i h1;exact absurd h h1};rename_i h1;split at h;{rename_i h2;exact absurd h h2};rename_i h2;rw[if_neg h1,if_neg h2,List.length_cons,List.length_cons,ih (Classical.not_not.1 h2)]
theorem Zns (f:Bool):(Zau f (.mk 3 Um 0 f [])).1.size≤1:=by cases f<;>decide
theorem ZjY {c:Bool} (h1:(YQ nm).least≤kz.length) (h2:(kz.length:Int)≤(YQ nm).most) (hlen:ks.length=kz.length) (hs:Zk ks≤201*Zk kz) (hh:∀x r y q,kz=x::r→ks=y::q→y.size≤201*x.size):(YX c nm ks).1.size≤201*(1+Zk kz):=by
 have two:2≤kz.length→2≤Zk kz:=fun h=>by
  match kz,h with
  | x :: y :: r, _ =>
    have a:=UK x
    have b:=UK y
    simp only[Zk]
    omega
 unfold YX;split;{have:=Zi4 (.mk 3 nm 0 c ks);rw[Tm.size]at this;show(Xw _).size≤_;omega};split
 ·rename_i _ e;have e1:(YQ nm).least=2:=by rw[e];rfl
  have:=two (by omega);have:=Zhf c ks;omega
 split
 ·rename_i _ _ e;simp only[ZbO,Bool.or_eq_true,Bool.and_eq_true,decide_eq_true_eq,true_and]at e;have hp:=ZhG c (.mk 3 nm 0 c ks);rcases e with e|e|e;{(have e1:(YQ nm).least=2:=by rw[e];rfl);have:=two (by omega);omega}
  ·(have e1:(YQ nm).least=1:=by rw[e];rfl);match kz,h1 with
   | [],h1=>rw[e1]at h1;simp at h1
   | x::r,_=>have:=UK x;simp only[Zk];omega
  {(have e1:(YQ nm).most=0:=by rw[e];rfl);have e2:ks= []:=List.length_eq_zero_iff.1 (by omega);subst e2;subst e;have:=Zns c;omega}
 split
 ·rename_i _ _ _ e;have e1:(YQ nm).least=2:=by rw[e];rfl
  match kz,ks,h1,hlen with
  | [],_,h1,_=>rw[e1]at h1;simp at h1
  | [_],_,h1,_=>rw[e1]at h1;simp at h1
  | x::z::r,[],_,hlen=>simp at hlen
  | x::z::r,y::q,_,_=>have a:=hh x _ y q rfl rfl;have b:=Zhk c y ((y::q).getD 1 .zero);rw[List.getD_cons_zero];have d:=UK z;simp only[Zk];omega
 {show(Tm.mk 3 nm 0 c ks).size≤_;rw[Tm.size];omega}
mutual
theorem QE (c:Bool):∀t:Tm,t.th=0→(t.nrm c).1.size≤201*t.size
 | .mk k nm s b kz,h=>by have h9:=UK (.mk k nm s b kz);rw[Tm.nrm];split;{show(Tm.mk k nm s b kz).size≤_;omega};rename_i hk;have hk:=Classical.not_not.1 hk;subst hk;obtain⟨h0,h1,h2,h3⟩:=Zhl h;split;{rw[Yq];omega};rename_i he;obtain⟨a,b'⟩:=Zak c kz h3;have:=ZjY (c:=c) h1 h2 (ZbX c kz (Classical.not_not.1 he)) a b';rw[Tm.size];exact this
theorem Zak (c:Bool):∀l:List Tm,thL l=0→Zk (nrmL c l).1≤201*Zk l∧∀x r y q,l=x::r→(nrmL c l).1=y::q→y.size≤201*x.size
 | [],_=>⟨by simp[nrmL,Zk],fun x r y q h=>by simp at h⟩
 |t::r,h=>by rw[thL]at h;split at h;{rename_i h1;exact absurd h h1};rename_i h1;have a:=QE c t (Classical.not_not.1 h1);obtain⟨b,_⟩:=Zak c r h;rw[nrmL];split;{exact⟨by simp[Zk],fun _ _ _ _ _ h=>by simp at h⟩};split;{exact⟨by simp[Zk],fun _ _ _ _ _ h=>by simp at h⟩};refine⟨by simp only[Zk];omega,fun x r' y q e e'=>?_⟩;cases e;cases e';exact a
end
theorem Zql {P:Tm→Prop} (C:Kin P):∀l,(∀x,x∈l→P x)→∀x,x∈clL l→P x:=fun l h x hx=>by
 rw[XI]at hx
 obtain⟨y,hy,rfl⟩:=List.mem_map.1 hx
 exact C.cl (h y hy)
theorem ZiA {P:Tm→Prop} (C:Kin P) (m:Bool) (l:List Tm) (h:∀x,x∈l→P x):∀x,x∈ZdZ m l→P x:=by cases m;{exact h};{exact Zql C l h}
section
variable {P:Tm→Prop} (C:Kin P) {c:Bool}
include C
theorem Kin.sumG {l:List Tm} (h:∀x,x∈l→P x) (hs:Zk l≤1000000):P (sumG c l).1:=by
 unfold Go.Vm.sumG;split; · exact C.zero
 split; · exact C.zero
 split; · exact C.zero
 refine C.sumT (ZiA C c _ (C.sumL l [] h fun x hx=>by simp at hx)) ?_;have:=Xg l [];rw[Zfq];simp only[List.length_nil]at this;omega
theorem Kin.step (h0:(YQ nm).kind≠0) (h1:(YQ nm).least≤ks.length) (h2:(ks.length:Int)≤(YQ nm).most) (h:∀x,x∈ks→P x) (hs:Zk ks≤1000000):P (YX c nm ks).1:=by
 obtain⟨a1,a2,a3⟩:=QQ h0 h1 h2;have ht:P (.mk 3 nm 0 c ks):=C.app a1 (by omega) a3 h;unfold YX;split; · exact C.dst ht
 split; · exact C.sumG h hs
 split; · exact C.prd ht
 split;{exact C.rse (C.getD h 0) (C.getD h 1)};{exact ht}
mutual
theorem Kin.nrm:∀t:Tm,t.th=0→t.size≤4000→P t→P (t.nrm c).1
 | .mk k nm s b kz,h,hs,hp=>by rw[Tm.nrm];split;{exact hp};rename_i hk;have hk:=Classical.not_not.1 hk;subst hk;obtain⟨h0,h1,h2,h3⟩:=Zhl h;rw[Tm.size]at hs;split;{exact C.zero};rename_i he;have e:=ZbX c kz (Classical.not_not.1 he);have a:=(Zak c kz h3).1;refine Kin.step C h0 (by rw[e];exact h1) (by rw[e];exact h2) (Kin.nrmL kz h3 (by omega) (C.kid hp)) (by omega)
theorem Kin.nrmL:∀l:List Tm,thL l=0→Zk l≤4000→(∀x,x∈l→P x)→∀x,x∈(Go.Vm.nrmL c l).1→P x
 | [],_,_,_=>fun x hx=>by simp[Go.Vm.nrmL]at hx
 |t::r,h,hs,hp=>by rw[thL]at h;rw[Zk]at hs;split at h;{rename_i h1;exact absurd h h1};rename_i h1;have a:=Kin.nrm t (Classical.not_not.1 h1) (by omega) (hp t List.mem_cons_self);have b:=Kin.nrmL r h (by omega) fun x hx=>hp x (List.mem_cons_of_mem _ hx);rw[Go.Vm.nrmL];split;{intro x hx;simp at hx};split;{intro x hx;simp at hx};intro x hx;rcases List.mem_cons.1 hx with rfl|hx;{exact a};{exact b x hx}
end
end
mutual
theorem Zjx:∀t:Tm,t.nodes=0→t.th=0→t.okA=true
 | .mk k nm s b kz,hn,ht=>by
  rw[Tm.nodes]at hn;split at hn;{rename_i h1;exact absurd hn h1};rename_i h1;have h1:=Classical.not_not.1 h1;unfold Xj at h1;split at h1;{exact absurd h1 (by decide)};rename_i h2;rw[Tm.okA];by_cases hk:k=3;{subst hk;obtain⟨a0,a1,a2,a3⟩:=Zhl ht;have hs:s=0:=Classical.byContradiction fun h=>h2 (by simp[h]);rw[if_pos rfl,(QQ a0 a1 a2).2.2,Zjr kz hn a3,hs];rfl}
  ·have hz : kz = [] := by
     cases kz with
     | nil=>rfl
     | cons x r=>exact absurd (by simp[hk]) h2
   rw[if_neg hk,hz];rfl
theorem Zjr:∀l:List Tm,Yk l=0→thL l=0→Zhb l=true
 | [],_,_=>rfl
 |t::r,hn,ht=>by rw[Yk]at hn;rw[thL]at ht;split at hn;{rename_i h1;exact absurd hn h1};rename_i h1;split at ht;{rename_i h2;exact absurd ht h2};rename_i h2;rw[Zhb,Zjx t (Classical.not_not.1 h1) (Classical.not_not.1 h2),Zjr r hn ht];rfl
end
theorem Ws:∀{l:List Tm} {i:Nat} {t:Tm} (o:List Tm),l[i]? = some t→ZS (l.take (i+1)) o=Yb (ZS (l.take i) o) t.sumP
 | [],i,t,o,h=>by simp at h
 |x::r,0,t,o,h=>by
  have e:x=t:=by simpa using h
  subst e;simp only[List.take_succ_cons,List.take_zero,ZS]
 |x::r,i+1,t,o,h=>by simp only[List.take_succ_cons,ZS];exact Ws _ (by simpa using h)
mutual
theorem Zc7:∀(t z:Tm),z∈t.sumP→z.size≤t.size
 | .mk k nm s b kz,z,hz=>by rw[Tm.sumP]at hz;split at hz;{simp at hz};{split at hz;{rcases U8 kz [] z hz with h|⟨x,hx,h⟩;{simp at h};{have:=Z4 hx;rw[Tm.size];omega}};{rw[List.mem_singleton]at hz;rw[hz];exact Nat.le_refl _}}
theorem U8:∀(l o:List Tm) (z:Tm),z∈ZS l o→z∈o∨∃x,x∈l∧z.size≤x.size
 | [],o,z,hz=>by rw[ZS]at hz;exact .inl hz
 |t::r,o,z,hz=>by rw[ZS]at hz;rcases U8 r _ z hz with h|⟨x,hx,h⟩;{rcases X2 _ _ z h with h|h;{exact .inl h};{exact .inr ⟨t,List.mem_cons_self,Zc7 t z h⟩}};{exact .inr ⟨x,List.mem_cons_of_mem _ hx,h⟩}
end
def SmL (l:List Tm):Prop:=∀t,t∈l→t.Ok∧t.size≤100000
theorem SmL.tail {r:List Tm} (h:SmL (x::r)):SmL r:=fun t ht=>h t (List.mem_cons_of_mem _ ht)
theorem SmL.head {r:List Tm} (h:SmL (x::r)):x.Ok∧x.size≤100000:=h x List.mem_cons_self
theorem SmL.take {l:List Tm} (h:SmL l) (i:Nat):SmL (l.take i):=fun t ht=>h t (List.mem_of_mem_take ht)
theorem SmL.sum {t:Tm} (h:t.Ok) (hs:t.size≤100000):SmL t.sumP:=fun x hx=>⟨cls_ok.sum t h x hx,Nat.le_trans (Zc7 t x hx) hs⟩
theorem SmL.sumL {l:List Tm} (h:SmL l):SmL (ZS l []):=fun x hx=>⟨cls_ok.sumL l [] (fun y hy=>(h y hy).1) (fun y hy=>by simp at hy) x hx,by
 rcases U8 l [] x hx with h'|⟨y,hy,h'⟩
 · simp at h'
 · exact Nat.le_trans h' (h y hy).2⟩
open Go.RowKit Go.Sort Go.Proofs
def gtT (l:List Tm) (i:Nat):Tm:=(l[i]?).getD (l.headD .zero)
theorem Zma (h:i<l.length):gtT l i=l[i]:=by simp[gtT,h]
theorem Y4 (hne:l≠ []) (i:Nat):gtT l i∈l:=by
 unfold gtT
 cases h:l[i]? with
 |some x=>exact List.mem_of_getElem? h
 | none => cases l with
   | nil=>exact absurd rfl hne
   | cons a r=>simp
def ZaS (l:List Tm) (i j:Nat):Int:=(gtT l i).cmp (gtT l j)
def Xz (l:List Tm):Array Nat:=pdq (ltOf (ZaS l)) (Array.range l.length) 0 l.length (Lib.bitLen l.length) true true
def Uh (l:List Tm):List Tm:=(Xz l).toList.map (gtT l)
theorem Zfa {c:Nat→Nat→Int} {x:Nat}:ltOf c x y=true↔c x y<0:=by unfold ltOf;exact decide_eq_true_iff
theorem ZfI {c:Nat→Nat→Int} {x:Nat}:ltOf c x y=false↔0≤c x y:=by rw[← Bool.not_eq_true,Zfa];omega
theorem Zqm (hne:l≠ []) (h:∀t,t∈l→t.size≤N):SWO (ltOf (ZaS l)) where
 irrefl x:=by
  have hx:=h _ (Y4 hne x)
  have:=(VZ N).anti _ _ hx hx
  rw[ZfI]
  simp only[ZaS]
  omega
 trans x y z h1 h2:=by
  rw[Zfa]at *
  simp only[ZaS]at *
  exact(VZ N).strict1 (h _ (Y4 hne x)) (h _ (Y4 hne y)) (h _ (Y4 hne z)) h1 (by omega)
 ntrans x y z h1 h2:=by
  rw[ZfI]at *
  simp only[ZaS]at *
  have a1:=(VZ N).anti _ _ (h _ (Y4 hne x)) (h _ (Y4 hne y))
  have a2:=(VZ N).anti _ _ (h _ (Y4 hne y)) (h _ (Y4 hne z))
  have a3:=(VZ N).anti _ _ (h _ (Y4 hne x)) (h _ (Y4 hne z))
  have:=(VZ N).tr _ _ _ (h _ (Y4 hne z)) (h _ (Y4 hne y)) (h _ (Y4 hne x)) (by omega) (by omega)
  omega
theorem Zaw (hne:l≠ []) (h:∀t,t∈l→t.size≤N):PermIn 0 l.length (Array.range l.length) (Xz l)∧SortedIn (ltOf (ZaS l)) 0 l.length (Xz l):=
 pdq_sorts (ltOf (ZaS l)) (Zqm hne h) (Array.range l.length) 0 l.length (Lib.bitLen l.length) true true (Nat.zero_le _) (by simp) (.inl rfl)
theorem QX (hne:l≠ []) (h:∀t,t∈l→t.size≤N):(Xz l).size=l.length:=by simpa using (Zaw hne h).1.1
theorem Zb0 (l:List Tm):(List.range l.length).map (gtT l)=l:=by apply List.ext_getElem;{simp};{intro i h1 h2;simp[Zma h2]}
theorem ZgS (hne:l≠ []) (h:∀t,t∈l→t.size≤N):(Uh l).Perm l:=by
 have h1:=(Zaw hne h).1.2.2;have h2:=QX hne h;have e1:((Xz l).extract 0 l.length).toList=(Xz l).toList:=by rw[← h2];simp
 have e2:((Array.range l.length).extract 0 l.length).toList=List.range l.length:=by simp
 rw[e1,e2]at h1;have:=h1.map (gtT l);rwa [Zb0]at this
theorem ZnB {w':World} (hh:∀k,k<W.heap.size→w'.heap[k]? = W.heap[k]?) (hs:W.heap.size≤w'.heap.size) (h1:w'.os=W.os) (h2:w'.output=W.output) (h3:w'.tape=W.tape) (h4:W.drawn≤w'.drawn):∃q os',w'=grow (W.drewN q) os':=by
 refine⟨w'.drawn-W.drawn,w'.heap.extract W.heap.size w'.heap.size,?_⟩;have hheap:w'.heap=W.heap++w'.heap.extract W.heap.size w'.heap.size:=by refine Array.ext_getElem? fun k=>?_;rw[Array.getElem?_append];split;{rename_i h;exact hh k h};{rename_i h;rw[Array.getElem?_extract];split;{congr 1;omega};{rw[Array.getElem?_eq_none (by omega)]}}
 have hd:(W.drewN (w'.drawn-W.drawn)).drawn=w'.drawn:=by have:(W.drewN (w'.drawn-W.drawn)).drawn=W.drawn+(w'.drawn-W.drawn):=rfl;omega
 obtain⟨a,b,c,d,e⟩:=w';simp only at h1 h2 h3 h4 hheap hd;subst h1 h2 h3;have:(grow (W.drewN (c-W.drawn)) (a.extract W.heap.size a.size))=⟨W.heap++a.extract W.heap.size a.size,W.tape,W.drawn+(c-W.drawn),W.os,W.output⟩:=rfl;rw[this, ← hheap];congr 1;omega
section
variable {E E1:Env} {P:Program}
def wGm (w:World):Gh:={S:=wS w,σ:=fun _=>none,τ:=fun _=>none,κ:=fun _=>0,mono:=true}
theorem ZmN (w:World):Inv (wGm w) hNil w:=by have h:=ZlL w;exact⟨h.st,fun id es el h=>by simp[hNil]at h,fun id es h=>by simp[hNil]at h,fun id T cs h=>by simp[hNil]at h,fun i j b h=>(Xy h).elim,fun _ _=>rfl,fun _ _=>rfl,fun t b lo hi h=>by simp[hNil]at h,fun t t' b lo hi lo' hi2 h=>by simp[hNil]at h,List.nodup_nil,fun t h=>by simp[hNil]at h,fun id b h=>by simp[wGm]at h,Nat.le_refl _,fun id b c T m h=>(Xy h).elim⟩
theorem ZgK {f:FuncId} {c:Code} (hf:FnOk P f fn c) (hG:GOk E1 (wGm W)) {args:List PV} {k:IntKind} {n:Int} (h:CallOk E1 P f args hNil (.int k n) hNil) {vals:Array Value} (hv:Vl (wS W) args vals.toList):Calls P f vals W fun e w'=>e= .returned (.int k n)∧∃q os',w'=grow (W.drewN q) os':=by have hu:=h (wGm W) W vals (ZmN W) hG ⟨hv.1,fun i h1 h2=> .pure _ _ (hv.2 i h1 h2)⟩;rw[Zv hf]at hu;exact Calls.mono hu fun e w' ⟨v,e1,g',hp,_,kp⟩=>by obtain rfl:=hp.int_inv;exact⟨e1,ZnB (fun i hi=>kp.heap i hi (WL _ i)) kp.size kp.so.1 kp.so.2.1 kp.so.2.2.1 (kp.so.2.2.2 rfl)⟩
theorem V.fn0_inv {f:FuncId} (h:V g (.fn f []) v):v= .func (.func f) #[] #[]:=by
 cases h with
 | pure _ _ h => cases h with
   | fn _ _ vs hl _ =>
     have:vs= #[]:=Array.size_eq_zero_iff.1 hl
     rw[this]
 | fn _ _ vs hl _ =>
   have:vs= #[]:=Array.size_eq_zero_iff.1 hl
   rw[this]
theorem Zik (t:Tm):t.cells.all ZL=true:=by obtain⟨k,nm,s,b,kz⟩:=t;simp only[Tm.cells,List.all_cons,List.all_nil,Yd];rfl
theorem Zn1 (h:p∈t.cells):frz1 p=some p:=by obtain⟨k,nm,s,b,kz⟩:=t;simp only[Tm.cells,List.mem_cons,List.not_mem_nil,or_false]at h;rcases h with rfl|rfl|rfl|rfl;{rfl};{rfl};{rfl};{exact ZX _ _ _}
theorem Zoc {f g : FuncId} {fng : Func} {c cg : Code} (hf : FnOk P f fn c) (hfg : FnOk P g fng cg) (hG1 : E1.G = E.G ∧ E1.I = E.I) (hm1 : E1.mono = true)
  (hK : ∀(enc : Nat → List Value) (_ : ∀x, (enc x).length = 4) (_ : ∀x, ∀v ∈ enc x, v.oneCell' = true) (cf : Nat → Nat → Int) (_ : SWO (ltOf cf)) (blk off cap : Nat) (d : Array Nat) (w : World)
    (_:∀args w,(callFunc g args).run P w= .ok (.enter g args) w) (_:CmpLays P g #[] enc 4 cf blk off d.size w) (_:HoldsK enc 4 w blk off d) (_:blk<w.heap.size) (_:d.size<4611686018427387904),
    Calls P f #[.slice (some ⟨blk,off,none⟩) d.size cap,.func (.func g) #[] #[]] w fun e w'=>
     e= .returned (.tuple #[])∧∃n os,w'=sortWorldK enc 4 w blk off n (pdq (ltOf cf) d 0 d.size (Lib.bitLen d.size) true true) os)
 (hne:l≠ []) (hsz:∀t,t∈l→t.size≤N) (hcmp:∀a b,a∈l→b∈l→CallOk E1 P g [.agg a.cells,.agg b.cells] hNil (.int .i64 (a.cmp b)) hNil) (hlen:l.length<4611686018427387904)
  {H:Heap} {id:Nat} (hb:H.bx[id]? = some (.cells 4 (Za l))) (hro:H.ro≤id) :
  CallOk E P f [.own id 4 0 l.length,.fn g []] H (.tup []) {H with bx:=H.bx.set id (.cells 4 (Za (Uh l)))}:=by
 intro gh w vals hi hg hv;obtain⟨v0,v1,rfl,e0,e1⟩:=Xt hv;have hpos:0<l.length:=List.length_pos_iff.2 hne;obtain⟨b,cap,a,hσ,hcap,ha,_,hκ,rfl⟩:=e0.own_inv2;obtain rfl:=ha (.inl hpos);obtain rfl:=e1.fn0_inv;obtain⟨b',C,T,h1,hheap,hw4,hsize,hcell,hS⟩:=hi.bx _ _ _ hb;rw[hσ]at h1;cases h1;rw[Zb]at hsize;have hbl:=hi.sz _ _ hσ;have cl4:∀(t:Tm),t.cells.length=4:=fun ⟨_,_,_,_,_⟩=>rfl;have hget:∀i (h:i<l.length) j,j<4→∃v p,C[i*4+j]? = some v∧l[i].cells[j]? = some p∧V0 gh.S p v:=fun i h j hj=>by
  have hel:i<(Za l).length:=by rw[Zb];exact h
  have ee:(Za l)[i]=l[i].cells:=by simp[Ys]
  have hjl:j<((Za l)[i]).length:=by rw[ee,cl4];exact hj
  obtain⟨v,hv1,hv2⟩:=hcell i hel j hjl;have hg1:l[i].cells[j]? = some ((Za l)[i][j]):=by rw[← ee];exact List.getElem?_eq_getElem hjl
  exact⟨v,_,hv1,hg1,Ul hv2 (Zn1 (List.mem_of_getElem? hg1))⟩
 let ixc:Nat→Nat:=fun i=>if i<l.length then i else 0
 have ixl:∀i,ixc i<l.length:=fun i=>by simp only[ixc];split<;>assumption
 have ixg:∀i,gtT l i=l[ixc i]'(ixl i):=fun i=>by
  by_cases e:i<l.length;{(have:ixc i=i:=by simp[ixc,e]);simp only[this,Zma e]}
  ·(have:ixc i=0:=by simp[ixc,e]);simp only[this];unfold gtT;rw[List.getElem?_eq_none (by omega)];cases l with
   | nil=>exact absurd rfl hne
   | cons a r=>rfl
 let enc:Nat→List Value:=fun i=>(List.range 4).map fun j=>C.getD (ixc i*4+j) undef
 have encl:∀x,(enc x).length=4:=fun x=>by simp[enc]
 have encg:∀x j,j<4→∃v p,C[ixc x*4+j]? = some v∧(enc x)[j]? = some v∧(gtT l x).cells[j]? = some p∧V0 gh.S p v:=fun x j hj=>by
  obtain⟨v,p,q1,q2,q3⟩:=hget (ixc x) (ixl x) j hj;refine⟨v,p,q1,?_,by rw[ixg x];exact q2,q3⟩;have:C.getD (ixc x*4+j) undef=v:=by simp only[Array.getD_eq_getD_getElem?,q1,Option.getD_some]
  simp only[enc,List.getElem?_map,List.getElem?_range hj,Option.map_some,this]
 have enc1:∀x,∀v∈enc x,v.oneCell'=true:=fun x v hvx=>by obtain⟨j,hj,rfl⟩:=List.mem_iff_getElem.1 hvx;rw[encl]at hj;obtain⟨v,p,q1,q2,q3,q4⟩:=encg x j hj;rw[List.getElem?_eq_getElem (by rw[encl];exact hj)]at q2;simp only[Option.some.injEq]at q2;rw[q2];exact XR (g:=gh) (.pure _ _ q4) (List.all_eq_true.1 (Zik (gtT l x)) _ (List.mem_of_getElem? q3))
 have hflat:∀(d:Array Nat) t,t<d.size*4→(flatK enc 4 d)[t]! =C.getD (ixc d[t / 4]!*4+t % 4) undef:=fun d t ht=>by
  rw[get_flatK _ _ _ t ht];obtain⟨v,_,q1,q2,_⟩:=encg d[t / 4]! (t % 4) (Nat.mod_lt _ (by omega));have:(enc d[t / 4]!)[t % 4]! =v:=by rw[List.getElem!_eq_getElem?_getD,q2];rfl
  rw[this,Array.getD_eq_getD_getElem?,q1];rfl
 have hH:HoldsK enc 4 w b 0 (Array.range l.length):=fun j hj=>by
  have hj':j<l.length*4:=by simpa using hj
  have hjc:j<C.size:=by omega
  have hq:j / 4<l.length:=by omega
  have e:(flatK enc 4 (Array.range l.length))[j]! =C[j]:=by rw[hflat _ j (by simpa using hj')];(have r:(Array.range l.length)[j / 4]! =j / 4:=by rw[getElem!_pos _ _ (by simpa using hq)];simp);rw[r];(have:ixc (j / 4)=j / 4:=by simp[ixc,hq]);rw[this,show j / 4*4+j % 4=j by omega];simp[Array.getD,hjc]
  refine⟨?_,?_⟩;{rw[Nat.zero_add,e];simp[World.cell?,hheap,hjc]};{simp[World.frozen?,hheap]}
 have Wcell:∀(m:Nat) (os:Array Obj) (dk:Array Nat) b' o v,gh.S b' o=some v→(sortWorldK enc 4 w b 0 m dk os).cell? ⟨b',o,none⟩=some v:=fun m os dk b' o v hs=>by
  have hb':b'≠b:=fun e=>by subst e;rw[hS]at hs;cases hs
  have hlt:=hi.S_lt hs;have hst:=hi.st _ _ _ hs;have hp:(putRowK enc 4 (Sort.ahead w m) b 0 dk).cell? ⟨b',o,none⟩=some v:=by unfold putRowK;rw[cell?_putRow_other _ _ _ _ _ _ (.inl hb')];exact hst
  unfold sortWorldK grow;simp only[World.cell?]at hp ⊢;rw[Array.getElem?_append_left (by unfold putRowK;rw[Go.Proofs.size_putRow];exact hlt)];exact hp
 have hC:CmpLays P g #[] enc 4 (ZaS l) b 0 (Array.range l.length).size w:=fun m os dk _ x y=>by
  have hgo:GOk E1 (wGm (sortWorldK enc 4 w b 0 m dk os)):=⟨fun k cs hk=>(hg.1 k cs (by rw[← hG1.1];exact hk)).mono fun b' o v hs=>Wcell m os dk b' o v hs,fun _=>hm1,fun k q hk=>let ⟨v,e,h⟩:=hg.2.2 k q (by rw[← hG1.2];exact hk);⟨v,Wcell m os dk _ _ _ e,h⟩⟩;have agg:∀z,V0 (wS (sortWorldK enc 4 w b 0 m dk os)) (.agg (gtT l z).cells) (.agg (enc z).toArray):=fun z=>
   .agg _ _ (by simp[encl,cl4]) fun i hi'=>by
    rw[cl4]at hi'
    obtain⟨v,p,_,q2,q3,q4⟩:=encg z i hi'
    have e1:(enc z).toArray[i]'(by simp[encl];exact hi')=v:=by
     rw[List.getElem?_eq_getElem (by rw[encl];exact hi')]at q2
     simpa using q2
    have e2:(gtT l z).cells[i]'(by rw[cl4];exact hi')=p:=by
     rw[List.getElem?_eq_getElem (by rw[cl4];exact hi')]at q3
     simpa using q3
    rw[e1,e2]
    exact q4.mono fun b' o v hs=>Wcell m os dk b' o v hs
  have:=ZgK hfg hgo (hcmp _ _ (Y4 hne x) (Y4 hne y)) (vals:= #[.agg (enc x).toArray,.agg (enc y).toArray]) ⟨rfl,fun i h1 h2=>by
   match i,h1 with
   | 0,_=>exact agg x
   | 1,_=>exact agg y⟩
  exact this
 rw[Zv hf];have call:=hK enc encl enc1 (ZaS l) (Zqm hne hsz) b 0 cap (Array.range l.length) w (fun args w=>Zv hfg args) hC hH hbl (by simpa using hlen);have er:(Array.range l.length).size=l.length:=by simp
 rw[er]at call;simp only[Nat.zero_mul];refine Calls.mono call fun e w' ⟨he,n,os,hw⟩=>?_;subst hw;have hd':pdq (ltOf (ZaS l)) (Array.range l.length) 0 l.length (Lib.bitLen l.length) true true=Xz l:=rfl;rw[hd'];have hds:=QX hne hsz;let C':Array Value:=C.mapIdx fun k y=>if 0≤k∧k<0+(flatK enc 4 (Xz l)).size then(flatK enc 4 (Xz l))[k-0]! else y
 have hat:(putRowK enc 4 (Sort.ahead w n) b 0 (Xz l)).heap[b]? = some (.cells C' T (0,0)):=by unfold putRowK putRow mapBlock;simp only[heap_ahead,Array.getElem?_modify,hheap,if_true,Option.map_some,onCells,putCells,C',id_eq]
 have hoth:∀k,k≠b→(putRowK enc 4 (Sort.ahead w n) b 0 (Xz l)).heap[k]? = w.heap[k]? :=fun k hk=>by unfold putRowK putRow mapBlock;simp only[heap_ahead,Array.getElem?_modify];rw[if_neg (Ne.symm hk)]
 have hnew:∀i (h:i<l.length) j,j<4→∃v p,C'[i*4+j]? = some v∧(gtT l (Xz l)[i]!).cells[j]? = some p∧V0 gh.S p v:=fun i h j hj=>by
  have ht:i*4+j<(Xz l).size*4:=by omega
  obtain⟨v,p,q1,_,q3,q4⟩:=encg (Xz l)[i]! j hj;refine⟨v,p,?_,q3,q4⟩;have hlt:i*4+j<C.size:=by omega
  simp only[C',Array.getElem?_mapIdx];rw[Array.getElem?_eq_getElem hlt,Option.map_some,if_pos ⟨Nat.zero_le _,by rw[size_flatK];omega⟩,Nat.sub_zero,hflat _ _ ht,show(i*4+j) / 4=i by omega,show(i*4+j) % 4=j by omega,Array.getD_eq_getD_getElem?,q1];rfl
 have hsl:(Uh l).length=l.length:=by simp[Uh,hds]
 obtain⟨j1,j2⟩:=Uc (w':=putRowK enc 4 (Sort.ahead w n) b 0 (Xz l)) hi hro hb trivial hσ hS hoth (by unfold putRowK;rw[Go.Proofs.size_putRow];rfl) hat (fun a=>by unfold putRowK;rw[frozen?_putRow];rfl) (bo:= .cells 4 (Za (Uh l)))
  (fun es el h => by
    cases h
    refine⟨C',T,rfl,fun i hi'=>?_,?_,fun i hi' j hj=>?_⟩
    · simp only[Ys,List.getElem_map,cl4]
    · rw[Zb, hsl]
      have:C'.size=C.size:=by simp[C']
      omega
    · rw[Zb, hsl]at hi'
      have ee:(Za (Uh l))[i]'(by rw[Zb,hsl];exact hi')=(gtT l (Xz l)[i]!).cells:=by
       simp only[Ys,List.getElem_map,Uh]
       congr 2
       rw[getElem!_pos _ _ (by omega)]
       simp
      rw[ee,cl4]at hj
      obtain⟨v,p,z1,z2,z3⟩:=hnew i hi' j hj
      refine⟨v,z1,.pure _ _ ?_⟩
      have e2:(Za (Uh l))[i][j]=p:=by
       have:((Za (Uh l))[i])[j]? = some p:=by rw[ee];exact z2
       rw[List.getElem?_eq_getElem]at this
       simpa using this
      rw[e2]
      exact z3)
  (fun es h => by cases h) (fun c1 T1 m1 h => by
    cases h
    have:=hi.rm id b C T _ ⟨_,hb,trivial⟩ hσ hheap
    have hq:C'.size=C.size:=by simp[C']
    omega) ⟨rfl,rfl,rfl,fun _=>Nat.le_add_right _ _⟩
 obtain⟨i1,i2⟩:=UV (w':=grow (putRowK enc 4 (Sort.ahead w n) b 0 (Xz l)) os) j1 (fun k hk=>by unfold grow;rw[Array.getElem?_append_left hk]) (by unfold grow;simp) ⟨rfl,rfl,rfl,fun _=>Nat.le_refl _⟩;exact⟨_,he,gh,.tup _ _ rfl (fun i hi=>absurd hi (by simp)),i1,j2.trans hi i2 (by simp)⟩
end
section
variable {E:Env} {P:Program}
end
section
variable {E:Env} {P:Program}
def bxK (bx:List Box) (L:List Box) (k:Nat):List Box:=match L with
 | []=>bx
 |_::_=>bx.set k .dead
theorem We (bx L:List Box) (k:Nat):(bxK bx L k).length=bx.length:=by cases L<;>simp[bxK]
theorem ZhI (h:k≠i):(bxK bx L k)[i]? = bx[i]? :=by
 cases L with
 |nil=>rfl
 |cons a r=>exact List.getElem?_set_ne h
def Gh.slot (g:Gh) (L:List Box) (k:Nat):Gh where
 S:=g.S
 σ:=fun i=>match L with
  | []=>none
  | _::_=>if i=0 then g.σ k else none
 τ:=fun _=>none
 κ:=fun _=>g.κ k
 mono:=g.mono
def Gh.unslot (g' g:Gh) (n j:Nat):Gh where
 S:=g'.S
 σ:=fun i=>if i=n then g'.σ j else g.σ i
 τ:=g.τ
 κ:=fun i=>if i=n then g'.κ j else g.κ i
 mono:=g.mono
theorem ZjL (hf:Yo el=some el) (hS:g2.S=g.S) (hi:i<el.length) (hj:j<(el[i]).length) (h:V g ((el[i])[j]) v):V g2 ((el[i])[j]) v:=by obtain⟨-,h2⟩:=QK hf;obtain⟨-,h4⟩:=ZaA (h2 i hi hi);have:=Ul h (h4 j hj hj);exact .pure _ _ (hS ▸ this)
def Zil (L:List Box) (H:Heap) (k:Nat):Prop:=L= []∨∃es el,L= [.cells es el]∧H.bx[k]? = some (.cells es el)∧Yo el=some el∧H.ro≤k
theorem Q7 (h:(⟨L,0,[],0⟩:Heap).liveAt i) {H:Heap} (hL:Zil L H k):i=0∧∃es el,L= [.cells es el]∧H.bx[k]? = some (.cells es el)∧H.ro≤k:=by obtain⟨b,hb, -⟩:=h;rcases hL with rfl|⟨es,el,rfl,h1, -,h2⟩;{simp at hb};{have:=Zz hb;exact⟨by simpa using this,es,el,rfl,h1,h2⟩}
theorem ZdC {b:Nat} (h:(g.slot L k).σ i=some b):i=0∧g.σ k=some b∧L≠ []:=by
 cases L with
 |nil=>cases h
 |cons a r=>simp only[Gh.slot]at h;split at h;{rename_i e;exact⟨e,h,by simp⟩};{cases h}
theorem CallOk.slot {f:FuncId} {args args0:List PV} {r r':PV} {H H1:Heap} {L:List Box} {k j:Nat} {B:Box} (h:CallOk E P f args0 ⟨L,0,[],0⟩ r H1) (hL:Zil L H k) (ha:∀(g g0:Gh) (l:List Value),g0.S=g.S→(L≠ []→g0.σ 0=g.σ k∧g0.κ 0=g.κ k)→VL g args l→VL g0 args0 l) (hB:B= .dead∨∃es el D,B= .cells es el∧H1.bx[j]? = some (.cells es (el++D))∧Yo el=some el) (hr:∀(g1 g2:Gh) (v:Value),g2.S=g1.S→(g2.σ H.bx.length=g1.σ j∧g2.κ H.bx.length=g1.κ j)→V g1 r v→V g2 r' v):CallOk E P f args H r' {H with bx:=bxK H.bx L k++ [B]}:=by
 intro g w vals hi hg hv;have s0:L≠ []→(g.slot L k).σ 0=g.σ k:=fun hne=>by
  cases L with
  | nil=>exact absurd rfl hne
  | cons a r=>rfl
 have hi0:Inv (g.slot L k) ⟨L,0,[],0⟩ w:={
  st:=hi.st
  bx:=fun id es el e=>by
   rcases hL with rfl|⟨es',el',rfl,h1,h2,h3⟩
   · simp at e
   · have hid : id = 0 := by have := Zz e; simpa using this
     subst hid
     simp only[List.getElem?_cons_zero,Option.some.injEq,Box.cells.injEq]at e
     obtain⟨rfl,rfl⟩:=e
     obtain⟨b,c,T,a1,a2,a3,a4,a5,a6⟩:=hi.bx _ _ _ h1
     exact⟨b,c,T,a1,a2,a3,a4,fun i hi0 j hj=>let ⟨v,x,y⟩:=a5 i hi0 j hj;⟨v,x,ZjL (g:=g) (g2:=g.slot _ k) h2 rfl hi0 hj y⟩,a6⟩
  mp:=fun id es e=>by
   rcases hL with rfl|⟨es',el',rfl,h1,h2,h3⟩
   · simp at e
   · have hid : id = 0 := by have := Zz e; simpa using this
     subst hid
     simp at e
  sp:=fun id T cs e=>by
   rcases hL with rfl|⟨es',el',rfl,h1,h2,h3⟩
   · simp at e
   · have hid : id = 0 := by have := Zz e; simpa using this
     subst hid
     simp at e
  inj:=fun i j b e1 e2 _ _=>by rw[(Q7 e1 hL).1,(Q7 e2 hL).1]
  sd:=fun id e=>by
   rcases hL with rfl|⟨es',el',rfl,h1,h2,h3⟩
   · rfl
   · have : id ≠ 0 := by simp at e; omega
     simp[Gh.slot,this]
  td:=fun _ _=>rfl
  tk:=fun t b lo hi' e=>by simp at e
  tinj:=fun t t' b lo hi' lo' hi2 e=>by simp at e
  nd:=List.nodup_nil
  lt:=fun t e=>by simp at e
  sz:=fun id b e=>hi.sz k b (ZdC e).2.1
  ro:=Nat.zero_le _
  rm:=fun id b c T m e1 e2 e3=>by
   obtain⟨-,es,el, -,hk, -⟩:=Q7 e1 hL
   exact hi.rm k b c T m ⟨_,hk,trivial⟩ (ZdC e2).2.1 e3}
 refine UponCall.mono (fun v w' ⟨g',hp,hi',K⟩=>?_) (h (g.slot L k) w vals hi0 hg (ha g _ _ rfl (fun hne=>⟨s0 hne,rfl⟩) hv));obtain⟨N,hN⟩:∃N,N=H.bx.length:=⟨_,rfl⟩;rw[← hN]at hr;have sh:∀b,(L≠ []→g.σ k≠some b)→Shut (g.slot L k) ⟨L,0,[],0⟩ b:=fun b hb=>⟨fun id _ hl he=>by
  obtain⟨_,e2,e3⟩:=ZdC he
  exact hb e3 e2,fun t lo hi2 ht=>by simp at ht⟩
 have kl:L≠ []→H.liveAt k∧H.ro≤k:=fun hne=>by rcases hL with rfl|⟨es',el',rfl,h1,h2,h3⟩;{exact absurd rfl hne};{exact⟨⟨_,h1,trivial⟩,h3⟩}
 have nk:∀{i b},H.liveAt i→(L≠ []→i≠k)→g.σ i=some b→L≠ []→g.σ k≠some b:=fun {i b} hl hik hs hne hk=>hik hne (hi.inj i k b hl (kl hne).1 hs hk);have liveI:∀i,i≠N→(⟨bxK H.bx L k++ [B],H.ro,H.live,H.nt⟩:Heap).liveAt i→H.liveAt i∧(L≠ []→i≠k):=fun i hiN hl=>by
  obtain⟨b,hb,hal⟩:=hl;have hlt:i<(bxK H.bx L k).length:=by have:=Zz hb;simp only[List.length_append,List.length_singleton,We]at this;rw[We];omega
  rw[List.getElem?_append_left hlt]at hb;by_cases hik:k=i
  ·subst hik;cases L with
   | nil=>exact⟨⟨b,hb,hal⟩,fun h=>absurd rfl h⟩
   | cons a r=>simp only[bxK]at hb hlt;rw[List.getElem?_set_self (by simpa using hlt)]at hb;cases hb;exact hal.elim
  {rw[ZhI hik]at hb;exact⟨⟨b,hb,hal⟩,fun _ e=>hik e.symm⟩}
 have σi:∀i,i≠N→(g'.unslot g N j).σ i=g.σ i:=fun i h=>by simp[Gh.unslot,h]
 have Ji:∀i,i≠N→(g'.unslot g N j).κ i=g.κ i:=fun i h=>by simp[Gh.unslot,h]
 have σN:(g'.unslot g N j).σ N=g'.σ j:=by simp[Gh.unslot]
 have JN:(g'.unslot g N j).κ N=g'.κ j:=by simp[Gh.unslot]
 have sN:g.σ N=none:=hi.sd N (by omega);have iN:∀{i b},g.σ i=some b→i≠N:=fun {i b} h e=>by rw[e,sN]at h;cases h
 have le2:g.Le (g'.unslot g N j):=⟨fun b o v h=>K.le.S b o v h,fun i b h=>by rw[σi i (iN h)];exact h,fun t x h=>h,fun i b h=>Ji i (iN h),rfl⟩;have le3:(g'.unslot g N j).S=g'.S:=rfl;have nw:∀b,g'.σ j=some b→w.heap.size≤b∨(L≠ []∧g.σ k=some b):=fun b hb=>by
  cases e:(g.slot L k).σ j with
  | some b0 =>
    obtain⟨e1,e2,e3⟩:=ZdC e
    have:=K.le.σ _ _ e
    rw[hb]at this
    cases this
    exact .inr ⟨e3,e2⟩
  | none =>
    rcases K.new j b e hb with h3|⟨id',_,h4,h5⟩
    · exact .inl h3
    · obtain⟨e1, e2, e3⟩ := ZdC h5
      exact .inr ⟨e3,e2⟩
 have apart:∀{i b},H.liveAt i→(L≠ []→i≠k)→g.σ i=some b→g'.σ j≠some b:=fun {i b} hl hik hs hj=>by rcases nw b hj with h1|⟨h1,h2⟩;{have:=hi.sz i b hs;omega};{exact nk hl hik hs h1 h2}
 have keepB:∀{i b},H.liveAt i→(L≠ []→i≠k)→g.σ i=some b→w'.heap[b]? = w.heap[b]? ∧∀o,g'.S b o=g.S b o:=fun {i b} hl hik hs=>
  ⟨K.heap b (hi.sz i b hs) (sh b (nk hl hik hs)),K.store b (hi.sz i b hs) (sh b (nk hl hik hs))⟩
 have getI:∀i x,i≠N→(bxK H.bx L k++ [B])[i]? = some x→x.alive→H.bx[i]? = some x∧H.liveAt i∧(L≠ []→i≠k):=fun i x hiN hx hal=>by
  obtain⟨h1,h2⟩:=liveI i hiN ⟨x,hx,hal⟩
  refine⟨?_,h1,h2⟩
  have hlt:i<(bxK H.bx L k).length:=by
   have:=Zz hx
   simp only[List.length_append,List.length_singleton,We]at this
   rw[We];omega
  rw[List.getElem?_append_left hlt]at hx
  cases L with
  | nil=>exact hx
  | cons a r =>
    rw[ZhI (fun e=>h2 (by simp) e.symm)]at hx
    exact hx
 have getN:(bxK H.bx L k++ [B])[N]? = some B:=by rw[List.getElem?_append_right (by rw[We];omega),We,hN];simp
 refine⟨g'.unslot g N j,hr g' _ v rfl ⟨σN,JN⟩ hp,⟨hi'.st,fun id es el e=>?_,fun id es e=>?_,fun id T cs e=>?_,fun a b x h1 h2 h3 h4=>?_,fun id e=>?_,hi.td,fun t b lo hi2 ht hτ=>?_,hi.tinj,hi.nd,hi.lt,fun id b e=>?_,?_,fun id b c T m h1 h2 h3=>?_⟩,⟨le2,fun b hb hs=>K.heap b hb (sh b fun hne=>hs.1 k (kl hne).2 (kl hne).1),fun b hb hs=>K.store b hb (sh b fun hne=>hs.1 k (kl hne).2 (kl hne).1),K.size,fun id b e1 e2=>?_,fun t b lo hi2 e1 e2=>?_,rfl,?_,fun id e=>?_,Nat.le_refl _,fun t e=> .inl e,fun id b e1 e2=>(liveI id (iN e1) e2).1,fun id e1 e2=>?_,K.so⟩⟩;{by_cases hid:id=N;{subst hid;rw[getN]at e;cases e;rcases hB with h0|⟨es',el',D,h0,h1,h2⟩;{cases h0};{cases h0;obtain⟨b,c,T,a1,a2,a3,a4,a5,a6⟩:=hi'.bx _ _ _ h1;have hm:=Nat.mul_le_mul_right es (show el.length≤(el++D).length by simp);refine⟨b,c,T,by rw[σN];exact a1,a2,fun i hi0=>?_,by omega,fun i hi0 q hq=>?_,a6⟩;{have:=a3 i (by rw[List.length_append];omega);rwa [List.getElem_append_left hi0]at this};{have:=a5 i (by rw[List.length_append];omega) q (by rw[List.getElem_append_left hi0];exact hq);simp only[List.getElem_append_left hi0]at this;obtain⟨v,x,y⟩:=this;exact⟨v,x,ZjL h2 le3 hi0 hq y⟩}}};{obtain⟨h1,h2,h3⟩:=getI id _ hid e trivial;obtain⟨b,c,T,a1,a2,a3,a4,a5,a6⟩:=hi.bx _ _ _ h1;obtain⟨q1,q2⟩:=keepB h2 h3 a1;exact⟨b,c,T,by rw[σi id hid];exact a1,by rw[q1];exact a2,a3,a4,fun i hi0 q hq=>let ⟨v,x,y⟩:=a5 i hi0 q hq;⟨v,x,y.mono le2⟩,fun o=>(q2 o).trans (a6 o)⟩}};{by_cases hid:id=N;{subst hid;rw[getN]at e;cases e;rcases hB with h0|⟨es',el',D,h0,h1,h2⟩<;>cases h0};{obtain⟨h1,h2,h3⟩:=getI id _ hid e trivial;obtain⟨b,c,T,a1,a2,a3,a4,a5⟩:=hi.mp _ _ h1;obtain⟨q1,q2⟩:=keepB h2 h3 a1;exact⟨b,c,T,by rw[σi id hid];exact a1,by rw[q1];exact a2,a3,fun i hi0=>let ⟨z,x,y,y'⟩:=a4 i hi0;⟨z,x,y.mono le2,y'.mono le2⟩,fun o=>(q2 o).trans (a5 o)⟩}};{by_cases hid:id=N;{subst hid;rw[getN]at e;cases e;rcases hB with h0|⟨es',el',D,h0,h1,h2⟩<;>cases h0};{obtain⟨h1,h2,h3⟩:=getI id _ hid e trivial;obtain⟨b,c,a1,a2,a3,a4,a5⟩:=hi.sp _ _ _ h1;obtain⟨q1,q2⟩:=keepB h2 h3 a1;exact⟨b,c,by rw[σi id hid];exact a1,by rw[q1];exact a2,a3,fun i hi0=>let ⟨z,x,y⟩:=a4 i hi0;⟨z,x,y.mono le2⟩,fun o=>(q2 o).trans (a5 o)⟩}};{by_cases ha0:a=N<;>by_cases hb0:b=N;{rw[ha0,hb0]};{rw[ha0,σN]at h3;rw[σi b hb0]at h4;obtain⟨p1,p2⟩:=liveI b hb0 h2;exact absurd h3 (apart p1 p2 h4)};{rw[hb0,σN]at h4;rw[σi a ha0]at h3;obtain⟨p1,p2⟩:=liveI a ha0 h1;exact absurd h4 (apart p1 p2 h3)};{rw[σi a ha0]at h3;rw[σi b hb0]at h4;exact hi.inj a b x (liveI a ha0 h1).1 (liveI b hb0 h2).1 h3 h4}}
 ·have e:N+1≤id:=by simpa[We,hN] using e
  rw[σi id (by omega)];exact hi.sd id (by omega)
 ·obtain⟨⟨c,T,a1,a2⟩,a3,a4⟩:=hi.tk t b lo hi2 ht hτ;have hb:b<w.heap.size:=by rcases Nat.lt_or_ge b w.heap.size with h'|h';{exact h'};{simp[Array.getElem?_eq_none h']at a1}
  have hsh:=sh b fun hne=>a4 k (kl hne).1;refine⟨⟨c,T,by rw[K.heap b hb hsh];exact a1,a2⟩,fun o ho=>(K.store b hb hsh o).trans (a3 o ho),fun id hl he=>?_⟩;by_cases hid:id=N;{rw[hid,σN]at he;rcases nw b he with h1|⟨h1,h2⟩;{omega};{exact a4 k (kl h1).1 h2}};{rw[σi id hid]at he;exact a4 id (liveI id hid hl).1 he}
 {by_cases hid:id=N;{rw[hid,σN]at e;exact hi'.sz j b e};{rw[σi id hid]at e;exact Nat.lt_of_lt_of_le (hi.sz id b e) K.size}};{have:=hi.ro;simp only[List.length_append,We,List.length_singleton];omega};{by_cases hid:id=N;{subst hid;obtain⟨x,hx,hal⟩:=h1;rw[getN]at hx;cases hx;rw[σN]at h2;rw[JN];rcases hB with rfl|⟨es',el',D,rfl,q1,q2⟩;{exact hal.elim};{exact hi'.rm j b c T m ⟨_,q1,trivial⟩ h2 h3}};{rw[σi id hid]at h2;rw[Ji id hid];obtain⟨p1,p2⟩:=liveI id hid h1;rw[(keepB p1 p2 h2).1]at h3;exact hi.rm id b c T m p1 h2 h3}};{by_cases hid:id=N;{rw[hid,σN]at e2;rcases nw b e2 with h1|⟨h1,h2⟩;{exact .inl h1};{exact .inr ⟨k,(kl h1).2,(kl h1).1,h2⟩}};{rw[σi id hid,e1]at e2;cases e2}};{rw[show(g'.unslot g N j).τ t=g.τ t from rfl,e1]at e2;cases e2};{simp only[List.length_append,We,List.length_singleton];omega}
 ·have hidl:id<H.bx.length:=Nat.lt_of_lt_of_le e hi.ro;show(bxK H.bx L k++ [B])[id]? = H.bx[id]?;rw[List.getElem?_append_left (by rw[We];exact hidl)];cases L with
  | nil=>rfl
  | cons a r=>exact ZhI (by have:=(kl (by simp)).2;have e:id<H.ro:=e;omega)
 ·have e1:id<N:=by rw[hN];exact e1
  rw[σi id (by omega)];exact e2
theorem QH {g0:Gh} {n:Nat} (h1:g0.σ k0=g.σ k) (h2:g0.κ k0=g.κ k) (h:V g (.own k es ix n) v):V g0 (.own k0 es ix n) v:=by
 cases h with
 |pure _ _ h=>cases h
 |own _ _ _ _ b cap a h hc ha hsp hk=>exact .own _ _ _ _ b cap a (h1.trans h) hc ha hsp ⟨by rw[h2];exact hk.1,hk.2⟩
theorem Vp {g0:Gh} (hS:g0.S=g.S) (hf:frzG p=some p) (h:V g p v):V g0 p v:= .pure _ _ (hS ▸ Zao h hf)
theorem ZfS {g0:Gh} (hS:g0.S=g.S) {l:List Value} (hf:ZH ax=some ax) (h:VL g ax l):VL g0 ax l:=by obtain⟨-,h2⟩:=X8 hf;exact⟨h.1,fun i h1 h3=>Vp hS (h2 i h1 h1) (h.2 i h1 h3)⟩
theorem ZjH {g0:Gh} (hS:g0.S=g.S) {n:Nat} (h1:g0.σ k0=g.σ k) (h2:g0.κ k0=g.κ k) {l:List Value} (hf:ZH ax=some ax) (h:VL g (.own k es ix n::ax) l):VL g0 (.own k0 es ix n::ax) l:=by
 obtain⟨hl,hv⟩:=h;obtain⟨-,h3⟩:=X8 hf;refine⟨hl,fun i a b=>?_⟩;cases i with
 |zero=>exact QH h1 h2 (hv 0 (by simp) b)
 |succ i=>
  have ha:i<ax.length:=by simpa using a
  have:=hv (i+1) (by simp;omega) b;simp only[List.getElem_cons_succ]at this ⊢;exact Vp hS (h3 i ha ha) this
theorem Zcq {g1:Gh} {cs':List PV} (hl:cs'.length=cs.length) (hm:∀i (hi:i<cs.length) (hi':i<cs'.length) v,V g1 cs[i] v→V g2 cs'[i] v) (h:V g1 (.tup cs) v):V g2 (.tup cs') v:=by obtain⟨vs,h1,rfl,hv⟩:=h.tup_inv;exact .tup _ _ (by omega) fun i hi=>hm i (by omega) hi _ (hv i (by omega))
theorem ZmR {g1:Gh} (hS:g2.S=g1.S) {n:Nat} (h:g2.σ N=g1.σ j∧g2.κ N=g1.κ j) (hq:frzG q=some q) (hv:V g1 (.tup [.own j es ix n,q]) v):V g2 (.tup [.own N es ix n,q]) v:=
 Zcq (cs:=[.own j es ix n,q]) (cs':=[.own N es ix n,q]) rfl (fun i hi hi' v x=>by
  match i,hi with
  | 0,_=>exact QH h.1 h.2 x
  | 1,_=>exact Vp hS hq x) hv
theorem Zht {g1:Gh} (hS:g2.S=g1.S) (hf:ZH cs=some cs) (hv:V g1 (.tup cs) v):V g2 (.tup cs) v:=by obtain⟨-,h2⟩:=X8 hf;exact Zcq rfl (fun i hi _ v x=>Vp hS (h2 i hi hi) x) hv
inductive Mut (es:Nat) (bx:List Box):PV→List (List PV)→Prop
 |nil:Mut es bx .nils []
 |own (k:Nat) (el:List (List PV)) (h:bx[k]? = some (.cells es el)):Mut es bx (.own k es 0 el.length) el
def Vh (v:PV) (bx:List Box):List Box:=match v with
 | .own k _ _ _=>bx.set k .dead
 |_=>bx
theorem Wx (v:PV) (bx:List Box):(Vh v bx).length=bx.length:=by unfold Vh;split;{simp};{rfl}
inductive Mut0 (es:Nat):PV→List Box→List (List PV)→Prop
 |nil:Mut0 es .nils [] []
 |own (el:List (List PV)):Mut0 es (.own 0 es 0 el.length) [.cells es el] el
inductive Out (es:Nat) (H1:Heap):PV→List (List PV)→Prop
 |nil:Out es H1 .nils []
 |own (j:Nat) (el D:List (List PV)) (h:H1.bx[j]? = some (.cells es (el++D))) (hf:Yo el=some el):Out es H1 (.own j es 0 el.length) el
theorem CallOk.mut {f:FuncId} {v:PV} {H:Heap} (hro:H.ro=0) (hv:Mut es H.bx v el) (hf:Yo el=some el) (has:ZH ax=some ax) (h:∀v0 L,Mut0 es v0 L el→∃r H1,CallOk E P f (v0::ax) ⟨L,0,[],0⟩ r H1∧Out es H1 r el'):∃v' B,CallOk E P f (v::ax) H v' {H with bx:=Vh v H.bx++ [B]}∧Mut es (Vh v H.bx++ [B]) v' el'∧(v'= .nils∨∃n,v'= .own H.bx.length es 0 n):=by
 have key : ∀L k, Zil L H k → bxK H.bx L k = Vh v H.bx → (∀v0 : PV, Mut0 es v0 L el → ∀(g g0 : Gh) (l : List Value), g0.S = g.S → (L ≠ [] → g0.σ 0 = g.σ k ∧ g0.κ 0 = g.κ k) → VL g (v :: ax) l → VL g0 (v0 :: ax) l) → (∃v0, Mut0 es v0 L el) →
   ∃v' B,CallOk E P f (v::ax) H v' {H with bx:=Vh v H.bx++ [B]}∧Mut es (Vh v H.bx++ [B]) v' el'∧(v'= .nils∨∃n,v'= .own H.bx.length es 0 n):=fun L k hL hb ha hm=>by
  obtain⟨v0,hm⟩:=hm
  obtain⟨r,H1,hc,ho⟩:=h v0 L hm
  cases ho with
  | nil =>
    have h1:=hc.slot (r':= .nils) (B:= .dead) (j:=0) hL (ha v0 hm) (.inl rfl) (fun g1 g2 v hS _ x=>Vp hS rfl x)
    rw[hb]at h1
    exact⟨.nils,.dead,h1,.nil,.inl rfl⟩
  | own j _ D hj hf2 =>
    have h1:=hc.slot (r':= .own H.bx.length es 0 el'.length) (B:= .cells es el') (j:=j) hL (ha v0 hm) (.inr ⟨es,el',D,rfl,hj,hf2⟩) (fun g1 g2 v hS hs x=>QH hs.1 hs.2 x)
    rw[hb]at h1
    refine⟨_,_,h1,.own H.bx.length el' ?_,.inr ⟨_,rfl⟩⟩
    rw[List.getElem?_append_right (by rw[Wx];exact Nat.le_refl _),Wx,Nat.sub_self]
    rfl
 cases hv with
 |nil=>exact key [] 0 (.inl rfl) rfl (fun v0 hm=>by cases hm;exact fun g g0 l hS _ x=>ZfS hS (by rw[ZH,has];rfl) x) ⟨_,.nil⟩
 |own k _ hk=>exact key [.cells es el] k (.inr ⟨es,el,rfl,hk,hf,by rw[hro];exact Nat.zero_le _⟩) rfl (fun v0 hm=>by cases hm;exact fun g g0 l hS hs x=>ZjH hS (hs (by simp)).1 (hs (by simp)).2 has x) ⟨_,.own el⟩
theorem CallOk.mutT (hq:frzG q=some q) {f:FuncId} {v:PV} {H:Heap} (hro:H.ro=0) (hv:Mut es H.bx v el) (hf:Yo el=some el) (has:ZH ax=some ax) (h:∀v0 L,Mut0 es v0 L el→∃r H1,CallOk E P f (v0::ax) ⟨L,0,[],0⟩ (.tup [r,q]) H1∧Out es H1 r el'):∃v' B,CallOk E P f (v::ax) H (.tup [v',q]) {H with bx:=Vh v H.bx++ [B]}∧Mut es (Vh v H.bx++ [B]) v' el'∧(v'= .nils∨∃n,v'= .own H.bx.length es 0 n):=by
 have key : ∀L k, Zil L H k → bxK H.bx L k = Vh v H.bx → (∀v0 : PV, Mut0 es v0 L el → ∀(g g0 : Gh) (l : List Value), g0.S = g.S → (L ≠ [] → g0.σ 0 = g.σ k ∧ g0.κ 0 = g.κ k) → VL g (v :: ax) l → VL g0 (v0 :: ax) l) → (∃v0, Mut0 es v0 L el) →
   ∃v' B,CallOk E P f (v::ax) H (.tup [v',q]) {H with bx:=Vh v H.bx++ [B]}∧Mut es (Vh v H.bx++ [B]) v' el'∧(v'= .nils∨∃n,v'= .own H.bx.length es 0 n):=fun L k hL hb ha hm=>by
  obtain⟨v0,hm⟩:=hm
  obtain⟨r,H1,hc,ho⟩:=h v0 L hm
  cases ho with
  | nil =>
    have h1:=hc.slot (r':= .tup [.nils,q]) (B:= .dead) (j:=0) hL (ha v0 hm) (.inl rfl) (fun g1 g2 v hS _ x=>Zht hS (by rw[ZH,ZH,hq];rfl) x)
    rw[hb]at h1
    exact⟨.nils,.dead,h1,.nil,.inl rfl⟩
  | own j _ D hj hf2 =>
    have h1:=hc.slot (r':= .tup [.own H.bx.length es 0 el'.length,q]) (B:= .cells es el') (j:=j) hL (ha v0 hm) (.inr ⟨es,el',D,rfl,hj,hf2⟩) (fun g1 g2 v hS hs x=>ZmR hS hs hq x)
    rw[hb]at h1
    refine⟨_,_,h1,.own H.bx.length el' ?_,.inr ⟨_,rfl⟩⟩
    rw[List.getElem?_append_right (by rw[Wx];exact Nat.le_refl _),Wx,Nat.sub_self]
    rfl
 cases hv with
 |nil=>exact key [] 0 (.inl rfl) rfl (fun v0 hm=>by cases hm;exact fun g g0 l hS _ x=>ZfS hS (by rw[ZH,has];rfl) x) ⟨_,.nil⟩
 |own k _ hk=>exact key [.cells es el] k (.inr ⟨es,el,rfl,hk,hf,by rw[hro];exact Nat.zero_le _⟩) rfl (fun v0 hm=>by cases hm;exact fun g g0 l hS hs x=>ZjH hS (hs (by simp)).1 (hs (by simp)).2 has x) ⟨_,.own el⟩
theorem CallOk.mutF (hcs:ZH cs=some cs) {f:FuncId} {v:PV} {H:Heap} (hro:H.ro=0) (hv:Mut es H.bx v el) (hf:Yo el=some el) (has:ZH ax=some ax) (h:∀v0 L,Mut0 es v0 L el→∃H1,CallOk E P f (v0::ax) ⟨L,0,[],0⟩ (.tup cs) H1):CallOk E P f (v::ax) H (.tup cs) {H with bx:=Vh v H.bx++ [.dead]}:=by
 have key : ∀L k, Zil L H k → bxK H.bx L k = Vh v H.bx → (∀v0 : PV, Mut0 es v0 L el → ∀(g g0 : Gh) (l : List Value), g0.S = g.S → (L ≠ [] → g0.σ 0 = g.σ k ∧ g0.κ 0 = g.κ k) → VL g (v :: ax) l → VL g0 (v0 :: ax) l) → (∃v0, Mut0 es v0 L el) →
   CallOk E P f (v::ax) H (.tup cs) {H with bx:=Vh v H.bx++ [.dead]}:=fun L k hL hb ha hm=>by
  obtain⟨v0,hm⟩:=hm
  obtain⟨H1,hc⟩:=h v0 L hm
  have h1:=hc.slot (r':= .tup cs) (B:= .dead) (j:=0) hL (ha v0 hm) (.inl rfl) (fun g1 g2 v hS _ x=>Zht hS hcs x)
  rw[hb]at h1
  exact h1
 cases hv with
 |nil=>exact key [] 0 (.inl rfl) rfl (fun v0 hm=>by cases hm;exact fun g g0 l hS _ x=>ZfS hS (by rw[ZH,has];rfl) x) ⟨_,.nil⟩
 |own k _ hk=>exact key [.cells es el] k (.inr ⟨es,el,rfl,hk,hf,by rw[hro];exact Nat.zero_le _⟩) rfl (fun v0 hm=>by cases hm;exact fun g g0 l hS hs x=>ZjH hS (hs (by simp)).1 (hs (by simp)).2 has x) ⟨_,.own el⟩
theorem ZrR {own : Tmp → Bool} {n : Nat} {K : TM → Heap → Prop} {tm : TM} {H : Heap} {aft : Array Edge} {t u : TypeId} {x y : Operand} {X Y : PV}
  (hw:Zf all tm ⟨some d,.call {callee:= .builtin .append,args:= #[x,y],argTypes:= #[t,u]},ty,pos,aft,grd⟩=some true) (hn:Nat.blt d n=true) (ho:own d=true) (hx:Zh E tm x=X) (hy:Zh E tm y=Y) (h:ZK E t u X Y H=some (p,H1))
  (hr:RegQ E P own n all r K (ZN tm (some d) p) H1):RegQ E P own n all (⟨some d,.call {callee:= .builtin .append,args:= #[x,y],argTypes:= #[t,u]},ty,pos,aft,grd⟩::r) K tm H:=
 .op (p:=p) hw (by simp only[X4,hn]) (by simp[aOp,Z9,ho,hx,hy,h]) hr
theorem Zvn {own : Tmp → Bool} {n : Nat} {K : TM → Heap → Prop} {tm : TM} {H : Heap} {t : TypeId} {aft : Array Edge}
  (hw:Zf all tm ⟨some d,.buildSlice t m ps,ty,pos,aft,grd⟩=some true) (hn:Nat.blt d n=true) (ho:own d=false) (h:Z1 E t m (ps.toList.map fun p=>(p.1,Zh E tm p.2))=some (es,el)) (hf:Yo el=some el')
  (hr:RegQ E P own n all r K (ZN tm (some d) (.sl .full es el')) H):RegQ E P own n all (⟨some d,.buildSlice t m ps,ty,pos,aft,grd⟩::r) K tm H:=
 .op (p:= .sl .full es el') hw (by simp only[X4,hn]) (by simp only[aOp,Option.getD_some,h,ho,Bool.false_eq_true,if_false,hf]) hr
theorem Zsz {own:Tmp→Bool} {n:Nat} {K:TM→Heap→Prop} {tm:TM} {ops:Array Oper} {t:TypeId} {aft:Array Edge} {ro nt:Nat} {lv:List Nat} (hw:Zf ops.toList tm ⟨some d,.buildSlice t m ps,ty,pos,aft,grd⟩=some true) (hn:Nat.blt d n=true) (ho:own d=true) (h:Z1 E t m (ps.toList.map fun p=>(p.1,Zh E tm p.2))=some (es,el)) (hr:DrwQ E P own n ops n0 (i+1) r K (ZN tm (some d) (.own bx.length es 0 m)) ⟨bx++ [.cells es el],ro,lv,nt⟩):DrwQ E P own n ops n0 i (⟨some d,.buildSlice t m ps,ty,pos,aft,grd⟩::r) K tm ⟨bx,ro,lv,nt⟩:=by
 have hc:Y2 E own ⟨some d,.buildSlice t m ps,ty,pos,aft,grd⟩= .tk:=by simp[Y2,ho]
 refine .stepN (p:= .own bx.length es 0 m) (H1:=⟨bx++ [.cells es el],ro,lv,nt⟩) (by simp only[X4,hn]) (.inr (.inr ⟨hc,fun j b hj=>by rw[List.getElem?_append_left (Zz hj)];exact hj⟩)) (fun ho'=>?_) hr;have hci:=(WR (E:=E) (own:=own) ho').trans hc;refine⟨by rw[hci];simp,.inr (.inl ⟨by rw[hci];exact⟨by simp,by simp,by simp⟩,?_⟩)⟩;have:=Hp.tk (E:=E) (P:=P) (own:=own) (ops:=ops) (n0:=n0) (cls:=Y7 E own ops) (tgt:=fun _=>n0) (msk:=fun _=>[]) (i:=i) (o:=⟨some d,.buildSlice t m ps,ty,pos,aft,grd⟩) (tm:=tm) ⟨bx,ro,lv,nt⟩ (.own bx.length es 0 m) ⟨bx++ [.cells es el],bx.length,lv,nt⟩ hw hci
  (.op _ _ (by simp only[aOp,Option.getD_some,h,ho,if_true];rfl)) (by simp)
 have e:VR ⟨bx,ro,lv,nt⟩ ⟨bx++ [.cells es el],bx.length,lv,nt⟩=⟨bx++ [.cells es el],ro,lv,nt⟩:=by simp[VR]
 rw[e]at this;exact this
end
section
variable {E:Env} {P:Program} {own:Tmp→Bool} {n:Nat} {K:TM→Heap→Prop} {tm:TM} {H:Heap}
theorem dCe {ops:Array Oper} {aft:Array Edge} {f:Operand} {args:Array Operand} {ats:Array TypeId} {k:FuncId} {caps al:List PV} (hw:Zf ops.toList tm ⟨some d,.call {callee:= .value f,args:=args,argTypes:=ats},ty,pos,aft,grd⟩=some true) (hn:Nat.blt d n=true) (hf:Zh E tm f= .fn k caps) (ha:args.toList.map (Zh E tm)++caps=al) (hc:Y2 E own ⟨some d,.call {callee:= .value f,args:=args,argTypes:=ats},ty,pos,aft,grd⟩= .ef) (h:CallOk E P k al H p H1) (hl:H.bx.length≤H1.bx.length) (hr:DrwQ E P own n ops n0 (i+1) r K (ZN tm (some d) p) H1):DrwQ E P own n ops n0 i (⟨some d,.call {callee:= .value f,args:=args,argTypes:=ats},ty,pos,aft,grd⟩::r) K tm H:=by
 refine .stepN (p:=p) (H1:=H1) (by simp only[X4,hn]) (.inr (.inl hc)) (fun ho'=>?_) hr;have hci:=(WR (E:=E) (own:=own) ho').trans hc;refine⟨by rw[hci];simp,.inr (.inl ⟨by rw[hci];exact⟨by simp,by simp,by simp⟩,?_⟩)⟩;have:=Hp.ef (E:=E) (P:=P) (own:=own) (ops:=ops) (n0:=n0) (cls:=Y7 E own ops) (tgt:=fun _=>n0) (msk:=fun _=>[]) (i:=i) (o:=⟨some d,.call {callee:= .value f,args:=args,argTypes:=ats},ty,pos,aft,grd⟩) (tm:=tm) H p H1 hw hci
  (.call _ _ _ _ _ _ _ rfl hf (by rw[ha];exact h)) hl
 exact this
end
