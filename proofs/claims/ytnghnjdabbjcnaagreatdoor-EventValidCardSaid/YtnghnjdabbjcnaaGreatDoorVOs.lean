/-
  Powers: what a product leads to (exponent.result), and products (exponent.Mul).
-/
import Derived.Test.YtnghnjdabbjcnaaGreatDoorVOp
set_option maxHeartbeats 0
set_option maxRecDepth 100000
namespace Go.Vm.Seat
variable {es:Nat} {bx:List Box} {v:PV} {el:List (List PV)} {l:List Pw}
open Go.Proofs
theorem ZkK (hf:Yo el=some el) (h:Mut es bx v el):∃b,frzC 0 ⟨bx,0,[],0⟩ v=some (slV b es el):=by
 cases h with
 |nil=>exact⟨true,by rw[Zi];rfl⟩
 |own k _ h=>refine⟨false,?_⟩;have hn:nth bx k=some (.cells es el):=(Zm _ _).trans h;simp only[frzC,Nat.not_lt_zero,if_false,hn];rw[if_pos ⟨trivial,by omega⟩,List.drop_zero,List.take_length,hf,Z6]
theorem Zqj {m:Nat} {H:Heap} {p:PV} (h:frzC m H v=some p) (hv:∀cs,v≠ .agg cs):frz2 m H v=some p:=by
 cases v;case agg cs=>exact absurd rfl (hv cs)
 all_goals exact h
theorem Zne (h:Mut es bx v el):∀cs,v≠ .agg cs:=fun cs e=>by
 subst e
 cases h
theorem ZiP (hf:Yo el=some el) (h:Mut es bx v el):∃b,∀e:Int,frz3 0 ⟨bx,0,[],0⟩ (.tup [v,.int .i64 e])=some (.tup [slV b es el,.int .i64 e]):=by obtain⟨b,hb⟩:=ZkK hf h;refine⟨b,fun e=>?_⟩;rw[Xu];simp only[Wu,Zqj hb (Zne h)];rfl
theorem W0 (h:Mut 5 bx v (pwL l)):(v= .nils∧l= [])∨∃k,v= .own k 5 0 l.length∧bx[k]? = some (.cells 5 (pwL l)):=by
 generalize e:pwL l=el at h;cases h with
 |nil=>exact .inl ⟨rfl,Zcs e⟩
 |own k _ hk=>subst e;exact .inr ⟨k,by rw[ZT],hk⟩
theorem Zqc {t:Tm} (ht:t.Ok) (hs:t.size≤100000):∃b,∀H,CO 207 [.agg t.cells] H (.tup [slV b 5 (pwL (ofG t).1),.int .i64 (ofG t).2]) H:=by
 have hV:=c65 ht (by omega);have hnil:slV true 5 (pwL [])= .nils:=Zi 5;unfold ofG;by_cases h1:t.valid≠0
 ·rw[if_pos h1];refine⟨true,?_⟩;rw[hnil];generalize t.valid=v at hV h1 ⊢;have hne:=Y0 h1;obtain⟨k,nm,s,f,kz⟩:=t;simp only[Tm.cells]at hV ⊢;refine Jw tOk fe207.ok rfl ?_;repeat' first|refine Jc (hV _) ?_|refine Ki ?_|fail
  all_goals rfl
 {rw[if_neg h1];have h1:=Classical.not_not.1 h1;have hsz:=YT h1;rw[h1]at hV;have hcol:=Ztw (bx:=[.cells 4 [t.cells]]) (Zus ht hsz) (l:=[]) (n:=1) (B:=0) trivial (PwB.nil 0) (by omega) (by omega) (by simp;omega) (.inl rfl) .nil;rcases hcol with⟨l',e,v',bx',hc,hM, -⟩|⟨e,bx',hc, -⟩;{rw[e];obtain⟨F,hF⟩:=ZiP (Y8 l') hM;clear e;dsimp only;obtain⟨n,hn⟩:∃n,n=l'.length:=⟨_,rfl⟩;have hgt:=Xq (n:Int) 200;have hmc:=W0 hM;rw[← hn]at hmc;by_cases h3:200<l'.length;{rw[if_pos h3];refine⟨true,?_⟩;rw[hnil];rw[decide_eq_true (by omega)]at hgt;clear hF;obtain⟨k,nm,s,f,kz⟩:=t;simp only[Tm.cells]at hV hc ⊢;refine Jw tOk fe207.ok rfl ?_;rcases hmc with⟨rfl,rfl⟩|⟨q,rfl, -⟩;{exfalso;simp at h3};(repeat' first|refine Jc (hV _) ?_|refine Jc hc ?_|refine Kg ?_|fail);all_goals rfl};{rw[if_neg h3];refine⟨F,?_⟩;rw[decide_eq_false (by omega)]at hgt;obtain⟨k,nm,s,f,kz⟩:=t;simp only[Tm.cells]at hV hc ⊢;refine Jw tOk fe207.ok (QV _ _ _ _ _) ?_;rcases hmc with⟨rfl,rfl⟩|⟨q,rfl, -⟩;{obtain rfl:n=0:=hn;(repeat' first|refine Jc (hV _) ?_|refine Jc hc ?_|refine Kg ?_|fail);all_goals exact hF 0};(repeat' first|refine Jc (hV _) ?_|refine Jc hc ?_|refine Kg ?_|fail);all_goals exact hF 0}};{rw[e];dsimp only;refine⟨true,?_⟩;rw[hnil];clear e;obtain⟨k,nm,s,f,kz⟩:=t;simp only[Tm.cells]at hV hc ⊢;refine Jw tOk fe207.ok rfl ?_;(repeat' first|refine Jc (hV _) ?_|refine Jc hc ?_|refine Ka ?_|fail);all_goals rfl}}
def zcP:List PV:=[.int .i64 0,.str [],.int .i64 0,.nils,.int .i64 0]
theorem ZhE (bx:List Box) (x:Pw):Heap.wr ⟨bx++ [.cells 5 [zcP]],0,[],0⟩ (.ptr bx.length 5 0 0) (pwC x)=some ⟨bx++ [.cells 5 [pwC x]],0,[],0⟩:=by have h:=U6 (H:=⟨bx++ [.cells 5 [zcP]],0,[],0⟩) (id:=bx.length) (es:=5) (ix:=0) (off:=0) (el:=[zcP]) (cs:=pwC x) (old:=zcP) (XJ _ _) rfl (by rw[Zeu];exact Nat.le_refl 5) (Nat.zero_le _);rw[h];obtain⟨⟨k',nm',s',b',kz'⟩,n⟩:=x;simp[pwC,Tm.cells,zcP]
theorem Zm2 (bx:List Box) (x:Pw):ZZ E0 227 (.ptr bx.length 5 0 0) ⟨bx++ [.cells 5 [pwC x]],0,[],0⟩=some (.agg (pwC x)):=by obtain⟨⟨k',nm',s',b',kz'⟩,n⟩:=x;exact WT rfl rfl (el:=[pwC (Tm.mk k' nm' s' b' kz',n)]) (XJ _ _) rfl rfl
theorem Zlp (bx:List Box) (x:Pw):ZZ E0 39 (.ptr bx.length 5 0 0) ⟨bx++ [.cells 5 [pwC x]],0,[],0⟩=some (.agg x.1.cells):=by obtain⟨ti,ht,hk,hs⟩:∃ti,E0.T 39=some ti∧XL ti.tk=true∧ti.size=4:=⟨_,rfl,rfl,rfl⟩;obtain⟨⟨k',nm',s',b',kz'⟩,n⟩:=x;simp only[ZZ,ht,hk,if_true];rw[ZnD (XJ _ _) (cs:=pwC (Tm.mk k' nm' s' b' kz',n)) rfl (by rw[Zeu];omega)];simp only[Qe,hk,if_true,hs];rfl
theorem ZkN (bx:List Box) (x:Pw):ZZ E0 3 (.ptr bx.length 5 0 4) ⟨bx++ [.cells 5 [pwC x]],0,[],0⟩=some (.int .i64 x.2):=
 Zfd (ti:=⟨.int .i64,1,8,.int .i64 0⟩) rfl rfl (el:=[pwC x]) (XJ _ _) rfl (by
  obtain⟨⟨k,nm,s,b,kz⟩,m⟩:=x
  rfl)
theorem Zqe (y:Pw) (hv:Mut 5 bx v (pwL l)) (hl:l.length≤1000000):∃bx',ZK E0 207 207 v (.sl .full 5 [pwC y]) ⟨bx,0,[],0⟩=some (.own bx.length 5 0 (l.length+1),⟨bx',0,[],0⟩)∧Mut 5 bx' (.own bx.length 5 0 (l.length+1)) (pwL (l++ [y]))∧bx'.length=bx.length+1:=by have hok:(pwL [y]).all (fun c=>c.all ZL)=true:=ZaB [y];rcases W0 hv with⟨rfl,rfl⟩|⟨k,rfl,hk⟩;{have he:=ZW (s:= .nils) apT_pw (ElV.sl .full 5 (pwL [y])) hok rfl rfl ⟨bx,0,[],0⟩;refine⟨bx++ [.cells 5 (pwL [y])],?_,?_,by simp⟩;{have he:XK E0 207 207 .nils (.sl .full 5 [pwC y]) ⟨bx,0,[],0⟩=some (5,64,[pwC y]):=he;simp only[ZK,he,YD];rw[if_pos (ZR (by simp) (by decide))];rfl};{exact .own bx.length (pwL [y]) (by simp)}};{have hnth:nth bx k=some (.cells 5 (pwL l)):=(Zm _ _).trans hk;have hs:=Zfx (H:=⟨bx,0,[],0⟩) (id:=k) (M:=l) hnth;have he:XK E0 207 207 (.own k 5 0 l.length) (.sl .full 5 [pwC y]) ⟨bx,0,[],0⟩=some (5,64,[pwC y]):=ZW (s:= .own k 5 0 l.length) apT_pw (ElV.sl .full 5 (pwL [y])) hok rfl rfl ⟨bx,0,[],0⟩;refine⟨bx.set k .dead++ [.cells 5 (pwL (l++ [y]))],?_,?_,by simp⟩;{simp only[ZK,he,YD,WH,hs];rw[if_pos ⟨trivial,Nat.zero_le _,ZT l,ZR (by rw[ZT];simp;omega) (by decide)⟩,Ze2,ZT];rfl};{have:=Mut.own (es:=5) (bx:=bx.set k .dead++ [.cells 5 (pwL (l++ [y]))]) bx.length (pwL (l++ [y])) (by rw[List.getElem?_append_right (by simp)];simp);rwa [ZT,List.length_append]at this}}
theorem Zud (hl:∀x,x∈l→x.1.Ok∧x.1.size≤100000) (hlen:l.length≤1000) (b:Bool):∃v bx,CO 243 [slV b 5 (pwL l)] hNil v ⟨bx,0,[],0⟩∧Mut 5 bx v (pwL l):=by
 have hpl:=ZT l;have key:∃r H1,CO 243 [slV b 5 (pwL l)] hNil r H1∧∃bx,H1=⟨bx,0,[],0⟩∧Mut 5 bx r (pwL l):=by
  refine Zt (own:=fun d=>Nat.beq d 20) tOk fe243.ok ?_;refine Wp.seq ?_;repeat' first|refine KN ?_|fail
  refine Wp.while (fun m tm H => ∃(i : Nat) (base : TM) (v : PV) (bx : List Box), i + m = l.length ∧ Mut 5 bx v (pwL (l.take i)) ∧
    tm=ovr base [(3,v),(6,slV b 5 (pwL l)),(7,.int .i64 (l.length:Int)),(8,.int .i64 (i:Int))]∧H=⟨bx,0,[],0⟩)
   (fun m tm H hI=>?_) l.length _ _ ⟨0,_,_,_,by omega,.nil,Ze ⟨rfl,rfl,Zg (by rw[hpl]),rfl,trivial⟩,rfl⟩
  obtain⟨i,base,v,bx,hi,hM,rfl,rfl⟩:=hI;by_cases hlt:i<l.length;{obtain⟨x,hx⟩:∃x,l[i]? = some x:=⟨l[i],by simp⟩;have hxs:=hl x (List.mem_of_getElem? hx);have hc:=Zsw hxs.1 hxs.2;have hlx:=Zu (i:Int) (l.length:Int);rw[decide_eq_true (by omega)]at hlx;have hal:∀ρ,aOp E0 false ρ (.alloc 227) ⟨bx,0,[],0⟩=some (.ptr bx.length 5 0 0,⟨bx++ [.cells 5 [zcP]],0,[],0⟩):=fun ρ=>rfl;have hwr:=ZhE bx x;have hld:=Zlp bx x;have hldn:=ZkN bx x;obtain⟨bx',hap,hM',hbl⟩:=Zqe x (QM (ext:=[.cells 5 [pwC x]]) hM) (by rw[List.length_take];omega);(have hle:(bx++ [Box.cells 5 [pwC x]]).length≤bx'.length:=by omega);(have etk:l.take (i+1)=l.take i++ [x]:=by rw[List.take_add_one,hx];rfl);rw[← etk]at hM';rw[List.length_take,Nat.min_eq_left (by omega)]at hap hM';(have hbt:Nat.blt bx.length (bx++ [Box.cells 5 [pwC x]]).length=true:=by simp[Nat.blt]);have hbd:=ZdD x.1 x.2;have hj:=Xb hx;obtain⟨⟨k',nm',s',b',kz'⟩,xn⟩:=x;simp only[pwC,Tm.cells,List.cons_append,List.nil_append]at hc hld hldn hwr hbd hj hap hle hbt;clear hM;(repeat' first|refine KC ?_|refine Kf ?_|refine Kt ?_|refine Jd (hc _) ?_|refine JB ?_|(apply ZqH;rfl;rfl;rfl;rfl;rfl;rfl;assumption;assumption)|refine KL ?_|(apply dLd;rfl;rfl;rfl;assumption;exact IsV.any _;(first|rfl|(show Nat.blt _ _=true;first|assumption|(simp[Nat.blt];done))))|refine Kb ?_|fail);exact LoopI.go (m-1) (by omega) ⟨i+1,_,_,_,by omega,hM',Ze ⟨rfl,rfl,rfl,Zg (Zd (n:=i+1) (by omega)),trivial⟩,rfl⟩};{(have e:i=l.length:=by omega);subst e;rw[List.take_length]at hM;have hlx:=Zu (l.length:Int) (l.length:Int);rw[decide_eq_false (by omega)]at hlx;(repeat' first|refine Ki ?_|fail);exact RetR.ret rfl ⟨bx,rfl,hM⟩}
 obtain⟨r,H1,h1,bx,rfl,h2⟩:=key;exact⟨r,bx,h1,h2⟩
end Go.Vm.Seat
namespace Go.Vm
variable {l:List Pw} {i:Nat} {x:Pw}
theorem ZiF (h:l[i]? = some x):(l.drop i).any (fun x=>Ye x.2 1000)=(Ye x.2 1000||(l.drop (i+1)).any (fun x=>Ye x.2 1000)):=by rw[Zw h];rfl
theorem ZiB:∀(p:Option Tm) (l:List Pw),pvL p l=0→∀x,x∈l→ -1000≤x.2∧x.2≤1000
 |p,[],h=>fun x hx=>absurd hx (by simp)
 |p,x::r,h=>by simp only[pvL]at h;split at h;{rename_i h1;exact absurd h h1};split at h;{exact absurd h (by decide)};split at h;{exact absurd h (by decide)};rename_i h3;split at h;{exact absurd h (by decide)};intro y hy;rcases List.mem_cons.1 hy with rfl|hy;{simp only[Ye,Bool.or_eq_true,decide_eq_true_eq]at h3;omega};{exact ZiB _ r h y hy}
theorem Zcp (h:pvG l=0):∀x,x∈l→ -1000≤x.2∧x.2≤1000:=by unfold pvG at h;split at h;{exact absurd h (by decide)};exact ZiB none l h
theorem Zfy:∀(b:List Pw) {l:List Pw},VS l→(∀x,x∈b→x.2≠0)→VS (insF l b)
 | [],_,h,_=>h
 |x::r,l,h,hb=>Zfy r (l:=WV l x.1 x.2) (QO h (hb x List.mem_cons_self)) fun y hy=>hb y (List.mem_cons_of_mem _ hy)
theorem ZjJ {b:List Pw} (a:List Pw) (h:b[i]? = some x):insF a (b.take (i+1))=WV (insF a (b.take i)) x.1 x.2:=XS (f:=fun l (x:Pw)=>WV l x.1 x.2) h
end Go.Vm
namespace Go.Vm.Seat
variable {a b l:List Pw} {v:PV} {bx:List Box}
open Go.Proofs
theorem ZvJ (x:Pw):∀H,CO 257 [.agg (pwC x)] H (.bool (Ye x.2 1000)) H:=by
 have hL:=Zu x.2 (-1000);have hG:=Xq x.2 1000;unfold Ye;generalize decide (x.2< -1000)=bL at hL ⊢;generalize decide ((1000:Int)<x.2)=bG at hG ⊢;obtain⟨⟨k,nm,s,b,kz⟩,n⟩:=x;simp only[pwC,Tm.cells,List.cons_append,List.nil_append];refine Jw tOk fe257.ok rfl ?_;cases bL<;>cases bG;all_goals
  repeat' first|refine Jk ?_|refine Kg ?_|fail
  all_goals rfl
theorem ixP (hlen:l.length≤1000000) (hM:Mut 5 bx v (pwL l)):∃r:Int,CO 262 [v,.fn 257 []] ⟨bx,0,[],0⟩ (.int .i64 r) ⟨bx,0,[],0⟩∧decide (0≤r)=l.any (fun x=>Ye x.2 1000):=by
 have key:∃r H1,CO 262 [v,.fn 257 []] ⟨bx,0,[],0⟩ r H1∧∃z:Int,r= .int .i64 z∧H1=⟨bx,0,[],0⟩∧decide (0≤z)=l.any (fun x=>Ye x.2 1000):=by
  obtain⟨A,hA⟩:∃A,A=l.any (fun x=>Ye x.2 1000):=⟨_,rfl⟩;rw[← hA];refine Zt (own:=fun _=>false) tOk fe262.ok ?_;refine Wp.seq ?_;rcases W0 hM with⟨rfl,rfl⟩|⟨k,rfl,hk⟩;{clear hM;(repeat' first|refine Jo ?_|fail);refine Wp.loop ?_;(repeat' first|refine KI ?_|fail);refine LoopQ.exit ?_;(repeat' first|refine Jo ?_|fail);exact RetR.ret rfl ⟨_,rfl,rfl,by rw[hA];rfl⟩}
  ·have hnth : nth bx k = some (.cells 5 (pwL l)) := (Zm _ _).trans hk;clear hM;(repeat' first|refine Jo ?_|fail);refine Wp.while (fun m tm H => ∃(i : Nat) (base : TM), i + m = l.length ∧ (l.drop i).any (fun x => Ye x.2 1000) = A ∧
     tm=ovr base [(0,.own k 5 0 l.length),(1,.fn 257 []),(7,.int .i64 (l.length:Int)),(8,.int .i64 (i:Int))]∧H=⟨bx,0,[],0⟩)
    (fun m tm H hI=>?_) l.length _ _ ⟨0,_,by omega,by rw[List.drop_zero,hA],Ze ⟨rfl,rfl,rfl,rfl,trivial⟩,rfl⟩
   obtain⟨i,base,hi,hgo,rfl,rfl⟩:=hI;clear hA;by_cases hlt:i<l.length;{obtain⟨x,hx⟩:∃x,l[i]? = some x:=⟨l[i],by simp⟩;have hlx:=Zu (i:Int) (l.length:Int);rw[decide_eq_true (by omega)]at hlx;have hia:=ZkL (id:=k) (ix:=0) hlt;rw[Nat.zero_add]at hia;have hld:=ZnY (H:=⟨bx,0,[],0⟩) hnth hx;have hc:=ZvJ x;have hd:=ZiF hx;rw[hd]at hgo;generalize Ye x.2 1000=o at hc hgo;clear hd;obtain⟨⟨k',nm',s',b',kz'⟩,xn⟩:=x;simp only[pwC,Tm.cells,List.cons_append,List.nil_append]at hc hld;cases o;{rw[Bool.false_or]at hgo;(repeat' first|refine Jc (hc _) ?_|refine KG ?_|refine Kf ?_|refine Jo ?_|fail);exact LoopI.go (m-1) (by omega) ⟨i+1,_,by omega,hgo,Ze ⟨rfl,rfl,rfl,Zg (Zd (n:=i+1) (by omega)),trivial⟩,rfl⟩};{rw[Bool.true_or]at hgo;(repeat' first|refine Jc (hc _) ?_|refine KG ?_|refine Kf ?_|refine Jo ?_|fail);exact RetR.ret rfl ⟨_,rfl,rfl,by rw[← hgo];exact decide_eq_true (by omega)⟩}};{(have e:i=l.length:=by omega);subst e;rw[List.drop_length]at hgo;have hlx:=Zu (l.length:Int) (l.length:Int);rw[decide_eq_false (by omega)]at hlx;(repeat' first|refine Ki ?_|fail);exact RetR.ret rfl ⟨_,rfl,rfl,by rw[← hgo];rfl⟩}
 obtain⟨r,H1,h1,z,rfl,rfl,h2⟩:=key;exact⟨z,h1,h2⟩
theorem ZvG (hlen:l.length≤1000000) (hM:Mut 5 bx v (pwL l)):CO 256 [v,.fn 257 []] ⟨bx,0,[],0⟩ (.bool (l.any (fun x=>Ye x.2 1000))) ⟨bx,0,[],0⟩:=by
 obtain⟨r,hc,e⟩:=ixP hlen hM;have hge:=XY r 0;rw[e]at hge;generalize l.any (fun x=>Ye x.2 1000)=A at hge ⊢;clear e;cases A;all_goals
  refine ZU (own:=fun _=>false) tOk fe256.ok ?_
  refine Wp.seq ?_
  repeat' first|refine Jc hc ?_|refine Kg ?_|fail
  all_goals exact RetE.ret rfl rfl rfl
theorem Zvd (hlen:l.length≤1000000) (hM:Mut 5 bx v (pwL l)):∃v',CO 244 [v] ⟨bx,0,[],0⟩ (.tup [v',.int .i64 (ZgA l).2]) ⟨bx,0,[],0⟩∧Mut 5 bx v' (pwL (ZgA l).1):=by
 have hc:=ZvG hlen hM;have hgt:=Xq (l.length:Int) 200;unfold ZgA;generalize l.any (fun x=>Ye x.2 1000)=A at hc ⊢;cases A
 ·rw[if_neg (by decide)];by_cases h:200<l.length;{rw[if_pos h];rw[decide_eq_true (by omega)]at hgt;refine⟨.nils,?_,.nil⟩;rcases W0 hM with⟨rfl,rfl⟩|⟨k,rfl,hk⟩;{simp at h};refine ZU (own:=fun _=>false) tOk fe244.ok ?_;refine Wp.seq ?_;(repeat' first|refine Jc hc ?_|refine Ki ?_|fail);all_goals exact RetE.ret rfl rfl rfl}
  ·rw[if_neg h];rw[decide_eq_false (by omega)]at hgt;refine⟨v,?_,hM⟩;refine ZU (own:=fun _=>false) tOk fe244.ok ?_;refine Wp.seq ?_;rcases W0 hM with⟨rfl,rfl⟩|⟨k,rfl,hk⟩;all_goals
    repeat' first|refine Jc hc ?_|refine Ki ?_|fail
    all_goals exact RetE.ret rfl rfl rfl
 ·rw[if_pos rfl];refine⟨.nils,?_,.nil⟩;refine ZU (own:=fun _=>false) tOk fe244.ok ?_;refine Wp.seq ?_;repeat' first|refine Jc hc ?_|refine Jo ?_|fail
  all_goals exact RetE.ret rfl rfl rfl
theorem ZmA {ba bb:Bool} {e:Int} (he:e≠0) (h:(∀H,CO 223 [slV ba 5 (pwL a)] H (.int .i64 e) H)∨((∀H,CO 223 [slV ba 5 (pwL a)] H (.int .i64 0) H)∧∀H,CO 223 [slV bb 5 (pwL b)] H (.int .i64 e) H)):∃f,∀H,CO 227 [slV ba 5 (pwL a),slV bb 5 (pwL b)] H (.tup [slV f 5 (pwL []),.int .i64 e]) H:=by
 have hnil:slV true 5 (pwL [])= .nils:=Zi 5;refine⟨true,?_⟩;rw[hnil];have hne:=Y0 he;refine Jw tOk fe227.ok rfl ?_;rcases h with hVa|⟨hVa,hVb⟩
 ·have hVb:=hVa;repeat' first|refine Jc (hVa _) ?_|refine Ki ?_|fail
  all_goals rfl
 repeat' first|refine Jc (hVa _) ?_|refine Jc (hVb _) ?_|refine Kg ?_|fail
 all_goals rfl
theorem Zuc (ha:∀x,x∈a→x.1.Ok∧x.1.size≤100000) (hb':∀x,x∈b→x.1.Ok∧x.1.size≤100000) (hla:a.length≤100000) (hlb:b.length≤100000) (ba bb:Bool):∃f,∀H,CO 227 [slV ba 5 (pwL a),slV bb 5 (pwL b)] H (.tup [slV f 5 (pwL (Ui a b).1),.int .i64 (Ui a b).2]) H:=by
 have hVa:=ZsB ha (by omega) ba;have hVb:=ZsB hb' (by omega) bb;unfold Ui ZlF;by_cases hP1:pvG a≠0;{rw[if_pos hP1];exact ZmA hP1 (.inl hVa)};rw[if_neg hP1];have hP1:=Classical.not_not.1 hP1;rw[hP1]at hVa;by_cases hP2:pvG b≠0;{rw[if_pos hP2];exact ZmA hP2 (.inr ⟨hVa,hVb⟩)};rw[if_neg hP2];have hP2:=Classical.not_not.1 hP2;rw[hP2]at hVb;have hb200:=Ue hP2;have ha200:=Ue hP1;have hpl:=ZT b;obtain⟨aA, -⟩:=Qb hP1;obtain⟨-,bN⟩:=Qb hP2;have hPa:PwB 1000 a:=fun x hx=>⟨ha x hx,by have:=Zcp hP1 x hx;omega,by have:=Zcp hP1 x hx;omega⟩;have hPb:PwB 1000 b:=fun x hx=>⟨hb' x hx,by have:=Zcp hP2 x hx;omega,by have:=Zcp hP2 x hx;omega⟩;have hfacts:∀i,i≤b.length→VS (insF a (b.take i))∧PwB (1000+i*1000) (insF a (b.take i))∧(insF a (b.take i)).length≤a.length+i:=fun i hi=>by obtain⟨q1,q2⟩:=Zin (B:=1000) (by decide) (b.take i) (l:=a) (C:=1000) (by decide) hPa fun x hx=>hPb x (List.mem_of_mem_take hx);rw[List.length_take,Nat.min_eq_left hi]at q1 q2;exact⟨Zfy _ aA fun x hx=>bN x (List.mem_of_mem_take hx),q1,q2⟩
 obtain⟨v0,bx0,hcp,hM0⟩:=Zud ha (by omega) ba;obtain⟨-, -,hfl⟩:=hfacts b.length (Nat.le_refl _);rw[List.take_length]at hfl;have key:∃r H1,CO 227 [slV ba 5 (pwL a),slV bb 5 (pwL b)] hNil r H1∧∃v' bx,r= .tup [v',.int .i64 (ZgA (insF a b)).2]∧H1=⟨bx,0,[],0⟩∧Mut 5 bx v' (pwL (ZgA (insF a b)).1):=by
  refine Zt (own:=fun _=>false) tOk fe227.ok ?_;refine Wp.seq ?_;repeat' first|(apply qCl;rfl;rfl;rfl;rfl;first|exact hVa _|exact hVb _|exact hcp)|refine KJ ?_|fail
  refine Wp.while (fun m tm H => ∃(i : Nat) (base : TM) (v : PV) (bx : List Box), i + m = b.length ∧ Mut 5 bx v (pwL (insF a (b.take i))) ∧
    tm=ovr base [(8,v),(23,slV bb 5 (pwL b)),(24,.int .i64 (b.length:Int)),(25,.int .i64 (i:Int))]∧H=⟨bx,0,[],0⟩)
   (fun m tm H hI=>?_) b.length _ _ ⟨0,_,_,_,by omega,hM0,Ze ⟨rfl,rfl,Zg (by rw[hpl]),rfl,trivial⟩,rfl⟩
  clear hM0 hcp hVa hVb;obtain⟨i,base,v,bx,hi,hM,rfl,rfl⟩:=hI;by_cases hlt:i<b.length;{obtain⟨x,hx⟩:∃x,b[i]? = some x:=⟨b[i],by simp⟩;have hxs:=hPb x (List.mem_of_getElem? hx);obtain⟨fA,fP,fL⟩:=hfacts i (by omega);have hlx:=Zu (i:Int) (b.length:Int);rw[decide_eq_true (by omega)]at hlx;have hal:∀ρ,aOp E0 false ρ (.alloc 227) ⟨bx,0,[],0⟩=some (.ptr bx.length 5 0 0,⟨bx++ [.cells 5 [zcP]],0,[],0⟩):=fun ρ=>rfl;have hwr:=ZhE bx x;have hld:=Zm2 bx x;obtain⟨v',B',hc,hM', -⟩:=Zjc (H:=⟨bx++ [.cells 5 [pwC x]],0,[],0⟩) (n:=x.2) fA (fP.mono (by omega)) hxs.1 (by omega) (by omega) rfl (QM (ext:=[.cells 5 [pwC x]]) hM);rw[← ZjJ a hx]at hM';have hj:=Xb hx;obtain⟨⟨k',nm',s',b',kz'⟩,xn⟩:=x;simp only[pwC,Tm.cells,List.cons_append,List.nil_append]at hc hld hwr hj;clear hM fA fP fL;(repeat' first|refine Jc hc ?_|refine KC ?_|refine Kf ?_|refine Kt ?_|fail);exact LoopI.go (m-1) (by omega) ⟨i+1,_,_,_,by omega,hM',Ze ⟨rfl,rfl,rfl,Zg (Zd (n:=i+1) (by omega)),trivial⟩,rfl⟩};{(have e:i=b.length:=by omega);subst e;rw[List.take_length]at hM;have hlx:=Zu (b.length:Int) (b.length:Int);rw[decide_eq_false (by omega)]at hlx;obtain⟨v',hR,hMR⟩:=Zvd (by omega) hM;(repeat' first|refine Jc hR ?_|refine Ki ?_|fail);exact RetR.ret rfl ⟨_,_,rfl,rfl,hMR⟩}
 obtain⟨r,H1,h1,v',bx,rfl,rfl,h2⟩:=key;obtain⟨F,hF⟩:=ZiP (Y8 _) h2;exact⟨F,fun H=>Xs h1 (by simp only[ZH,Xx]) (hF _) H⟩
