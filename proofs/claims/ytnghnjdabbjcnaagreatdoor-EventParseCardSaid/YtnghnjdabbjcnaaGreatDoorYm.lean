/-
  A trace is read: the second text.
-/
import Derived.Test.YtnghnjdabbjcnaaGreatDoorYk
set_option maxHeartbeats 0
set_option maxRecDepth 100000
namespace Go.Vm
def XN (s:Z3):Option Mo:=match spl [32,124,32] s with
 | []=>none
 | h :: ts => match spl [32] h with
   | []=>none
   | w :: ws => if kdP w 7 = 0 then none else match QT (kdP w 7) ws with
     | none=>none
     | some (a, b, d) => if((ws.drop (ZgL (kdP w 7))).all Z5) = false then none else match QO ts with
       | none=>none
       | some l=>if Vy (.mk (kdP w 7) a b true (ws.drop (ZgL (kdP w 7))) d true l)=true then some (.mk (kdP w 7) a b true (ws.drop (ZgL (kdP w 7))) d true l) else none
end Go.Vm
namespace Go.Vm.Seat
variable {a b d k:Int} {ags:List Z3} {te:List Tm} {o o5:PV} {lv lv':List Nat} {nt nt':Nat} {s:Z3}
open Go.Proofs
theorem ZrZ:Ui E0 100 60 ⟨60,[],.sl .none 1 [[.str []],[.str [115,116,97,114,116]],[.str [114,101,99,101,105,118,101]],[.str [115,101,110,100]],[.str [98,101,103,105,110]],[.str [99,108,97,105,109]],[.str [114,101,118,101,97,108]],[.str [116,105,109,101,111,117,116]]]⟩=true:=by kernel_rfl
theorem Zrk:∀H,CO 60 [] H (.sl .none 1 [[.str []],[.str [115,116,97,114,116]],[.str [114,101,99,101,105,118,101]],[.str [115,101,110,100]],[.str [98,101,103,105,110]],[.str [99,108,97,105,109]],[.str [114,101,118,101,97,108]],[.str [116,105,109,101,111,117,116]]]) H:=XD tOk follows fOk zOk ZrZ
theorem We {l:List Z3} (h:l≠ []) (b:Bool):slV b 1 (Zp l)= .sl .none 1 (Zp l):=by
 cases l with
 |nil=>exact absurd rfl h
 |cons x r=>exact Zr _ _ _ _
theorem Ye (h:ApV true 1 (Zp ags) o lv nt) (h5:ApV true 4 (Za te) o5 lv' nt') (m:Nat) (H:Heap) (ok:Bool):frz3 m H (.tup [.agg [.int .i64 k,.int .i64 a,.int .i64 b,o,.int .i64 d,o5],.bool ok])=some (.tup [.agg (Mo.mk k a b true ags d true te).cells,.bool ok]):=by
 have h2:frz2 m H (.agg [.int .i64 k,.int .i64 a,.int .i64 b,o,.int .i64 d,o5])=some (.agg (Mo.mk k a b true ags d true te).cells):=by show(match XO m H [.int .i64 k,.int .i64 a,.int .i64 b,o,.int .i64 d,o5] with|some cs'=>some (PV.agg cs')|none=>none)=_;simp only[XO,h.frzC,h5.frzC];rfl
 rw[Y2];simp only[X4,h2];rfl
theorem ZkV (h:ApV true 1 (Zp ags) o lv nt) (h5:ApV true 4 (Za te) o5 lv' nt'):ZG [.agg [.int .i64 k,.int .i64 a,.int .i64 b,o,.int .i64 d,o5]]=some [.agg (Mo.mk k a b true ags d true te).cells]:=by
 have h2:frzG (.agg [.int .i64 k,.int .i64 a,.int .i64 b,o,.int .i64 d,o5])=some (.agg (Mo.mk k a b true ags d true te).cells):=by show(match Wm [.int .i64 k,.int .i64 a,.int .i64 b,o,.int .i64 d,o5] with|some cs'=>some (PV.agg cs')|none=>none)=_;simp only[Wm,h.frz1,h5.frz1];rfl
 simp only[ZG,h2]
theorem ZdH {L:List (List PV)} {i:Nat} {cs:List PV} (h:L[i]? = some cs):Zz E0 29 (.sl .none 1 L) (.int .i64 (i:Int))=some (.fptr cs 0):=by
 have en:nat? (.int .i64 (i:Int))=some i:=by simp[nat?]
 simp only[Zz,e29,e9p,en,if_true,Zj,h]
theorem Zc6:ApV true 1 (Zp []) .nils [] 0:= .nil _ _ rfl
theorem Zc1:ApV true 4 (Za []) .nils [] 0:= .nil _ _ rfl
def Zur (R:Option Mo) (r:PV) (H:Heap):Prop:=∃(x:Mo) (ok:Bool),R=(if ok=true then some x else none)∧frz3 0 H r=some (.tup [.agg x.cells,.bool ok])
theorem ZpI (hs:s.length≤100000):∃r H1,CO 28 [.str s] hNil r H1∧Zur (XN s) r H1:=by
 have c1:=c27 (S:=s) (sep:=[32,124,32]) hs (by decide) (by decide);rw[We (Va _ _)]at c1;have hL1:=fun x=>Qm (sep:=[32,124,32]) (s:=s) (x:=x);have hLn:=UB (sep:=[32,124,32]) (by decide) s;generalize hR:XN s=R;unfold XN at hR;cases hL:spl [32,124,32] s with
 |nil=>exact absurd hL (Va _ _)
 |cons h ts=>
 rw[hL]at c1 hR hL1 hLn;simp only at hR;have hhl:h.length≤s.length:=hL1 h List.mem_cons_self;have c2:=c27 (S:=h) (sep:=[32]) (by omega) (by decide) (by decide);rw[We (Va _ _)]at c2;have hW1:=fun x=>Qm (sep:=[32]) (s:=h) (x:=x);have hWn:=UB (sep:=[32]) (by decide) h;cases hW:spl [32] h with
 |nil=>exact absurd hW (Va _ _)
 |cons w ws=>
 rw[hW]at c2 hR hW1 hWn;simp only at hR;clear hL hW;have cw:=Zrk;refine Zw (own:=fun _=>false) tOk fe28.ok ?_;refine Wp.seq ?_;repeat' first|refine Jc (c1 _) ?_|refine Jc (c2 _) ?_|refine Ka ?_|fail
 refine Wp.while (fun m tm H=>∃(i:Nat) (base:TM),1≤i∧i+m=8∧tm=ovr base [(2,.ptr 0 6 0 0),(4,.sl .none 1 (Zp (h::ts))),(5,.sl .none 1 (Zp (w::ws))),(6,.ptr 1 6 0 0),(7,.int .i64 (i:Int))]∧H=⟨[.cells 6 [UI 0 0 0 0],.cells 6 [UI (kdP w (i-1)) 0 0 0]],0,[],0⟩)
  (fun m tm H hI=>?_) 7 _ _ ⟨1,_,by omega,rfl,Zd ⟨rfl,rfl,rfl,rfl,rfl,trivial⟩,rfl⟩
 obtain⟨i,base,hi1,him,rfl,rfl⟩:=hI;by_cases hi8:i=8
 ·subst hi8;have hm0:m=0:=by omega
  subst hm0;have hK:=Zek w 7;rw[show kdP w (8-1)=kdP w 7 from rfl];generalize kdP w 7=K at hR hK;have k0:=Z0 K 0;have hsl:Z1 E0 29 (.sl .none 1 (Zp (w::ws))) (some (.int .i64 1)) none none=some (.sl .none 1 (Zp ws)):=ZcO (k:=1) (by rw[Zu];simp);by_cases hK0:K=0;{rw[decide_eq_true hK0]at k0;rw[if_pos hK0]at hR;clear c1 c2 cw hL1 hLn hW1 hWn;(repeat' first|refine Kd ?_|fail);exact RetR.ret rfl ⟨⟨K,0,0,true,[],0,true,[]⟩,false,hR.symm,Ye Zc6 Zc1 _ _ _⟩};rw[decide_eq_false hK0]at k0;rw[if_neg hK0]at hR;have hN:=ZtL (k:=K) (by omega) (by omega) ws (fun x hx=>by have:=hW1 x (List.mem_cons_of_mem _ hx);omega);unfold Zbg at hN;cases hF:QT K ws with
  | none=>rw[hF]at hN hR;simp only at hN hR;obtain⟨a,b,d,cn⟩:=hN;clear c1 c2 cw hL1 hLn hW1 hWn hF;(repeat' first|refine Kd ?_|refine Jd (cn _) ?_|refine Ke ?_|(apply dF (ty:=4);rfl;rfl;rfl;rfl)|refine Kg ?_|fail);exact RetR.ret rfl ⟨⟨K,a,b,true,[],d,true,[]⟩,false,hR.symm,Ye Zc6 Zc1 _ _ _⟩
  | some y=>
  obtain⟨a,b,d⟩:=y;rw[hF]at hN hR;simp only at hN hR;have hagl:(ws.drop (ZgL K)).length≤100001:=by rw[List.length_drop];rw[List.length_cons]at hWn;omega
  have hagx:∀x,x∈ws.drop (ZgL K)→x.length≤100000:=fun x hx=>by have:=hW1 x (List.mem_cons_of_mem _ (List.mem_of_mem_drop hx));omega
  have htsl:ts.length≤100001:=by rw[List.length_cons]at hLn;omega
  have htsx:∀x,x∈ts→x.length≤100000:=fun x hx=>by have:=hL1 x (List.mem_cons_of_mem _ hx);omega
  generalize ws.drop (ZgL K)=ags at hN hR hagl hagx;clear c1 c2 cw hL1 hLn hW1 hWn hF;repeat' first|refine Kd ?_|refine Jd (hN _) ?_|refine Ke ?_|refine Ks ?_|refine Kg ?_|fail
  clear hN;refine Wp.while (fun m tm H => ∃(i : Nat) (base : TM) (o : PV) (lv : List Nat) (nt : Nat), i + m = ags.length ∧ ags.all Z5 = (ags.drop i).all Z5 ∧ ApV true 1 (Zp (ags.take i)) o lv nt ∧
    tm=ovr base [(2,.ptr 0 6 0 0),(4,.sl .none 1 (Zp (h::ts))),(6,.ptr 1 6 0 0),(8,.sl .none 1 (Zp ags)),(10,.int .i64 (i:Int))]∧H=⟨[.cells 6 [UI 0 0 0 0],.cells 6 [[.int .i64 K,.int .i64 a,.int .i64 b,o,.int .i64 d,.nils]]],0,lv,nt⟩)
   (fun m tm H hI=>?_) ags.length _ _ ⟨0,_,.nils,[],0,by omega,rfl,.nil _ _ rfl,Zd ⟨rfl,rfl,rfl,rfl,rfl,trivial⟩,rfl⟩
  obtain⟨i,base,o,lv,nt,him,hall,hO,rfl,rfl⟩:=hI;have hlx:=Zv (i:Int) ((Zp ags).length:Int);obtain⟨qo1,qo2⟩:=WR hO;have hqc:[PV.int .i64 K,.int .i64 a,.int .i64 b,o,.int .i64 d,.nils].all ZP=true:=by simp only[List.all_cons,List.all_nil,Bool.and_true]at qo2 ⊢;rw[qo2];rfl
  by_cases hlt:i<ags.length
  ·rw[decide_eq_true (by rw[Zu];omega)]at hlx;obtain⟨x,hx⟩:∃x,ags[i]? = some x:=⟨ags[i],by simp⟩;have hj:=ZdH (YU hx);have cI:=c62 x (by have:=hagx x (List.mem_of_getElem? hx);have:maxLen=9223372036854775807:=rfl;omega);have hii:=Wa (a:=(i:Int)) (b:=1) (by omega) (by omega);rw[show(i:Int)+1=((i+1:Nat):Int) by omega]at hii;rw[VC hx,List.all_cons]at hall;cases hnm:Z5 x with
   | false=>rw[hnm,Bool.false_and]at hall;rw[hnm]at cI;rw[if_pos hall]at hR;(repeat' first|refine Jc (cI _) ?_|refine Ko ?_|refine Ka ?_|fail);exact RetR.ret rfl ⟨⟨K,a,b,true,_,d,true,[]⟩,false,hR.symm,Ye hO Zc1 _ _ _⟩
   | true=>rw[hnm,Bool.true_and]at hall;rw[hnm]at cI;obtain⟨o2,lv2,nt2,hap,hO2⟩:=ZsT hO x (by rw[List.length_take];omega);rw[show ags.take i++ [x]=ags.take (i+1) by rw[List.take_add_one,hx];rfl]at hO2;obtain⟨qp1,qp2⟩:=WR hO2;(repeat' first|refine Jc (cI _) ?_|refine Ko ?_|refine Ka ?_|refine JB ?_|(apply dAp;rfl;rfl;rfl;rfl;rfl;(first|assumption|solve_by_elim);rfl)|refine JK ?_|(apply dSt;rfl;rfl;rfl;assumption;exact IsL.n;rfl;assumption;(first|rfl|assumption);exact IsH.mkN;(first|rfl|(simp[Zj];done));rfl;rfl)|refine Kg ?_|fail);exact LoopI.go (m-1) (by omega) ⟨i+1,_,o2,lv2,nt2,by omega,hall,hO2,Zd ⟨rfl,rfl,rfl,rfl,rfl,trivial⟩,rfl⟩
  ·rw[decide_eq_false (by rw[Zu]; omega)]at hlx;(have e:i=ags.length:=by omega);subst e;rw[List.take_length]at hO;rw[List.drop_length,List.all_nil]at hall;rw[hall,if_neg (by decide)]at hR;clear hall hagx hagl;(repeat' first|refine Kk ?_|fail);refine Wp.while (fun m tm H => ∃(i : Nat) (tl : List Tm) (base : TM) (o5 : PV) (lv5 : List Nat) (nt5 : Nat), i + m = ts.length ∧ tl.length = i ∧ (QO ts = match QO (ts.drop i) with | some r => some (tl ++ r) | none => none) ∧
     ApV true 4 (Za tl) o5 lv5 nt5∧ApV true 1 (Zp ags) o lv5 nt5∧(Yc o=none∨Yc o≠Yc o5)∧
     tm=ovr base [(2,.ptr 0 6 0 0),(4,.sl .none 1 (Zp (h::ts))),(6,.ptr 1 6 0 0),(11,.int .i64 ((i+1:Nat):Int))]∧H=⟨[.cells 6 [UI 0 0 0 0],.cells 6 [[.int .i64 K,.int .i64 a,.int .i64 b,o,.int .i64 d,o5]]],0,lv5,nt5⟩)
    (fun m tm H hI=>Wp.drop ?_) ts.length _ _ ⟨0,[],_,.nils,lv,nt,by omega,rfl,by rw[List.drop_zero];cases QO ts<;>rfl,.nil _ _ rfl,hO,Zgo rfl,Zd ⟨rfl,rfl,rfl,rfl,trivial⟩,rfl⟩
   clear hO qo1 qo2 hqc;obtain⟨i,tl,base,o5,lv5,nt5,him,htl,htr,hO5,hO,hne,rfl,rfl⟩:=hI;have hlx:=Zv ((i+1:Nat):Int) ((Zp (h::ts)).length:Int);obtain⟨qo1,qo2⟩:=WR hO;obtain⟨qo3,qo4⟩:=WR hO5;(have hqc:[PV.int .i64 K,.int .i64 a,.int .i64 b,o,.int .i64 d,o5].all ZP=true:=by simp only[List.all_cons,List.all_nil,Bool.and_true]at qo2 qo4 ⊢;rw[qo2,qo4];rfl);have hfz:=fun (m:Nat) (H:Heap) (ok:Bool)=>Ye (k:=K) (a:=a) (b:=b) (d:=d) hO hO5 m H ok;by_cases hlt:i<ts.length
   ·rw[decide_eq_true (by rw[Zu,List.length_cons];omega)]at hlx;obtain⟨x,hx⟩:∃x,ts[i]? = some x:=⟨ts[i],by simp⟩;have hj:=ZdH (YU (l:=h::ts) (i:=i+1) (x:=x) hx);have hii:=Wa (a:=((i+1:Nat):Int)) (b:=1) (by omega) (by omega);rw[show((i+1:Nat):Int)+1=((i+1+1:Nat):Int) by omega]at hii;have cP:=c63 (S:=x) (by have:=htsx x (List.mem_of_getElem? hx);omega);have n1:=Up (XH 800 x).2 0;rw[VC hx]at htr;by_cases h0:(XH 800 x).2=0
    ·rw[ZcG h0]at htr;rw[decide_eq_true h0]at n1;rw[h0]at cP n1;generalize (XH 800 x).1=t at cP htr;have htr2:QO ts=match QO (ts.drop (i+1)) with|some r=>some ((tl++ [t])++r)|none=>none:=by
      rw[htr]
      cases QO (ts.drop (i+1)) with
      | none=>rfl
      | some r=>simp
     clear htr hfz;obtain⟨xk,xn,xs,xb,xl⟩:=t;simp only[Tm.cells]at cP;obtain⟨o4,lv4,nt4,hap,hO4,hK4⟩:=hO5.app YD (.sl .full 4 [[.int .i64 xk,.str xn,.int .i64 xs,slV xb 4 (Za xl)]]) (Zs [.mk xk xn xs xb xl]) (ZQ (by rw[Zb];simp;omega) (by decide)) rfl;rw[show Za tl++ [[.int .i64 xk,.str xn,.int .i64 xs,slV xb 4 (Za xl)]]=Za (tl++ [.mk xk xn xs xb xl]) by rw[Zt];rfl]at hO4;obtain⟨hO2,hne2⟩:=hK4 _ _ _ _ hO hne;obtain⟨qp1,qp2⟩:=WR hO4;have hun:=hO4.under;have hun2:=hO2.under;clear hO5 hO hne hK4;(repeat' first|refine Jc (cP _) ?_|refine Kv ?_|refine Ko ?_|refine Jo ?_|(apply qSt;rfl;rfl;assumption;exact IsL.n;rfl;assumption;(first|rfl|assumption);exact IsH.mkN)|fail);refine DropQ.go [(2,.ptr 0 6 0 0),(4,.sl .none 1 (Zp (h::ts))),(6,.ptr 1 6 0 0),(11,.int .i64 ((i+1+1:Nat):Int))] ⟨rfl,rfl,rfl,rfl,trivial⟩ (by simp[under]) rfl ?_ ?_;{simp[Ys,ZC,under,hun,hun2]};{exact LoopI.go (m-1) (by omega) ⟨i+1,tl++ [.mk xk xn xs xb xl],_,o4,lv4,nt4,by omega,by simp[htl],htr2,hO4,hO2,hne2,rfl,rfl⟩}
    {rw[ZeC h0]at htr;rw[decide_eq_false h0]at n1;rw[htr]at hR;generalize (XH 800 x).2=e at cP n1;generalize (XH 800 x).1=t at cP;obtain⟨xk,xn,xs,xb,xl⟩:=t;simp only[Tm.cells]at cP;(repeat' first|refine Jc (cP _) ?_|refine Ko ?_|refine Ka ?_|fail);exact RetR.ret rfl ⟨⟨K,a,b,true,ags,d,true,tl⟩,false,hR.symm,hfz _ _ _⟩}
   {(have e:i=ts.length:=by omega);subst e;rw[decide_eq_false (by rw[Zu,List.length_cons];omega)]at hlx;rw[List.drop_length]at htr;(have htr:QO ts=some tl:=by rw[htr];simp[QO]);rw[htr]at hR;simp only at hR;have kS:=fun H=>ZX (c64 ⟨K,a,b,true,ags,d,true,tl⟩ H) (ZkV (k:=K) (a:=a) (b:=b) (d:=d) hO hO5);rw[Zb4]at kS;generalize hB:Vy ⟨K,a,b,true,ags,d,true,tl⟩=B at kS hR;(repeat' first|refine Kk ?_|refine Jd (kS _) ?_|refine Kg ?_|fail);exact RetR.ret rfl ⟨⟨K,a,b,true,ags,d,true,tl⟩,B,hR.symm,hfz 0 _ B⟩}
 ·obtain⟨n,rfl⟩:∃n,i=n+1:=⟨i-1,by omega⟩;have he:=Zmh w (nmsL.getD (n+1) []);obtain⟨j,hj⟩:∃j,j=n+2:=⟨_,rfl⟩;have hk:kdP w (j-1)=if w=nmsL.getD (n+1) [] then((n+1:Nat):Int) else kdP w n:=by rw[show j-1=n+1 by omega];rfl
  by_cases hb:w=nmsL.getD (n+1) []
  ·rw[decide_eq_true hb]at he;rw[if_pos hb]at hk;clear hb c1 c2 hR hL1 hLn hW1 hWn;rcases(show n=0∨n=1∨n=2∨n=3∨n=4∨n=5∨n=6 by omega) with rfl|rfl|rfl|rfl|rfl|rfl|rfl;all_goals
    simp only[nmsL,List.getD_cons_succ,List.getD_cons_zero]at he
    repeat' first|refine Ka ?_|refine Jd (cw _) ?_|refine JD ?_|refine Kg ?_|fail
    exact LoopI.go (m-1) (by omega) ⟨j,_,by omega,by omega,Zd ⟨rfl,rfl,rfl,rfl,by subst hj;rfl,trivial⟩,by rw[hk]⟩
  ·rw[decide_eq_false hb]at he;rw[if_neg hb]at hk;clear hb c1 c2 hR hL1 hLn hW1 hWn;rcases(show n=0∨n=1∨n=2∨n=3∨n=4∨n=5∨n=6 by omega) with rfl|rfl|rfl|rfl|rfl|rfl|rfl;all_goals
    simp only[nmsL,List.getD_cons_succ,List.getD_cons_zero]at he
    repeat' first|refine Ka ?_|refine Jd (cw _) ?_|refine JD ?_|refine Kg ?_|fail
    exact LoopI.go (m-1) (by omega) ⟨j,_,by omega,by omega,Zd ⟨rfl,rfl,rfl,rfl,by subst hj;rfl,trivial⟩,by rw[hk]⟩
theorem c28 (hs:s.length≤100000):∃(x:Mo) (ok:Bool),XN s=(if ok=true then some x else none)∧∀H,CO 28 [.str s] H (.tup [.agg x.cells,.bool ok]) H:=by obtain⟨r,H1,k,x,ok,h,hf⟩:=ZpI hs;exact⟨x,ok,h,fun H=>Xn k rfl hf H⟩
end Go.Vm.Seat
namespace Go.Vm
variable {rd:Z3→Option Mo} {f:List Mo→Int×Int} {s x:Z3} {r:List Z3} {m:Mo} {n:Nat}
def Zi4 (f:List Mo→Int×Int) (acc:List Mo):List Mo×Int×Int:=if(f acc).2≠0 then([],(f acc).1+1,(f acc).2) else(acc,0,0)
def VO (rd:Z3→Option Mo) (f:List Mo→Int×Int):List Z3→Nat→List Mo→List Mo×Int×Int
 | [],_,acc=>Zi4 f acc
 | x :: r, n, acc => if r = [] then(if x = [] then Zi4 f acc else([], (n : Int) + 1, 2)) else match rd x with
   | none=>([],(n:Int)+1,2)
   | some m=>VO rd f r (n+1) (acc++ [m])
theorem UM (rd:Z3→Option Mo) (f:List Mo→Int×Int) (x:Z3) (n:Nat) (acc:List Mo):VO rd f [x] n acc=if x= [] then Zi4 f acc else([],(n:Int)+1,2):=by rw[VO,if_pos rfl]
theorem Ze1 (hr:r≠ []) (h:rd x=none) (n:Nat) (acc:List Mo):VO rd f (x::r) n acc=([],(n:Int)+1,2):=by rw[VO,if_neg hr,h]
theorem ZcH (hr:r≠ []) (h:rd x=some m) (n:Nat) (acc:List Mo):VO rd f (x::r) n acc=VO rd f r (n+1) (acc++ [m]):=by rw[VO,if_neg hr,h]
theorem Zis:∀{l:List Z3} {ts:List Tm},(∀x,x∈l→x.length≤2000)→QO l=some ts→ts.length=l.length∧∀t,t∈ts→t.Ok∧t.size≤90000
 | [],ts,_,h=>by simp[QO]at h;subst h;simp
 | x :: r, ts, hx, h => by
   by_cases h0:(XH 800 x).2=0
   · rw[ZcG h0]at h
     cases hr:QO r with
     | none=>rw[hr]at h;cases h
     | some l =>
       rw[hr]at h
       cases h
       obtain⟨e1,e2⟩:=Zis (fun y hy=>hx y (List.mem_cons_of_mem _ hy)) hr
       have hxl:=hx x List.mem_cons_self
       have ht:(XH 800 x).1.Ok∧(XH 800 x).1.size≤90000:=by
        cases hd:rdF 800 x with
        | none=>rw[ZaX hd]at h0;cases h0
        | some y =>
          obtain⟨t,s⟩:=y
          cases s with
          | cons c s=>rw[Vl hd]at h0;cases h0
          | nil =>
            have hq:=UJ _ _ _ _ (by omega) hd
            have:=hq.len
            by_cases hv:t.valid=0
            · rw[UR hd hv]
              exact⟨hq.ok,by show t.size≤90000;omega⟩
            · rw[Qh hd hv]at h0
              exact absurd h0 hv
       refine⟨by simp[e1],fun t hm=>?_⟩
       rcases List.mem_cons.1 hm with rfl|hm
       · exact ht
       · exact e2 t hm
   · rw[ZeC h0]at h;cases h
theorem Zd7 (h:n≤999999):(Lit.int .i64 (n:Int)).wf=true:=by have h1:IntKind.i64.min= -9223372036854775808:=rfl;have h2:IntKind.i64.max=9223372036854775807:=rfl;show(decide (IntKind.i64.min≤(n:Int))&&decide ((n:Int)≤IntKind.i64.max))=true;rw[h1,h2,Bool.and_eq_true,decide_eq_true_eq,decide_eq_true_eq];omega
theorem Qk (h:Vy m=true):m.agents.length≤4∧m.terms.length≤12:=by
 rw[← Zb4]at h;unfold Zqv at h;repeat' split at h
 all_goals first
  | (simp only[Bool.and_eq_true,decide_eq_true_eq]at h;omega)
  | cases h
theorem Zcg (h:VE s=some n):n≤999999:=by rw[ZjC]at h;split at h;{cases h;exact Zn3 s};{cases h}
theorem Zmq {k:Int} {ws:List Z3} {a b d:Int} (h:QT k ws=some (a,b,d)):(Lit.int .i64 a).wf=true∧(Lit.int .i64 b).wf=true∧(Lit.int .i64 d).wf=true:=by have w0:(Lit.int .i64 0).wf=true:=Zd7 (n:=0) (by omega);unfold QT at h;split at h;{cases h;exact⟨w0,w0,w0⟩};{split at h;{split at h;{split at h;{rename_i h1;split at h;{rename_i h2;have e1:=Zd7 (Zcg h1);have e2:=Zd7 (Zcg h2);split at h;{cases h;exact⟨e1,e2,w0⟩};{cases h;exact⟨e1,w0,e2⟩}};{cases h}};{cases h}};{cases h}};{split at h;{split at h;{rename_i h1;cases h;exact⟨Zd7 (Zcg h1),w0,w0⟩};{cases h}};{cases h}}}
theorem ZcX (hs:s.length≤2000) (h:XN s=some m):m.Sm:=by unfold XN at h;have hL1:=fun x=>Qm (sep:=[32,124,32]) (s:=s) (x:=x);have hLn:=UB (sep:=[32,124,32]) (by decide) s;split at h;{cases h};{rename_i q ts hL;rw[hL]at hL1 hLn;have hq:=hL1 q List.mem_cons_self;have hW1:=fun x=>Qm (sep:=[32]) (s:=q) (x:=x);have hWn:=UB (sep:=[32]) (by decide) q;split at h;{cases h};{rename_i w ws hW;rw[hW]at hW1 hWn;have hK:=Zek w 7;rw[List.length_cons]at hLn hWn;split at h;{cases h};{split at h;{cases h};{rename_i a b d hN;obtain⟨y1,y2,y3⟩:=Zmq hN;split at h;{cases h};{split at h;{cases h};{rename_i l hT;obtain⟨e1,e2⟩:=Zis (fun x hx=>by have:=hL1 x (List.mem_cons_of_mem _ hx);omega) hT;have hML:maxLen=9223372036854775807:=rfl;have hdl:=List.length_drop (l:=ws) (i:=ZgL (kdP w 7));(have hkw:(Lit.int .i64 (kdP w 7)).wf=true:=by obtain⟨n,hn⟩:∃n:Nat,kdP w 7=n:=⟨(kdP w 7).toNat,by omega⟩;rw[hn];exact Zd7 (by omega));split at h;{rename_i hF;have hfew:=Qk hF;simp only at hfew;cases h;refine⟨⟨hkw,y1,y2,y3,?_,fun x hx=>?_,?_,fun t ht=>(e2 t ht).1⟩,?_,?_,e2⟩;{show(ws.drop (ZgL (kdP w 7))).length≤maxLen;omega};{have:=hW1 x (List.mem_cons_of_mem _ (List.mem_of_mem_drop hx));omega};{show l.length≤maxLen;omega};{show(ws.drop (ZgL (kdP w 7))).length≤1000;omega};{show l.length≤1000;omega}};{cases h}}}}}}}
theorem Zjm:XN []=none:=by rfl
theorem Zdo (h:XN x=some m):1≤x.length:=by
 cases x with
 |nil=>rw[Zjm]at h;cases h
 |cons c r=>simp
theorem Zmx:∀(l p:List Mo), -1≤(Zg4 p l).1∧(Zg4 p l).1≤p.length+l.length
 | [],p=>by simp[Zg4]
 |m::r,p=>by have ih:=Zmx r (p++ [m]);rw[List.length_append,List.length_singleton]at ih;rw[List.length_cons];simp only[Zg4];split;{simp only;omega};{split;{simp only;omega};{omega}}
theorem Zk9 (l:List Mo): -1≤(YF l).1∧(YF l).1≤400:=by unfold YF;split;{exact⟨by simp,by simp⟩};{have:=Zmx l [];rw[List.length_nil]at this;omega}
end Go.Vm
namespace Go.Vm.Seat
open Go.Proofs
theorem ZfY {L:List (List PV)} {es:Nat} {o:PV} {lv:List Nat} {nt:Nat} (h:ApV true es L o lv nt) (a b:Int) (m:Nat) (H:Heap):frz3 m H (.tup [o,.int .i64 a,.int .i64 b])=some (.tup [slV true es L,.int .i64 a,.int .i64 b]):=by rw[Y2];simp only[X4,h.frz2];rfl
theorem ZgB (L:List (List PV)) (es:Nat) (a b:Int) (m:Nat) (H:Heap):frz3 m H (.tup [slV true es L,.int .i64 a,.int .i64 b])=some (.tup [slV true es L,.int .i64 a,.int .i64 b]):=by have h:=Zf8 m H true es L;rw[Y2];simp only[X4,h];rfl
theorem c14 {S:Z3} (hS:S.length≤2000):∀H,CO 14 [.str S] H (.tup [slV true 6 (moC (VO XN YF (spl [10] S) 0 []).1),.int .i64 (VO XN YF (spl [10] S) 0 []).2.1,.int .i64 (VO XN YF (spl [10] S) 0 []).2.2]) H:=by
 have c1:=c27 (S:=S) (sep:=[10]) (by omega) (by decide) (by decide);rw[We (Va _ _)]at c1;have hL1:=fun x=>Qm (sep:=[10]) (s:=S) (x:=x);have hLn:=UB (sep:=[10]) (by decide) S;have hL0:=Va [10] S;have hLs:=Zox [10] S;obtain⟨res,hres⟩:∃res,res=PV.tup [slV true 6 (moC (VO XN YF (spl [10] S) 0 []).1),.int .i64 (VO XN YF (spl [10] S) 0 []).2.1,.int .i64 (VO XN YF (spl [10] S) 0 []).2.2]:=⟨_,rfl⟩;rw[← hres];have hfr:frz3 0 hNil res=some res:=by rw[hres];exact ZgB _ _ _ _ _ _
 generalize spl [10] S=L at c1 hL1 hLn hL0 hLs hres;have hLp:=List.length_pos_iff.2 hL0;refine Jw tOk fe14.ok hfr ?_;repeat' first|refine Jc (c1 _) ?_|refine Jo ?_|fail
 refine Wp.while (fun m tm H => ∃(i : Nat) (acc : List Mo) (base : TM) (o : PV) (lv : List Nat) (nt : Nat), i + m + 1 = L.length ∧ acc.length = i ∧ 2 * i ≤ Zg7 (L.take i) ∧ (∀x, x ∈ acc → x.Sm) ∧ VO XN YF L 0 [] = VO XN YF (L.drop i) i acc ∧ ApV true 6 (moC acc) o lv nt ∧
   tm=ovr base [(5,.sl .none 1 (Zp L)),(6,o),(7,.int .i64 (i:Int))]∧H=⟨[],0,lv,nt⟩)
  (fun m tm H hI=>Wp.drop ?_) (L.length-1) _ _ ⟨0,[],_,.nils,[],0,by omega,rfl,Nat.zero_le _,by simp,rfl,.nil _ _ rfl,Zd ⟨rfl,rfl,rfl,trivial⟩,rfl⟩
 obtain⟨i,acc,base,o,lv,nt,him,hal,h2i,hsm,hpar,hO,rfl,rfl⟩:=hI;rw[hpar]at hres;have hlm:=Zmc (a:=((Zp L).length:Int)) (b:=1) (by omega) (by rw[Zu];omega);rw[show((Zp L).length:Int)-1=((L.length-1:Nat):Int) by rw[Zu];omega]at hlm;have hlx:=Zv (i:Int) ((L.length-1:Nat):Int);have hii:=Wa (a:=(i:Int)) (b:=1) (by omega) (by omega);rw[show(i:Int)+1=((i+1:Nat):Int) by omega]at hii;obtain⟨x,hx⟩:∃x,L[i]? = some x:=⟨L[i],by rw[List.getElem?_eq_getElem (by omega)]⟩;rw[VC hx]at hres hpar;have htk:=Zky L i;have hts:L.take (i+1)=L.take i++ [x]:=by rw[List.take_add_one,hx];rfl
 have hj:=ZdH (YU hx);have hxl:=hL1 x (List.mem_of_getElem? hx);by_cases hlt:i<L.length-1
 ·rw[decide_eq_true (by omega)]at hlx;have hne:L.drop (i+1)≠ []:=fun e=>by have:=congrArg List.length e;rw[List.length_drop,List.length_nil]at this;omega
  obtain⟨y,ok,hy,cR⟩:=c28 (s:=x) (by omega);cases ok with
  | false=>rw[Ze1 hne (by rw[hy];rfl)]at hres;rw[show((i:Int)+1)=((i+1:Nat):Int) by omega]at hres;simp only[moC,List.map_nil,Zi]at hres;obtain⟨kd,nu,ro,an,ag,go,tn,te⟩:=y;simp only[Mo.cells]at cR;clear hy hL1 hpar hO hfr;subst hres;(repeat' first|refine Jc (cR _) ?_|refine Ko ?_|refine Ka ?_|fail);all_goals rfl
  | true=>(have hy:XN x=some y:=by rw[hy];rfl);have hys:=ZcX (by omega) hy;(have h2s:2*(i+1)≤Zg7 (L.take (i+1)):=by have:=Zdo hy;rw[hts,Zf1,ZaF];omega);rw[ZcH hne hy]at hpar hres;obtain⟨o2,lv2,nt2,hap,hO2, -⟩:=hO.app Zng (.sl .full 6 (moC [y])) (Zm3 _) (ZQ (by rw[WX];simp[WX];omega) (by decide)) (Zjs _);rw[← Zbq]at hO2;have hun:=hO2.under;(have hsm2:∀z,z∈acc++ [y]→z.Sm:=fun z hz=>by rcases List.mem_append.1 hz with hz|hz;{exact hsm z hz};{rw[List.mem_singleton]at hz;subst hz;exact hys});(have hal2:(acc++ [y]).length=i+1:=by simp[hal]);generalize acc++ [y]=acc2 at hO2 hpar hres hsm2 hal2;obtain⟨kd,nu,ro,an,ag,go,tn,te⟩:=y;simp only[moC,List.map_cons,List.map_nil,Mo.cells]at cR hap;clear hy hL1 hO hfr hys hne;(repeat' first|refine Jc (cR _) ?_|refine Kv ?_|refine Ko ?_|refine Ka ?_|fail);refine DropQ.go [(5,.sl .none 1 (Zp L)),(6,o2),(7,.int .i64 ((i+1:Nat):Int))] ⟨rfl,rfl,rfl,trivial⟩ (by simp[under,hun]) rfl rfl ?_;exact LoopI.go (m-1) (by omega) ⟨i+1,acc2,_,o2,lv2,nt2,by omega,hal2,h2s,hsm2,hpar,hO2,rfl,rfl⟩
 ·rw[decide_eq_false (by omega)]at hlx;have hi:i=L.length-1:=by omega
  subst hi;rw[show L.length-1+1=L.length by omega,List.drop_length,UM]at hres;have hns:=Zqq x [];by_cases hx0:x= [];{rw[decide_eq_true hx0]at hns;rw[if_pos hx0]at hres;have hTr:TrS acc:=⟨by omega,hsm⟩;have kF:=fun H=>ZX (c23 hTr true H) (args:=[o]) (by simp only[ZG,hO.frzG]);unfold Zi4 at hres;have n1:=Up (YF acc).2 0;by_cases h0:(YF acc).2=0;{rw[decide_eq_true h0]at n1;rw[if_neg (by omega)]at hres;rw[h0]at kF n1;generalize (YF acc).1=z at kF;have hfz:=fun (a b:Int) (m:Nat) (H:Heap)=>ZfY hO a b m H;clear hL1 hpar hO hfr;subst hres;(repeat' first|refine Jc (kF _) ?_|refine Ko ?_|refine Jo ?_|fail);all_goals exact hfz _ _ _ _};{rw[decide_eq_false h0]at n1;rw[if_pos h0]at hres;simp only[moC,List.map_nil,Zi]at hres;obtain⟨z,hz⟩:∃z,z=(YF acc).1:=⟨_,rfl⟩;rw[← hz]at kF hres;(have had:YS E0 .add 3 (.int .i64 z) (.int .i64 1)=some (.int .i64 (z+1)):=by have hzb:=Zk9 acc;rw[← hz]at hzb;exact Wa (by omega) (by omega));generalize (YF acc).2=e at kF hres n1;clear hL1 hpar hO hfr h0 hz;subst hres;(repeat' first|refine Jc (kF _) ?_|refine Ko ?_|refine Jo ?_|fail);all_goals rfl}};{rw[decide_eq_false hx0]at hns;rw[if_neg hx0]at hres;rw[show(((L.length-1:Nat):Int)+1)=((Zp L).length:Int) by rw[Zu];omega]at hres;simp only[moC,List.map_nil,Zi]at hres;clear hL1 hpar hO hfr;subst hres;(repeat' first|refine Ko ?_|refine Jo ?_|fail);all_goals rfl}
