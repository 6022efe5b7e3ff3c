/-
  A line of a trace is read: the program's text.
-/
import Derived.Test.YtnghnjdabbjcnaaGreatDoorVYra
set_option maxHeartbeats 0
set_option maxRecDepth 100000
namespace Go.Vm
variable {h s w x:ZY} {V ts ws:List ZY}
def Zbx (w:ZY):Option Int:=match Lib.atoiAll w with
 | .ok v=>if v<0∨999999<v then none else some v
 |_=>none
def onN (f:Bool) (ws:List ZY):Option (Int×List ZY):=if f=false then some (0,ws) else match ws with
 | []=>none
 | w :: r => match Zbx w with
   | some v=>some (v,r)
   | none=>none
def Zd3:List ZY→Option (List Tm)
 | []=>some []
 | x :: r => if(Qv (x.length + 1) x).2 ≠ 0 then none else match Zd3 r with
   | some l=>some ((Qv (x.length+1) x).1::l)
   | none=>none
def flg (k:Int):Bool×Bool×Bool:=(!decide (k=6),decide (k=1),decide (k=4∨k=5))
def ZpR (s:ZY) (m:Mo):Option Mo:=if Wv m=true∧(m.agents.any fun a=> !YH a)=false∧Xc m=s then some m else none
def YJ (s:ZY):Option Mo:=match spl [32,124,32] s with
 | []=>none
 | h :: ts => match spl [32] h with
   | []=>none
   | w :: ws => if kdP w 7 = 0 then none else match onN (flg (kdP w 7)).1 ws with
     | none=>none
     | some (a, ws1) => match onN (flg (kdP w 7)).2.1 ws1 with
       | none=>none
       | some (b, ws2) => match onN (flg (kdP w 7)).2.2 ws2 with
         | none=>none
         | some (d, ws3) => match Zd3 ts with
           | none=>none
           | some l=>ZpR s (.mk (kdP w 7) a b true ws3 d true l)
def Zoy (F:Int→Int→Int→List ZY→Option Mo) (f3:Bool) (a b:Int) (V:List ZY):Option Mo:=match onN f3 V with
 |none=>none
 |some (d,V')=>F a b d V'
def ZoA (F:Int→Int→Int→List ZY→Option Mo) (f2 f3:Bool) (a:Int) (V:List ZY):Option Mo:=match onN f2 V with
 |none=>none
 |some (b,V')=>Zoy F f3 a b V'
def Zou (F:Int→Int→Int→List ZY→Option Mo) (f1 f2 f3:Bool) (V:List ZY):Option Mo:=match onN f1 V with
 |none=>none
 |some (a,V')=>ZoA F f2 f3 a V'
theorem Zll (V:List ZY):onN false V=some (0,V):=rfl
theorem Znm:onN true []=none:=rfl
theorem Up (h:Zbx x=none):onN true (x::V)=none:=by show(match Zbx x with|some v=>some (v,V)|none=>none)=_;rw[h]
theorem Zfc {v:Int} (h:Zbx x=some v):onN true (x::V)=some (v,V):=by show(match Zbx x with|some v=>some (v,V)|none=>none)=_;rw[h]
def ZqI (s:ZY) (K:Int) (ts:List ZY) (a b d:Int) (V:List ZY):Option Mo:=match Zd3 ts with
 |none=>none
 |some l=>ZpR s (.mk K a b true V d true l)
theorem ZaY (h1:spl [32,124,32] s=h::ts) (h2:spl [32] h=w::ws) (h3:kdP w 7≠0):YJ s=Zou (ZqI s (kdP w 7) ts) (flg (kdP w 7)).1 (flg (kdP w 7)).2.1 (flg (kdP w 7)).2.2 ws:=by unfold YJ;rw[h1];simp only;rw[h2];simp only;rw[if_neg h3];rfl
theorem Zlf (h1:spl [32,124,32] s=h::ts) (h2:spl [32] h=w::ws) (h3:kdP w 7=0):YJ s=none:=by unfold YJ;rw[h1];simp only;rw[h2];simp only;rw[if_pos h3]
end Go.Vm
namespace Go.Vm.Seat
variable {s:ZY}
open Go.Proofs
theorem ZrQ {K:Int} (h1:1≤K) (h7:K≤7):∃(nm:ZY) (a b c d:Int),Zy E0 78 (.sl .none 8 shC) (.int .i64 K)=some (.fptr [.str nm,.bool (flg K).1,.bool (flg K).2.1,.bool (flg K).2.2,.int .i64 a,.int .i64 b,.int .i64 c,.int .i64 d] 0):=by rcases(show K=1∨K=2∨K=3∨K=4∨K=5∨K=6∨K=7 by omega) with rfl|rfl|rfl|rfl|rfl|rfl|rfl<;>exact⟨_,_,_,_,_,rfl⟩
theorem Zn2 {d:Nat} {x:List UInt8} (hx:x.length≤1000000) (h0:(Qv d x).2=0):(Qv d x).1.TV:=by
 cases hd:rdF d x with
 |none=>rw[Zit hd]at h0;cases h0
 |some y=>
  obtain⟨t,s⟩:=y;cases s with
  | cons c s=>rw[ZcE hd]at h0;cases h0
  | nil=>have hq:=ZfN _ _ _ _ hx hd;by_cases hv:t.valid=0;{rw[Ze9 hd hv];exact⟨hq.ok,hv⟩};{rw[Zga hd hv]at h0;exact absurd h0 hv}
abbrev ZuM (nm:ZY) (f1 f2 f3:Bool) (q1 q2 q3 q4:Int):List PV:=[.str nm,.bool f1,.bool f2,.bool f3,.int .i64 q1,.int .i64 q2,.int .i64 q3,.int .i64 q4]
abbrev hpN (V:List ZY) (row:List PV) (nm:ZY) (f1 f2 f3:Bool) (q1 q2 q3 q4:Int):Heap:=⟨[cA,.cells 1 [[.sl .none 1 (ZD V)]],.cells 6 [row],.dead,.dead,.dead,.dead,.dead,.cells 8 [ZuM nm f1 f2 f3 q1 q2 q3 q4],.dead,.cells 2 [[.bool f1,.ptr 2 6 0 1],[.bool f2,.ptr 2 6 0 2],[.bool f3,.ptr 2 6 0 4]]],0,[],0⟩
theorem ZnV {I a b d:Int} {o o5:PV} (h:ZL o=true) (h5:ZL o5=true):(VH I a b d o o5).all ZL=true:=by show(true&&(true&&(true&&(ZL o&&(true&&(ZL o5&&true))))))=true;rw[h,h5];rfl
theorem ZnC (hs:s.length≤30000):∃r H1,CO 25 [.str s] hNil r H1∧ZvU (YJ s) r H1:=by
 have c1:=c49 (s:=s) (sep:=[32,124,32]) (by omega) (by decide);have hL1:=fun x=>ZlV (sep:=[32,124,32]) (s:=s) (x:=x);have hLn:=ZjD (sep:=[32,124,32]) (by decide) s;generalize hR:YJ s=R;cases hL:spl [32,124,32] s with
 |nil=>exact absurd hL (Zgs _ _)
 |cons h ts=>
 rw[hL]at c1 hL1 hLn;have hhl:h.length≤s.length:=hL1 h List.mem_cons_self;have c2:=c49 (s:=h) (sep:=[32]) (by omega) (by decide);have hW1:=fun x=>ZlV (sep:=[32]) (s:=h) (x:=x);have hWn:=ZjD (sep:=[32]) (by decide) h;cases hW:spl [32] h with
 |nil=>exact absurd hW (Zgs _ _)
 |cons w ws=>
 rw[hW]at c2 hW1 hWn;have cs:=WG;have cx:=ZsA w ws;have hix:=Zrb w;have hKl:=Zmj w 7;generalize ixW w nmsL 0=I at cx hix;have hR1:=ZaY (s:=s) hL hW;have hR0:=Zlf (s:=s) hL hW;rw[hR]at hR1 hR0;clear hL hW;generalize kdP w 7=K at hR1 hR0 hix hKl;have k1:=Zu I 1;rcases hix with⟨hi1,hk0⟩|⟨hi1,rfl⟩
 ·rw[decide_eq_true hi1]at k1;have hR:=(hR0 hk0).symm;refine Zt (own:=fun d=>Nat.beq d 30006) tOk fe25.ok ?_;refine Wp.seq ?_;clear hL1 hLn hW1 hWn;repeat' first|(apply qCl;rfl;rfl;rfl;rfl;first|exact c1 _|exact c2 _|exact cs _|exact cx)|refine Kg ?_|fail
  exact RetR.ret rfl ⟨⟨I,0,0,true,[],0,true,[]⟩,false,hR.symm,Yp ZdY Zd0 _ _ _⟩
 ·rw[decide_eq_false (by omega)]at k1;have hr:=(hR1 (by omega)).symm;clear hR hR1 hR0;obtain⟨nm,q1,q2,q3,q4,hrow⟩:=ZrQ (K:=I) (by omega) (by omega);have hfl:(flg I).2.1=true→(flg I).2.2=false:=by unfold flg;simp;omega
  generalize (flg I).1=f1 at hr hrow;generalize (flg I).2.1=f2 at hr hrow hfl;generalize (flg I).2.2=f3 at hr hrow hfl;have hsl:Yf E0 29 (.sl .none 1 (ZD (w::ws))) (some (.int .i64 1)) none none=some (.sl .none 1 (ZD ws)):=Zjq (k:=1) (by rw[ZC];simp);refine Zt (own:=fun d=>Nat.beq d 30006||(Nat.beq d 30007||(Nat.beq d 49||Nat.beq d 113))) tOk fe25.ok ?_;refine Wp.seq ?_;repeat' first|(apply qCl;rfl;rfl;rfl;rfl;first|exact c1 _|exact c2 _|exact cs _|exact cx)|refine JS ?_|refine Kg ?_|refine Jd (cs _) ?_|(apply dAl;rfl;rfl;rfl;rfl;exact IsV.ptrM;exact IsH.mkN)|refine JK ?_|refine Jh ?_|(apply dWB tOk follows;rfl;kernel_rfl;rfl;exact IsH.mkN)|fail
  generalize hFF:ZqI s I ts=F at hr;refine Wp.while (fun m tm H => ∃(i : Int) (V : List ZY) (a b d : Int) (base : TM), ((i = 0 ∧ m = 3 ∧ a = 0 ∧ b = 0 ∧ d = 0 ∧ Zou F f1 f2 f3 V = R) ∨ (i = 1 ∧ m = 2 ∧ 0 ≤ a ∧ a ≤ 999999 ∧ b = 0 ∧ d = 0 ∧ ZoA F f2 f3 a V = R) ∨ (i = 2 ∧ m = 1 ∧ 0 ≤ a ∧ a ≤ 999999 ∧ 0 ≤ b ∧ b ≤ 999999 ∧ d = 0 ∧ Zoy F f3 a b V = R) ∨
        (i=3∧m=0∧0≤a∧a≤999999∧0≤b∧b≤999999∧0≤d∧d≤999999∧F a b d V=R))∧((∀x,x∈V→x.length≤30000)∧V.length≤100000)∧
    tm=ovr base [(0,.str s),(2,.ptr 0 6 0 0),(4,.sl .none 1 (ZD (h::ts))),(5,.ptr 1 1 0 0),(6,.ptr 2 6 0 0),(49,.own 10 2 0 3),(50,.int .i64 3),(51,.int .i64 i)]∧H=hpN V (Zod I a b d) nm f1 f2 f3 q1 q2 q3 q4)
   (fun m tm H hI=>Wp.drop ?_) 3 _ _ ⟨0,ws,0,0,0,_,.inl ⟨rfl,rfl,rfl,rfl,rfl,hr⟩,⟨fun x hx=>by have:=hW1 x (List.mem_cons_of_mem _ hx);omega,by rw[List.length_cons]at hWn;omega⟩,Ze ⟨rfl,rfl,rfl,rfl,rfl,rfl,rfl,rfl,trivial⟩,rfl⟩
  have htsx:∀x,x∈ts→x.length≤30000:=fun x hx=>by have:=hL1 x (List.mem_cons_of_mem _ hx);omega
  have htsl:ts.length≤30001:=by rw[List.length_cons]at hLn;omega
  clear hr c1 c2 cs cx k1 hrow hL1 hLn hW1 hWn;obtain⟨i,V,a,b,d,base,hi,hV,rfl,rfl⟩:=hI;rcases hi with⟨rfl,rfl,rfl,rfl,rfl,hr⟩|⟨rfl,rfl,ha0,ha9,rfl,rfl,hr⟩|⟨rfl,rfl,ha0,ha9,hb0,hb9,rfl,hr⟩|⟨rfl,rfl,ha0,ha9,hb0,hb9,hd0,hd9,hr⟩
  ·clear hfl;cases f1 with
   | false=>(have hr:ZoA F f2 f3 0 V=R:=by rw[← hr];unfold Zou;rw[Zll]);(repeat' first|refine KB ?_|fail);refine DropQ.go [(0,.str s),(2,.ptr 0 6 0 0),(4,.sl .none 1 (ZD (h::ts))),(5,.ptr 1 1 0 0),(6,.ptr 2 6 0 0),(49,.own 10 2 0 3),(50,.int .i64 3),(51,.int .i64 1)] ⟨rfl,rfl,rfl,rfl,rfl,rfl,rfl,rfl,trivial⟩ rfl rfl rfl ?_;exact LoopI.go 2 (by omega) ⟨1,V,_,_,_,_,.inr (.inl ⟨rfl,rfl,Int.le_refl _,by omega,rfl,rfl,hr⟩),hV,rfl,rfl⟩
   | true=>
    have hr2:=hr;unfold Zou at hr2;match V,hV with
    | [],hV=>rw[Znm]at hr2;simp only at hr2;(repeat' first|refine KB ?_|fail);exact RetR.ret rfl ⟨⟨I,_,_,true,[],_,true,[]⟩,false,hr2.symm,Yp ZdY Zd0 _ _ _⟩
    | x::V',hV=>
     have hxl:=hV.1 x List.mem_cons_self;have hj0:=Zk5 (L:=ZD (x::V')) (i:=0) (cs:=[.str x]) rfl;have hs1:Yf E0 29 (.sl .none 1 (ZD (x::V'))) (some (.int .i64 1)) none none=some (.sl .none 1 (ZD V')):=Zjq (k:=1) (by rw[ZC];simp);have cAt:=c52 (s:=x) (by omega);unfold ZiK at cAt;cases hA:Lib.atoiAll x with
     | range=>rw[hA]at cAt;simp only at cAt;rw[Up (by unfold Zbx;rw[hA])]at hr2;simp only at hr2;generalize Lib.atoiSat x=sat at cAt;(repeat' first|refine Jk ?_|refine Jc (cAt _) ?_|refine JJ ?_|refine KB ?_|fail);exact RetR.ret rfl ⟨⟨I,_,_,true,[],_,true,[]⟩,false,hr2.symm,Yp ZdY Zd0 _ _ _⟩
     | ok v=>rw[hA]at cAt;simp only at cAt;have hl:=Zu v 0;have hg:=Xq v 999999;by_cases hv:v<0∨999999<v;{rw[Up (by unfold Zbx;rw[hA];exact if_pos hv)]at hr2;simp only at hr2;by_cases hv0:v<0;{rw[decide_eq_true hv0]at hl;(repeat' first|refine Jk ?_|refine Jc (cAt _) ?_|refine KG ?_|refine KB ?_|fail);exact RetR.ret rfl ⟨⟨I,_,_,true,[],_,true,[]⟩,false,hr2.symm,Yp ZdY Zd0 _ _ _⟩};{rw[decide_eq_false hv0]at hl;rw[decide_eq_true (by omega)]at hg;(repeat' first|refine Jc (cAt _) ?_|refine KG ?_|refine KB ?_|fail);exact RetR.ret rfl ⟨⟨I,_,_,true,[],_,true,[]⟩,false,hr2.symm,Yp ZdY Zd0 _ _ _⟩}};{rw[Zfc (by unfold Zbx;rw[hA];exact if_neg hv)]at hr2;simp only at hr2;rw[decide_eq_false (by omega)]at hl hg;(repeat' first|refine Jc (cAt _) ?_|refine KG ?_|refine KB ?_|refine Kh ?_|refine Jh ?_|(apply Wp.switch (fun d=>[29999,49,50049,50056,40648,40649,40651,40664].any (Nat.beq d));apply dWS tOk follows;rfl;kernel_rfl;rfl)|fail);refine DropQ.go [(0,.str s),(2,.ptr 0 6 0 0),(4,.sl .none 1 (ZD (h::ts))),(5,.ptr 1 1 0 0),(6,.ptr 2 6 0 0),(49,.own 10 2 0 3),(50,.int .i64 3),(51,.int .i64 1)] ⟨rfl,rfl,rfl,rfl,rfl,rfl,rfl,rfl,trivial⟩ rfl rfl rfl ?_;exact LoopI.go 2 (by omega) ⟨1,V',_,_,_,_,.inr (.inl ⟨rfl,rfl,by omega,by omega,rfl,rfl,hr2⟩),⟨fun y hy=>hV.1 y (List.mem_cons_of_mem _ hy),by have:=hV.2;rw[List.length_cons]at this;omega⟩,rfl,rfl⟩}
     |_=>rw[hA]at cAt;simp only at cAt;rw[Up (by unfold Zbx;rw[hA])]at hr2;simp only at hr2;(repeat' first|refine Jk ?_|refine Jc (cAt _) ?_|refine JJ ?_|refine KB ?_|fail);exact RetR.ret rfl ⟨⟨I,_,_,true,[],_,true,[]⟩,false,hr2.symm,Yp ZdY Zd0 _ _ _⟩
  ·clear hfl;cases f2 with
   | false=>(have hr:Zoy F f3 a 0 V=R:=by rw[← hr];unfold ZoA;rw[Zll]);(repeat' first|refine KB ?_|fail);refine DropQ.go [(0,.str s),(2,.ptr 0 6 0 0),(4,.sl .none 1 (ZD (h::ts))),(5,.ptr 1 1 0 0),(6,.ptr 2 6 0 0),(49,.own 10 2 0 3),(50,.int .i64 3),(51,.int .i64 2)] ⟨rfl,rfl,rfl,rfl,rfl,rfl,rfl,rfl,trivial⟩ rfl rfl rfl ?_;exact LoopI.go 1 (by omega) ⟨2,V,_,_,_,_,.inr (.inr (.inl ⟨rfl,rfl,ha0,ha9,Int.le_refl _,by omega,rfl,hr⟩)),hV,rfl,rfl⟩
   | true=>
    have hr2:=hr;unfold ZoA at hr2;match V,hV with
    | [],hV=>rw[Znm]at hr2;simp only at hr2;(repeat' first|refine KB ?_|fail);exact RetR.ret rfl ⟨⟨I,_,_,true,[],_,true,[]⟩,false,hr2.symm,Yp ZdY Zd0 _ _ _⟩
    | x::V',hV=>
     have hxl:=hV.1 x List.mem_cons_self;have hj0:=Zk5 (L:=ZD (x::V')) (i:=0) (cs:=[.str x]) rfl;have hs1:Yf E0 29 (.sl .none 1 (ZD (x::V'))) (some (.int .i64 1)) none none=some (.sl .none 1 (ZD V')):=Zjq (k:=1) (by rw[ZC];simp);have cAt:=c52 (s:=x) (by omega);unfold ZiK at cAt;cases hA:Lib.atoiAll x with
     | range=>rw[hA]at cAt;simp only at cAt;rw[Up (by unfold Zbx;rw[hA])]at hr2;simp only at hr2;generalize Lib.atoiSat x=sat at cAt;(repeat' first|refine Jk ?_|refine Jc (cAt _) ?_|refine JJ ?_|refine KB ?_|fail);exact RetR.ret rfl ⟨⟨I,_,_,true,[],_,true,[]⟩,false,hr2.symm,Yp ZdY Zd0 _ _ _⟩
     | ok v=>rw[hA]at cAt;simp only at cAt;have hl:=Zu v 0;have hg:=Xq v 999999;by_cases hv:v<0∨999999<v;{rw[Up (by unfold Zbx;rw[hA];exact if_pos hv)]at hr2;simp only at hr2;by_cases hv0:v<0;{rw[decide_eq_true hv0]at hl;(repeat' first|refine Jk ?_|refine Jc (cAt _) ?_|refine KG ?_|refine KB ?_|fail);exact RetR.ret rfl ⟨⟨I,_,_,true,[],_,true,[]⟩,false,hr2.symm,Yp ZdY Zd0 _ _ _⟩};{rw[decide_eq_false hv0]at hl;rw[decide_eq_true (by omega)]at hg;(repeat' first|refine Jc (cAt _) ?_|refine KG ?_|refine KB ?_|fail);exact RetR.ret rfl ⟨⟨I,_,_,true,[],_,true,[]⟩,false,hr2.symm,Yp ZdY Zd0 _ _ _⟩}};{rw[Zfc (by unfold Zbx;rw[hA];exact if_neg hv)]at hr2;simp only at hr2;rw[decide_eq_false (by omega)]at hl hg;(repeat' first|refine Jc (cAt _) ?_|refine KG ?_|refine KB ?_|refine Kh ?_|refine Jh ?_|(apply Wp.switch (fun d=>[29999,49,50049,50056,40648,40649,40651,40664].any (Nat.beq d));apply dWS tOk follows;rfl;kernel_rfl;rfl)|fail);refine DropQ.go [(0,.str s),(2,.ptr 0 6 0 0),(4,.sl .none 1 (ZD (h::ts))),(5,.ptr 1 1 0 0),(6,.ptr 2 6 0 0),(49,.own 10 2 0 3),(50,.int .i64 3),(51,.int .i64 2)] ⟨rfl,rfl,rfl,rfl,rfl,rfl,rfl,rfl,trivial⟩ rfl rfl rfl ?_;exact LoopI.go 1 (by omega) ⟨2,V',_,_,_,_,.inr (.inr (.inl ⟨rfl,rfl,ha0,ha9,by omega,by omega,rfl,hr2⟩)),⟨fun y hy=>hV.1 y (List.mem_cons_of_mem _ hy),by have:=hV.2;rw[List.length_cons]at this;omega⟩,rfl,rfl⟩}
     |_=>rw[hA]at cAt;simp only at cAt;rw[Up (by unfold Zbx;rw[hA])]at hr2;simp only at hr2;(repeat' first|refine Jk ?_|refine Jc (cAt _) ?_|refine JJ ?_|refine KB ?_|fail);exact RetR.ret rfl ⟨⟨I,_,_,true,[],_,true,[]⟩,false,hr2.symm,Yp ZdY Zd0 _ _ _⟩
  ·clear hfl;cases f3 with
   | false=>(have hr:F a b 0 V=R:=by rw[← hr];unfold Zoy;rw[Zll]);(repeat' first|refine KB ?_|fail);refine DropQ.go [(0,.str s),(2,.ptr 0 6 0 0),(4,.sl .none 1 (ZD (h::ts))),(5,.ptr 1 1 0 0),(6,.ptr 2 6 0 0),(49,.own 10 2 0 3),(50,.int .i64 3),(51,.int .i64 3)] ⟨rfl,rfl,rfl,rfl,rfl,rfl,rfl,rfl,trivial⟩ rfl rfl rfl ?_;exact LoopI.go 0 (by omega) ⟨3,V,_,_,_,_,.inr (.inr (.inr ⟨rfl,rfl,ha0,ha9,hb0,hb9,Int.le_refl _,by omega,hr⟩)),hV,rfl,rfl⟩
   | true=>
    have hr2:=hr;unfold Zoy at hr2;match V,hV with
    | [],hV=>rw[Znm]at hr2;simp only at hr2;(repeat' first|refine KB ?_|fail);exact RetR.ret rfl ⟨⟨I,_,_,true,[],_,true,[]⟩,false,hr2.symm,Yp ZdY Zd0 _ _ _⟩
    | x::V',hV=>
     have hxl:=hV.1 x List.mem_cons_self;have hj0:=Zk5 (L:=ZD (x::V')) (i:=0) (cs:=[.str x]) rfl;have hs1:Yf E0 29 (.sl .none 1 (ZD (x::V'))) (some (.int .i64 1)) none none=some (.sl .none 1 (ZD V')):=Zjq (k:=1) (by rw[ZC];simp);have cAt:=c52 (s:=x) (by omega);unfold ZiK at cAt;cases hA:Lib.atoiAll x with
     | range=>rw[hA]at cAt;simp only at cAt;rw[Up (by unfold Zbx;rw[hA])]at hr2;simp only at hr2;generalize Lib.atoiSat x=sat at cAt;(repeat' first|refine Jk ?_|refine Jc (cAt _) ?_|refine JJ ?_|refine KB ?_|fail);exact RetR.ret rfl ⟨⟨I,_,_,true,[],_,true,[]⟩,false,hr2.symm,Yp ZdY Zd0 _ _ _⟩
     | ok v=>rw[hA]at cAt;simp only at cAt;have hl:=Zu v 0;have hg:=Xq v 999999;by_cases hv:v<0∨999999<v;{rw[Up (by unfold Zbx;rw[hA];exact if_pos hv)]at hr2;simp only at hr2;by_cases hv0:v<0;{rw[decide_eq_true hv0]at hl;(repeat' first|refine Jk ?_|refine Jc (cAt _) ?_|refine KG ?_|refine KB ?_|fail);exact RetR.ret rfl ⟨⟨I,_,_,true,[],_,true,[]⟩,false,hr2.symm,Yp ZdY Zd0 _ _ _⟩};{rw[decide_eq_false hv0]at hl;rw[decide_eq_true (by omega)]at hg;(repeat' first|refine Jc (cAt _) ?_|refine KG ?_|refine KB ?_|fail);exact RetR.ret rfl ⟨⟨I,_,_,true,[],_,true,[]⟩,false,hr2.symm,Yp ZdY Zd0 _ _ _⟩}};{rw[Zfc (by unfold Zbx;rw[hA];exact if_neg hv)]at hr2;simp only at hr2;rw[decide_eq_false (by omega)]at hl hg;(repeat' first|refine Jc (cAt _) ?_|refine KG ?_|refine KB ?_|refine Kh ?_|refine Jh ?_|(apply Wp.switch (fun d=>[29999,49,50049,50056,40648,40649,40651,40664].any (Nat.beq d));apply dWS tOk follows;rfl;kernel_rfl;rfl)|fail);refine DropQ.go [(0,.str s),(2,.ptr 0 6 0 0),(4,.sl .none 1 (ZD (h::ts))),(5,.ptr 1 1 0 0),(6,.ptr 2 6 0 0),(49,.own 10 2 0 3),(50,.int .i64 3),(51,.int .i64 3)] ⟨rfl,rfl,rfl,rfl,rfl,rfl,rfl,rfl,trivial⟩ rfl rfl rfl ?_;exact LoopI.go 0 (by omega) ⟨3,V',_,_,_,_,.inr (.inr (.inr ⟨rfl,rfl,ha0,ha9,hb0,hb9,by omega,by omega,hr2⟩)),⟨fun y hy=>hV.1 y (List.mem_cons_of_mem _ hy),by have:=hV.2;rw[List.length_cons]at this;omega⟩,rfl,rfl⟩}
     |_=>rw[hA]at cAt;simp only at cAt;rw[Up (by unfold Zbx;rw[hA])]at hr2;simp only at hr2;(repeat' first|refine Jk ?_|refine Jc (cAt _) ?_|refine JJ ?_|refine KB ?_|fail);exact RetR.ret rfl ⟨⟨I,_,_,true,[],_,true,[]⟩,false,hr2.symm,Yp ZdY Zd0 _ _ _⟩
  ·clear hfl;have hVl:=hV.2;have hV:=hV.1;rw[← hFF]at hr;unfold ZqI at hr;have hg:=Xq ((ZD V).length:Int) 0;have hsT:Yf E0 29 (.sl .none 1 (ZD (h::ts))) (some (.int .i64 1)) none none=some (.sl .none 1 (ZD ts)):=Zjq (k:=1) (by rw[ZC];simp);by_cases hV0:V= [];rw[decide_eq_false (by rw[hV0,ZD];simp)]at hg;(have hoo2:slV true 1 (ZD V)= .nils:=by rw[hV0,show ZD []= [] from rfl,Zi]);(have hoo:∀H,frzC 0 H .nils=some (slV true 1 (ZD V)):=fun H=>by rw[hV0,show ZD []= [] from rfl,Zi];rfl);focus
    repeat' first|refine JS ?_|refine Ji ?_|refine KI ?_|fail
   obtain⟨OO,hOO⟩:∃OO,OO=PV.nils:=⟨_,rfl⟩;(have hin:some (Box.cells 6 [VH I a b d .nils .nils])=some (Box.cells 6 [VH I a b d OO .nils]):=by rw[hOO]);(have hck:ZL OO=true:=by rw[hOO];rfl);rw[← hOO]at hoo hoo2;clear hV0 hOO;rotate_left;rw[decide_eq_true (by have:=List.length_pos_iff.2 hV0;rw[ZC];omega)]at hg;have cC:=Zpt hV0 hVl true;rw[Uy hV0 true]at cC;have hoo2:slV true 1 (ZD V)= .sl .none 1 (ZD V):=Uy hV0 true;(have hoo:∀H,frzC 0 H (.sl .none 1 (ZD V))=some (slV true 1 (ZD V)):=fun H=>by rw[hoo2];rfl);focus
    repeat' first|refine Jc (cC _) ?_|refine JS ?_|refine Ji ?_|refine KI ?_|fail
   obtain⟨OO,hOO⟩:∃OO,OO=PV.sl .none 1 (ZD V):=⟨_,rfl⟩;(have hin:some (Box.cells 6 [VH I a b d (.sl .none 1 (ZD V)) .nils])=some (Box.cells 6 [VH I a b d OO .nils]):=by rw[hOO]);(have hck:ZL OO=true:=by rw[hOO];rfl);rw[← hOO]at hoo hoo2;clear hV0 hOO cC;rotate_left;all_goals
    refine Wp.while (fun m tm H => ∃(i : Nat) (tl : List Tm) (B : List Box) (o5 : PV) (base : TM), i + m = ts.length ∧ tl.length = i ∧ (Zd3 ts = match Zd3 (ts.drop i) with | some r => some (tl ++ r) | none => none) ∧ (∀t, t ∈ tl → t.TV) ∧ nth B 0 = some (.cells 6 [Zod 0 0 0 0]) ∧ nth B 2 = some (.cells 6 [VH I a b d (OO) o5]) ∧ OwT B o5 tl ∧ 3 ≤ B.length ∧
      tm=ovr base [(0,.str s),(2,.ptr 0 6 0 0),(6,.ptr 2 6 0 0),(94,.sl .none 1 (ZD ts)),(95,.int .i64 (ts.length:Int)),(96,.int .i64 (i:Int))]∧H=⟨B,0,[],0⟩)
     (fun m tm H hI=>?_) ts.length _ _ ⟨0,[],_,.nils,_,by omega,rfl,by rw[List.drop_zero];cases Zd3 ts<;>rfl,by simp,rfl,by exact hin,.nil,by simp,Ze ⟨rfl,rfl,rfl,rfl,Zg (by rw[ZC];rfl),rfl,trivial⟩,rfl⟩
    obtain⟨i,tl,B,o5,base,him,htl,htr,htv,hB0,hB2,hO5,hBl,rfl,rfl⟩:=hI
    have hlx:=Zu (i:Int) (ts.length:Int)
    by_cases hlt:i<ts.length
    · rw[decide_eq_true (by omega)]at hlx
      obtain⟨x,hx⟩:∃x,ts[i]? = some x:=⟨ts[i],by simp⟩
      have hj:=Zk5 (Xf hx)
      have hii:=ZaJ (a:=(i:Int)) (b:=1) (by omega) (by omega)
      rw[show(i:Int)+1=((i+1:Nat):Int) by omega]at hii
      have hxl:=htsx x (List.mem_of_getElem? hx)
      have cP:=c54 (S:=x) (by omega)
      have n1:=WZ (Qv (x.length+1) x).2 0
      rw[Zh7 hx]at htr
      have hal:∀ρ,aOp E0 false ρ (.alloc 39) ⟨B,0,[],0⟩=some (.ptr B.length 4 0 0,⟨B++ [.cells 4 [zcQ]],0,[],0⟩):=fun ρ=>rfl
      have hwr:=ZsL B (Qv (x.length+1) x).1
      have hB2':nth (B++ [.cells 4 [(Qv (x.length+1) x).1.cells]]) 2=some (.cells 6 [VH I a b d (OO) o5]):=ZbW hB2
      have hB0':nth (B++ [.cells 4 [(Qv (x.length+1) x).1.cells]]) 0=some (.cells 6 [Zod 0 0 0 0]):=ZbW hB0
      by_cases h0:(Qv (x.length+1) x).2=0
      · rw[decide_eq_true h0]at n1
        have hTV:=Zn2 (by omega) h0
        rw[Zd3,if_neg (by omega)]at htr
        rw[h0]at cP n1
        generalize (Qv (x.length+1) x).1=t at cP hwr hB2' hB0' htr hTV
        have hld:=Zr7 B t
        have htr2:Zd3 ts=match Zd3 (ts.drop (i+1)) with|some r=>some ((tl++ [t])++r)|none=>none:=by
         rw[htr]
         cases Zd3 (ts.drop (i+1)) with
         | none=>rfl
         | some r=>simp
        obtain⟨B1,hB1⟩:∃B1,B1=B++ [Box.cells 4 [t.cells]]:=⟨_,rfl⟩
        have hM1:=QM (ext:=[Box.cells 4 [t.cells]]) hO5.mut
        rw[← hB1]at hwr hld hB2' hB0' hM1
        have hB1l:B1.length=B.length+1:=by rw[hB1];simp
        have hqc:(VH I a b d (OO) o5).all ZL=true:=ZnV hck (by cases hO5<;>rfl)
        have l5:=Zr0 hB2'
        have hl5:∀H,Zc0 E0 30 o5 H=some (.int .i64 (i:Int)):=fun H=>by
         rw[← htl]
         cases hO5<;>rfl
        obtain⟨B2,hap,hM2,hb2l,hfr⟩:=apM (.mk 0 [] 0 true []) hM1 (by omega)
        rw[ZbS,htl]at hap
        have hn2:nth B2 B1.length=some (.cells 4 (Za (tl++ [.mk 0 [] 0 true []]))):=by
         rcases ZdV hM2 rfl with⟨h9, -⟩|⟨k,h9,h8⟩
         · cases h9
         · have h7 : B1.length = k := by injection h9
           rw[Zm,h7];exact h8
        have hB02:nth B2 0=some (.cells 6 [Zod 0 0 0 0]):=by rw[Zm];exact hfr 0 _ (by rw[← Zm];exact hB0') (by simp)
        have hB22:nth B2 2=some (.cells 6 [VH I a b d (OO) o5]):=by rw[Zm];exact hfr 2 _ (by rw[← Zm];exact hB2') (by simp)
        have hia:Zy E0 30 (.own B1.length 4 0 (i+1)) (.int .i64 (i:Int))=some (.ptr B1.length 4 (0+i) 0):=ZdO rfl rfl rfl rfl (by omega)
        rw[Nat.zero_add]at hia
        have hw1:=ZrM (L:=B2) (n:=B1.length) (M:=tl) t _ hn2
        rw[htl]at hw1
        obtain⟨B3,hB3⟩:∃B3,B3=B2.set B1.length (.cells 4 (Za (tl++ [t]))):=⟨_,rfl⟩
        rw[← hB3]at hw1
        have hB33:nth B3 B1.length=some (.cells 4 (Za (tl++ [t]))):=by rw[hB3];exact YV (YI hn2)
        have hB03:nth B3 0=some (.cells 6 [Zod 0 0 0 0]):=by rw[hB3,Zm,List.getElem?_set_ne (by omega), ← Zm];exact hB02
        have hB23:nth B3 2=some (.cells 6 [VH I a b d (OO) o5]):=by rw[hB3,Zm,List.getElem?_set_ne (by omega), ← Zm];exact hB22
        have hw2:=ZsH hB23 (.own B1.length 4 0 (i+1))
        obtain⟨B4,hB4⟩:∃B4,B4=B3.set 2 (.cells 6 [VH I a b d (OO) (.own B1.length 4 0 (i+1))]):=⟨_,rfl⟩
        rw[← hB4]at hw2
        have hB44:nth B4 B1.length=some (.cells 4 (Za (tl++ [t]))):=by rw[hB4,Zm,List.getElem?_set_ne (by omega), ← Zm];exact hB33
        have hB04:nth B4 0=some (.cells 6 [Zod 0 0 0 0]):=by rw[hB4,Zm,List.getElem?_set_ne (by omega), ← Zm];exact hB03
        have hB24:nth B4 2=some (.cells 6 [VH I a b d (OO) (.own B1.length 4 0 (i+1))]):=by rw[hB4];exact YV (YI hB23)
        have hO9:OwT B4 (.own B1.length 4 0 (i+1)) (tl++ [t]):=by
         have:=OwT.own (B:=B4) B1.length (tl++ [t]) hB44 (by simp)
         rwa [show(tl++ [t]).length=i+1 by simp[htl]]at this
        have hB4l:3≤B4.length:=by have:=YI hB24;have:=YI hB44;omega
        have htv2:∀y,y∈tl++ [t]→y.TV:=fun y hy=>by
         rcases List.mem_append.1 hy with hy|hy
         · exact htv y hy
         · rw[List.mem_singleton]at hy;subst hy;exact hTV
        have hle:B1.length≤B2.length:=by omega
        have hz7:(nth B3 B1.length).isSome=true:=by rw[hB33];rfl
        have hz9:(nth B4 2).isSome=true:=by rw[hB24];rfl
        have hbt:Nat.blt B.length B1.length=true:=by rw[hB1l];simp[Nat.blt]
        have hbt2:Nat.blt 2 B1.length=true:=Nat.ble_eq_true_of_le (by omega)
        have hbl7:true=Nat.ble B1.length B1.length:=by simp
        have hbl9:false=Nat.ble B1.length 2:=by
         rw[eq_comm,Bool.eq_false_iff]
         intro e
         have:=Nat.le_of_ble_eq_true e
         omega
        clear htr hfr hn2 hM1 hM2 hB02 hB22 hB33 hB03 hB23 hB44
        subst hB1
        obtain⟨xk,xn,xs,xb,xl⟩:=t
        simp only[Tm.cells]at cP hwr hld hw1 hal hB2' hB0' l5 hap hia hle hbt hbt2 hbl7 hbl9 hz7 hw2
        repeat' first|refine Jc (cP _) ?_|refine KC ?_|refine JJ ?_|refine Jo ?_|refine JB ?_|(apply ZqH;rfl;rfl;rfl;rfl;rfl;rfl;assumption;assumption)|refine JK ?_|(apply dLe;rfl;rfl;rfl;assumption;exact IsV.any _;rfl)|(apply dLd;rfl;rfl;rfl;assumption;exact IsV.any _;(first|rfl|(show Nat.blt _ _=true;first|assumption|(simp[Nat.blt];done))))|(apply dSt;rfl;rfl;rfl;rfl;exact IsL.n;rfl;(first|rfl|assumption|(simp only[List.all_cons,List.all_nil,Yd,Bool.and_true];rfl));assumption;exact IsH.mkN;assumption;assumption;rfl)|refine Jh ?_|(apply dWS tOk follows;rfl;kernel_rfl;rfl)|fail
        exact LoopI.go (m-1) (by omega) ⟨i+1,tl++ [.mk xk xn xs xb xl],B4,.own (B++ [Box.cells 4 [(Tm.mk xk xn xs xb xl).cells]]).length 4 0 (i+1),_,by omega,by simp[htl],htr2,htv2,hB04,hB24,hO9,hB4l,Ze ⟨rfl,rfl,rfl,rfl,rfl,rfl,trivial⟩,rfl⟩
      · rw[decide_eq_false h0]at n1
        rw[Zd3,if_pos h0]at htr
        simp only at htr
        rw[htr]at hr
        simp only at hr
        have hqc:(VH I a b d (OO) o5).all ZL=true:=ZnV hck (by cases hO5<;>rfl)
        have l0:=Zqz hB2'
        have w0:=Zqu (I:=I) (a:=a) (b:=b) (d:=d) (o:=OO) (o5:=o5) hB0' rfl
        generalize (Qv (x.length+1) x).2=e at cP n1
        generalize (Qv (x.length+1) x).1=t at cP hwr l0 w0 hB2' hB0'
        have hfz:=Zfn (hO5.set0 hB0 [.cells 4 [t.cells]] (.cells 6 [VH I a b d (OO) o5])) hoo I a b d false
        obtain⟨xk,xn,xs,xb,xl⟩:=t
        simp only[Tm.cells]at cP hwr l0 w0 hfz
        repeat' first|refine Jc (cP _) ?_|refine KC ?_|refine JJ ?_|refine Kf ?_|refine Ka ?_|fail
        exact RetR.ret (Zc8 rfl rfl (YV (by simp))) ⟨⟨I,a,b,true,V,d,true,tl⟩,false,hr.symm,hfz⟩
    · have e : i = ts.length := by omega
      rw[decide_eq_false (by omega)]at hlx
      rw[e,List.drop_length]at htr
      have htr:Zd3 ts=some tl:=by rw[htr];simp[Zd3]
      rw[htr]at hr
      simp only at hr
      have hqc:(VH I a b d (OO) o5).all ZL=true:=ZnV hck (by cases hO5<;>rfl)
      have l0:=Zqz hB2
      have l3:=Zr6 hB2
      have w0:=Zqu (I:=I) (a:=a) (b:=b) (d:=d) (o:=OO) (o5:=o5) hB0 rfl
      have hS:=hO5.set0 hB0 [] (.cells 6 [VH I a b d (OO) o5])
      rw[List.append_nil]at hS
      have hfz:=Zfn hS hoo I a b d
      have hbt0:Nat.blt 0 B.length=true:=Nat.ble_eq_true_of_le (by omega)
      have hbt2:Nat.blt 2 B.length=true:=Nat.ble_eq_true_of_le (by omega)
      have hz0:(nth (B.set 0 (.cells 6 [VH I a b d (OO) o5])) 0).isSome=true:=by rw[YV (YI hB0)];rfl
      have hbl0:false=Nat.ble B.length 0:=by
       rw[eq_comm,Bool.eq_false_iff]
       intro e
       have:=Nat.le_of_ble_eq_true e
       omega
      have hfa:Wu 0 ⟨B,0,[],0⟩ [.agg (VH I a b d (OO) o5)]=some [.agg (Mo.mk I a b true V d true tl).cells]:=Zia hO5 hoo I a b d
      have kF:=Zaf (c55 (Mo.mk I a b true V d true tl) hNil) hfa rfl
      have kN:=ZrF (l:=V) (fun x hx=>by have:=hV x hx;have:maxLen=9223372036854775807:=rfl;omega) hVl true
      rw[hoo2]at kN
      unfold ZpR at hr
      cases hF:Wv (Mo.mk I a b true V d true tl) with
      | false =>
        rw[hF]at kF hr
        simp only[Bool.false_eq_true,false_and,if_false]at hr
        clear hS hO5 hoo hfa kN
        repeat' first|refine Ji ?_|(apply dK;rfl;rfl;rfl)|refine Jd kF ?_|(apply dLd;rfl;rfl;rfl;assumption;exact IsV.any _;(first|rfl|(show Nat.blt _ _=true;first|assumption|(simp[Nat.blt];done))))|(apply dF (ty:=4);rfl;rfl;rfl;rfl)|(apply dSt;rfl;rfl;rfl;rfl;exact IsL.n;rfl;(first|rfl|assumption|(simp only[List.all_cons,List.all_nil,Yd,Bool.and_true];rfl));assumption;exact IsH.mkN;assumption;assumption;rfl)|refine KO ?_|fail
        exact RetR.ret (Zc8 rfl rfl (YV (YI hB0))) ⟨⟨I,a,b,true,V,d,true,tl⟩,false,hr.symm,hfz false⟩
      | true =>
        rw[hF]at kF
        cases hN:(V.any fun a=> !YH a) with
        | true =>
          rw[hN]at kN
          rw[if_neg (fun h9=>by have h8:(V.any fun a=> !YH a)=false:=h9.2.1;rw[hN]at h8;cases h8)]at hr
          clear hS hO5 hoo hfa
          repeat' first|refine Ji ?_|(apply dK;rfl;rfl;rfl)|refine Jd kF ?_|refine Jd (kN _) ?_|(apply dLd;rfl;rfl;rfl;assumption;exact IsV.any _;(first|rfl|(show Nat.blt _ _=true;first|assumption|(simp[Nat.blt];done))))|refine Kc ?_|(apply dSt;rfl;rfl;rfl;rfl;exact IsL.n;rfl;(first|rfl|assumption|(simp only[List.all_cons,List.all_nil,Yd,Bool.and_true];rfl));assumption;exact IsH.mkN;assumption;assumption;rfl)|refine Jh ?_|refine KO ?_|fail
          exact RetR.ret (Zc8 rfl rfl (YV (YI hB0))) ⟨⟨I,a,b,true,V,d,true,tl⟩,false,hr.symm,hfz false⟩
        | false =>
          rw[hN]at kN
          have hLn:(Mo.mk I a b true V d true tl).Ln:=⟨hi1,by show I≤7;omega,⟨ha0,ha9⟩,⟨hb0,hb9⟩,⟨hd0,hd9⟩,(Zfs hF).1,hV,(Zfs hF).2,htv⟩
          have kL:=Zaf (c19 hLn hNil) hfa rfl
          have he:=Zpu (Xc (Mo.mk I a b true V d true tl)) s
          by_cases hls:Xc (Mo.mk I a b true V d true tl)=s
          · rw[if_pos ⟨hF, hN, hls⟩]at hr
            rw[decide_eq_true hls]at he
            generalize Xc (Mo.mk I a b true V d true tl)=ln at kL he
            clear hS hO5 hoo hfa hLn hls
            repeat' first|refine Ji ?_|(apply dCl;rfl;rfl;rfl;rfl;rfl;first|exact kF|exact kN _|exact kL)|refine JD ?_|(apply dLd;rfl;rfl;rfl;assumption;exact IsV.any _;(first|rfl|(show Nat.blt _ _=true;first|assumption|(simp[Nat.blt];done))))|(apply dT (ty:=4);rfl;rfl;rfl;rfl)|(apply dSt;rfl;rfl;rfl;rfl;exact IsL.n;rfl;(first|rfl|assumption|(simp only[List.all_cons,List.all_nil,Yd,Bool.and_true];rfl));assumption;exact IsH.mkN;assumption;assumption;rfl)|refine Jh ?_|refine KO ?_|fail
            exact RetR.ret (Zc8 rfl rfl (YV (YI hB0))) ⟨⟨I,a,b,true,V,d,true,tl⟩,true,hr.symm,hfz true⟩
          · rw[if_neg (fun h9 => hls h9.2.2)]at hr
            rw[decide_eq_false hls]at he
            generalize Xc (Mo.mk I a b true V d true tl)=ln at kL he
            clear hS hO5 hoo hfa hLn hls
            repeat' first|refine Ji ?_|(apply dCl;rfl;rfl;rfl;rfl;rfl;first|exact kF|exact kN _|exact kL)|refine JD ?_|(apply dLd;rfl;rfl;rfl;assumption;exact IsV.any _;(first|rfl|(show Nat.blt _ _=true;first|assumption|(simp[Nat.blt];done))))|refine Kc ?_|(apply dSt;rfl;rfl;rfl;rfl;exact IsL.n;rfl;(first|rfl|assumption|(simp only[List.all_cons,List.all_nil,Yd,Bool.and_true];rfl));assumption;exact IsH.mkN;assumption;assumption;rfl)|refine Jh ?_|refine KO ?_|fail
            exact RetR.ret (Zc8 rfl rfl (YV (YI hB0))) ⟨⟨I,a,b,true,V,d,true,tl⟩,false,hr.symm,hfz false⟩
theorem c25 (hs:s.length≤30000):∃(x:Mo) (ok:Bool),YJ s=(if ok=true then some x else none)∧∀H,CO 25 [.str s] H (.tup [.agg x.cells,.bool ok]) H:=by obtain⟨r,H1,k,x,ok,h,hf⟩:=ZnC hs;exact⟨x,ok,h,fun H=>Xs k rfl hf H⟩
