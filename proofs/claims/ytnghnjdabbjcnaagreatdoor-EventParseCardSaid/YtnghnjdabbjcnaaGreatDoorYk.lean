/-
  Numbers: the second text's numbers.
-/
import Derived.Test.YtnghnjdabbjcnaaGreatDoorYf
import Derived.Lib.ItoaLen
set_option maxHeartbeats 0
set_option maxRecDepth 100000
namespace Go.Vm
variable {s:List UInt8}
theorem ZoH (hs:s.length≤2000):rdF (s.length+1) s=rdF 800 s:=by by_cases h:800≤s.length+1;{exact ZnO hs h};{refine Option.ext fun x=>⟨fun hx=>Znp (by omega) hx,fun hx=>Zcr 800 s x (by omega) hx s.length (by omega)⟩}
theorem Zmi (hs:s.length≤2000):XH (s.length+1) s=XH 800 s:=by rw[XH,XH,ZoH hs]
end Go.Vm
namespace Go.Vm.Seat
open Go.Proofs
theorem c63 {S:List UInt8} (hS:S.length≤1000000):∀H,CO 63 [.str S] H (.tup [.agg (XH 800 S).1.cells,.int .i64 (XH 800 S).2]) H:=by
 have hc:=c96 800 (by omega) S hS;have hF:=ZnZ 800 S;generalize rdG 800 S=g at hc hF;obtain⟨t,r,ok⟩:=g;simp only[okG]at hF hc;have hns:=Zqq r [];cases ok with
 |false=>
  have h:rdF 800 S=none:=hF;rw[ZaX h];clear h hF;simp only[VG];obtain⟨xk,xn,xs,xb,xl⟩:=t;simp only[Tm.cells]at hc;refine Jw tOk fe63.ok rfl ?_;repeat' first|refine Jk ?_|refine Jc (hc _) ?_|refine Ka ?_|fail
  all_goals rfl
 |true=>
  have h:rdF 800 S=some (t,r):=hF;have hrd:=UJ _ _ _ _ hS h;have hlen:=hrd.len;have hsz:=Xw t;have cV:=c97 hrd.ok (by omega);have n1:=Up t.valid 0;cases r with
  | cons c r=>rw[Vl h];rw[decide_eq_false (by simp)]at hns;clear h hF hrd cV;simp only[VG];obtain⟨xk,xn,xs,xb,xl⟩:=t;simp only[Tm.cells]at hc;refine Jw tOk fe63.ok rfl ?_;(repeat' first|refine Jc (hc _) ?_|refine Kd ?_|fail);all_goals rfl
  | nil=>rw[decide_eq_true rfl]at hns;by_cases hv:t.valid=0;{rw[UR h hv];rw[hv]at cV n1;rw[decide_eq_true rfl]at n1;clear h hF hrd;have hfr:=fun m H=>Zg3 t 0 m H;obtain⟨xk,xn,xs,xb,xl⟩:=t;simp only[Tm.cells]at hc cV hfr ⊢;refine Jw tOk fe63.ok (hfr _ _) ?_;(repeat' first|refine Jc (hc _) ?_|refine Jc (cV _) ?_|refine Kd ?_|fail);all_goals exact hfr _ _};{rw[Qh h hv];rw[decide_eq_false hv]at n1;generalize t.valid=e at cV n1 ⊢;clear h hF hrd hv;simp only[VG];obtain⟨xk,xn,xs,xb,xl⟩:=t;simp only[Tm.cells]at hc cV;refine Jw tOk fe63.ok rfl ?_;(repeat' first|refine Jc (hc _) ?_|refine Jc (cV _) ?_|refine Kd ?_|fail);all_goals rfl}
theorem Zns:ApT E0 29 29 1 16:=⟨_,_,_,_,_,rfl,rfl,rfl,rfl,rfl,rfl,rfl,by decide,rfl⟩
theorem Zgr (l:List Z3):(Zp l).all (fun c=>c.all ZP)=true:=by simp only[Zp,List.all_map,List.all_eq_true];intro x _;rfl
theorem ZkA (a b:List Z3):Zp (a++b)=Zp a++Zp b:=by simp[Zp]
theorem Zgw (l:List Z3):noB (Zp l)=true:=by simp only[noB,Zp,List.all_map,List.all_eq_true];intro x _;rfl
theorem ZsT {b:Bool} {l:List Z3} {out:PV} {lv:List Nat} {nt:Nat} (h:ApV b 1 (Zp l) out lv nt) (s:Z3) (hl:l.length≤1000000):∃out' lv' nt',(∀bx ro,ZL E0 29 29 out (.sl .full 1 [[.str s]]) ⟨bx,ro,lv,nt⟩=some (out',⟨bx,ro,lv',nt'⟩))∧ApV b 1 (Zp (l++ [s])) out' lv' nt':=by obtain⟨out',lv',nt',hap,hA', -⟩:=h.app Zns (.sl .full 1 (Zp [s])) (Zgr _) (ZQ (by simp only[Zu,List.length_cons,List.length_nil];omega) (by decide)) (Zgw _);rw[← ZkA]at hA';exact⟨out',lv',nt',hap,hA'⟩
theorem c27 {S sep:List UInt8} (hS:S.length≤100000) (h1:1≤sep.length) (h2:sep.length≤100):∀H,CO 27 [.str S,.str sep] H (slV true 1 (Zp (spl sep S))) H:=by
 refine Jw tOk fe27.ok (ZJ _ _ _ _ _) ?_;repeat' first|refine Jo ?_|fail
 refine Wp.while (fun m tm H => ∃(i f : Nat) (P : List (List UInt8)) (base : TM) (out : PV) (lv : List Nat) (nt : Nat), i + m = S.length ∧ f ≤ S.length ∧ P.length ≤ i ∧ spl sep S = P ++ spQ S sep i f ∧ ApV true 1 (Zp P) out lv nt ∧
   tm=ovr base [(0,.str S),(1,.str sep),(5,out),(6,.int .i64 (f:Int)),(7,.int .i64 (i:Int))]∧H=⟨[],0,lv,nt⟩)
  (fun m tm H hI=>?_) S.length _ _ ⟨0,0,[],_,.nils,[],0,by omega,Nat.zero_le _,Nat.le_refl _,rfl,.nil _ _ rfl,Zd ⟨rfl,rfl,rfl,rfl,rfl,trivial⟩,rfl⟩
 obtain⟨i,f,P,base,out,lv,nt,hi,hf,hPl,hP,hA,rfl,rfl⟩:=hI;have hile:=Wa (a:=(i:Int)) (b:=(sep.length:Int)) (by omega) (by omega);rw[show(i:Int)+(sep.length:Int)=((i+sep.length:Nat):Int) by omega]at hile;have hlq:=Ve ((i+sep.length:Nat):Int) (S.length:Int);have had:=Wa (a:=(i:Int)) (b:=1) (by omega) (by omega);rw[show(i:Int)+1=((i+1:Nat):Int) by omega]at had;by_cases hin:i+sep.length≤S.length
 ·rw[decide_eq_true (by omega)]at hlq;have hge:=XP (i:Int) (f:Int);have hsm:=ZrU (s:=S) (i:=i) (n:=sep.length) hin;have he:=Zmh ((S.drop i).take sep.length) sep;by_cases hfi:f≤i
  ·rw[decide_eq_true (by omega)]at hge;cases hp:Z7 sep (S.drop i) with
   | true=>rw[show decide ((S.drop i).take sep.length=sep)=true from hp]at he;rw[ZoT h1 (by omega) hfi hp]at hP;have hs3:=ZrU (s:=S) (i:=f) (n:=i-f) (by omega);rw[show f+(i-f)=i by omega]at hs3;obtain⟨o2,lv2,nt2,hap,hA2⟩:=ZsT hA ((S.drop f).take (i-f)) (by omega);generalize (S.drop f).take (i-f)=z at hs3 hap hA2 hP;generalize (S.drop i).take sep.length=y at hsm he;(repeat' first|refine Kv ?_|refine JS ?_|refine Kd ?_|fail);exact LoopI.go (m-1) (by omega) ⟨i+1,i+sep.length,P++ [z],_,o2,lv2,nt2,by omega,by omega,by simp;omega,by rw[hP,List.append_assoc];rfl,hA2,Zd ⟨rfl,rfl,rfl,rfl,rfl,trivial⟩,rfl⟩
   | false=>rw[show decide ((S.drop i).take sep.length=sep)=false from hp]at he;rw[Zp3 (by omega) hfi hp]at hP;generalize (S.drop i).take sep.length=y at hsm he;(repeat' first|refine JS ?_|refine Kd ?_|fail);exact LoopI.go (m-1) (by omega) ⟨i+1,f,P,_,out,lv,nt,by omega,hf,by omega,hP,hA,Zd ⟨rfl,rfl,rfl,rfl,rfl,trivial⟩,rfl⟩
  {rw[decide_eq_false (by omega)]at hge;rw[ZqX (by omega) (by omega)]at hP;clear hsm he;(repeat' first|refine KF ?_|fail);exact LoopI.go (m-1) (by omega) ⟨i+1,f,P,_,out,lv,nt,by omega,hf,by omega,hP,hA,Zd ⟨rfl,rfl,rfl,rfl,rfl,trivial⟩,rfl⟩}
 ·rw[decide_eq_false (by omega)]at hlq;rw[ZnN (by omega) (by omega) hf]at hP;have hs3:=ZoR (s:=S) (k:=f) hf;obtain⟨o2,lv2,nt2,hap,hA2⟩:=ZsT hA (S.drop f) (by omega);rw[← hP]at hA2;generalize S.drop f=z at hs3 hap;repeat' first|refine Kv ?_|refine JS ?_|refine Kk ?_|fail
  all_goals exact hA2.frz3 _ _
theorem ZsY {a b:Int} (h: -9223372036854775808≤a*b∧a*b≤9223372036854775807):YS E0 .mul 3 (.int .i64 a) (.int .i64 b)=some (.int .i64 (a*b)):=by show some (PV.int .i64 (IntKind.i64.wrap (a*b)))=_;rw[IntWalk.i64_in _ h]
theorem Ztj {d:Nat} (hd:d<10):ZdO E0 47 9 (.sl .full 1 [[.int .u8 (IntKind.u8.wrap (IntKind.i64.wrap (48+(d:Int))))]])=some (.str [UInt8.ofNat (48+d)]):=by
 have e1:IntKind.u8.wrap (IntKind.i64.wrap (48+(d:Int)))=((48+d:Nat):Int):=by rcases(show d=0∨d=1∨d=2∨d=3∨d=4∨d=5∨d=6∨d=7∨d=8∨d=9 by omega) with rfl|rfl|rfl|rfl|rfl|rfl|rfl|rfl|rfl|rfl<;>rfl
 rw[e1];rcases(show d=0∨d=1∨d=2∨d=3∨d=4∨d=5∨d=6∨d=7∨d=8∨d=9 by omega) with rfl|rfl|rfl|rfl|rfl|rfl|rfl|rfl|rfl|rfl<;>rfl
theorem ZhB:∀(f u:Nat),u<10 ^ f→u≤1000000000→∀H,CO 81 [.int .i64 (u:Int)] H (.str (Lib.decDigits u)) H:=by
 intro f;induction f with
 |zero=>
  intro u h _;have:u=0:=by simpa using h
  subst this;have hc:=Ztj (d:=0) (by omega);rw[Zpu (by omega)];refine Jw tOk fe81.ok rfl ?_;repeat' first|refine Js ?_|refine KY ?_|refine Ka ?_|fail
  all_goals rfl
 |succ f ih=>intro u h hu;by_cases hlt:u<10;{have hc:=Ztj (d:=u) hlt;rw[Zpu hlt];refine Jw tOk fe81.ok rfl ?_;(repeat' first|refine Js ?_|refine KY ?_|refine Jb ?_ ?_|refine Jo ?_|refine Kb ?_|intro hb);{rfl};{exfalso;simp at hb;omega}};{(have hq:IntKind.i64.wrap ((u:Int).tdiv 10)=((u / 10:Nat):Int):=by(have:(u:Int).tdiv 10=((u / 10:Nat):Int):=by rw[Int.tdiv_eq_ediv_of_nonneg (by omega)];omega);rw[this];exact Ze (by omega));(have hm:(u:Int).tmod 10=((u % 10:Nat):Int):=by rw[Int.tmod_eq_emod_of_nonneg (by omega)];omega);have hr:=ih (u / 10) (by rw[Nat.pow_succ]at h;omega) (by omega);rw[← hq]at hr;have hc:=Ztj (d:=u % 10) (by omega);rw[← hm]at hc;(have hlen:(Lib.decDigits (u / 10)).length≤1000:=by rw[Lib.decDigits_length];have:=Lib.nDigits_le20 (u / 10) (by omega);omega);rw[ZrJ hlt];generalize Lib.decDigits (u / 10)=s at hr hlen ⊢;(have had:YS E0 .add 9 (.str s) (.str [UInt8.ofNat (48+u % 10)])=some (.str (s++ [UInt8.ofNat (48+u % 10)])):=by show ZnJ .add s _=_;simp only[ZnJ];rw[if_pos (by simp;omega)]);refine Jw tOk fe81.ok rfl ?_;(repeat' first|refine Js ?_|refine Jb ?_ ?_|refine Jo ?_|refine Jd (hr _) ?_|refine JB ?_|refine JD ?_|(apply dCv;rfl;rfl;rfl;assumption;exact IsV.any _;rfl)|refine Kb ?_|intro hb);{exfalso;simp at hb;omega};{rfl}}
theorem c81 {u:Nat} (hu:u≤999999):∀H,CO 81 [.int .i64 (u:Int)] H (.str (Lib.decDigits u)) H:=ZhB 6 u (by omega) (by omega)
theorem c93 (s:List UInt8) (hs:s.length≤1000000):∀H,CO 93 [.str s] H (.tup [.int .i64 ((Zez s).1:Int),.bool (Zez s).2]) H:=by
 have k0:=Z0 (s.length:Int) 0;have k6:=Y7 (s.length:Int) 6;by_cases hb:s.length=0∨6<s.length;{have hr:Zez s=(0,false):=if_pos hb;rw[hr];refine Jw tOk fe93.ok rfl ?_;by_cases h0:s.length=0;{rw[decide_eq_true (by omega)]at k0;(repeat' first|refine KF ?_|fail);all_goals rfl};{rw[decide_eq_false (by omega)]at k0;rw[decide_eq_true (by omega)]at k6;(repeat' first|refine Kd ?_|fail);all_goals rfl}}
 ·rw[decide_eq_false (by omega)]at k0 k6;obtain⟨res,hres⟩:∃res,res=PV.tup [.int .i64 ((Zez s).1:Int),.bool (Zez s).2]:=⟨_,rfl⟩;have hfr:frz3 0 hNil res=some res:=by rw[hres];rfl
  rw[← hres];rw[show Zez s=match Vi 0 s with
   | some n=>(n,decide (Lib.decDigits n=s))
   | none=>(0,false) from if_neg hb]at hres
  refine Jw tOk fe93.ok hfr ?_;repeat' first|refine Kd ?_|fail
  refine Wp.while (fun m tm H=>∃(i n:Nat) (base:TM),i+m=s.length∧n<10 ^ i∧Vi 0 s=Vi n (s.drop i)∧tm=ovr base [(0,.str s),(4,.int .i64 (n:Int)),(5,.int .i64 (i:Int))]∧H=⟨[],0,[],0⟩)
   (fun m tm H hI=>Wp.drop ?_) s.length _ _ ⟨0,0,_,by omega,by decide,rfl,Zd ⟨rfl,rfl,rfl,trivial⟩,rfl⟩
  obtain⟨i,n,base,hi,hn,hv,rfl,rfl⟩:=hI;have hlx:=Zv (i:Int) (s.length:Int);have hp6:=Nat.pow_le_pow_right (n:=10) (by decide) (show i≤6 by omega);have hp7:(10:Nat) ^ 6=1000000:=by decide
  rw[hv]at hres;by_cases hlt:i<s.length
  ·rw[decide_eq_true (by omega)]at hlx;obtain⟨c,hc⟩:∃c,s[i]? = some c:=⟨s[i],by simp⟩;have hx:=Zhm hc;rw[ZB hc]at hres hv;have e1:YS E0 .lss 5 (.int .u8 (c.toNat:Int)) (.int .u8 48)=some (.bool (decide ((c.toNat:Int)<48))):=rfl;have e2:YS E0 .gtr 5 (.int .u8 (c.toNat:Int)) (.int .u8 57)=some (.bool (decide (57<(c.toNat:Int)))):=rfl;cases hd:Ziy c with
   | true=>(have hd2:48≤c.toNat∧c.toNat≤57:=by simpa[Ziy] using hd);rw[decide_eq_false (by omega)]at e1 e2;(have hv2:Vi 0 s=Vi (10*n+(c.toNat-48)) (s.drop (i+1)):=by rw[hv,Vi,if_pos hd]);have hm:=ZsY (a:=10) (b:=(n:Int)) (by omega);(have hs8:YS E0 .sub 5 (.int .u8 (c.toNat:Int)) (.int .u8 48)=some (.int .u8 ((c.toNat-48:Nat):Int)):=by show some (PV.int .u8 (IntKind.u8.wrap ((c.toNat:Int)-48)))=_;rw[IntWalk.u8_in _ (by omega),show(c.toNat:Int)-48=((c.toNat-48:Nat):Int) by omega]);(have had:YS E0 .add 3 (.int .i64 (10*(n:Int))) (.int .i64 (IntKind.i64.wrap ((c.toNat-48:Nat):Int)))=some (.int .i64 ((10*n+(c.toNat-48):Nat):Int)):=by rw[Ze (by omega)];have:=Wa (a:=10*(n:Int)) (b:=((c.toNat-48:Nat):Int)) (by omega) (by omega);rw[this,show 10*(n:Int)+((c.toNat-48:Nat):Int)=((10*n+(c.toNat-48):Nat):Int) by omega]);have hii:=Wa (a:=(i:Int)) (b:=1) (by omega) (by omega);rw[show(i:Int)+1=((i+1:Nat):Int) by omega]at hii;(have hnn:10*n+(c.toNat-48)<10 ^ (i+1):=by rw[Nat.pow_succ];omega);generalize 10*n+(c.toNat-48)=n2 at had hv2 hnn;clear hv;(repeat' first|refine KL ?_|fail);refine DropQ.go [(0,.str s),(4,.int .i64 (n2:Int)),(5,.int .i64 ((i+1:Nat):Int))] ⟨rfl,rfl,rfl,trivial⟩ rfl rfl rfl ?_;exact LoopI.go (m-1) (by omega) ⟨i+1,n2,_,by omega,hnn,hv2,rfl,rfl⟩
   | false=>(have hr2:Vi n (c::s.drop (i+1))=none:=by rw[Vi,if_neg (by rw[hd];decide)]);rw[hr2]at hres;subst hres;by_cases h48:(c.toNat:Int)<48;{rw[decide_eq_true h48]at e1;(repeat' first|refine Jk ?_|refine KL ?_|fail);all_goals rfl};{rw[decide_eq_false h48]at e1;(have h57:57<(c.toNat:Int):=by simp only[Ziy,decide_eq_false_iff_not]at hd;omega);rw[decide_eq_true h57]at e2;(repeat' first|refine KL ?_|fail);all_goals rfl}
  {(have e:i=s.length:=by omega);subst e;rw[decide_eq_false (by omega)]at hlx;rw[List.drop_length,Vi]at hres;simp only at hres;have hD:=c81 (u:=n) (by omega);have he:=Zmh (Lib.decDigits n) s;generalize Lib.decDigits n=z at hD he hres;generalize decide (z=s)=B at he hres;subst hres;(repeat' first|refine Jc (hD _) ?_|refine Ji ?_|refine Jb ?_ ?_|refine Jo ?_|intro hb);all_goals (subst hb;rfl)}
end Go.Vm.Seat
namespace Go.Vm
variable {s:List UInt8} {n:Nat}
def QT (k:Int) (ws:List Z3):Option (Int×Int×Int):=
 if k=6 then some (0,0,0)
 else if k=1∨k=4∨k=5 then match ws with
  | a :: b :: _ => match VE a with
    | some x => match VE b with
      | some y=>some (if k=1 then((x:Int),(y:Int),0) else((x:Int),0,(y:Int)))
      | none=>none
    | none=>none
  | _=>none
 else match ws with
  | a :: _ => match VE a with
    | some x=>some ((x:Int),0,0)
    | none=>none
  | []=>none
def ZgL (k:Int):Nat:=if k=6 then 0 else if k=1∨k=4∨k=5 then 2 else 1
theorem Zfp (h:Zez s=(n,true)):VE s=some n:=by rw[ZjC,h];rfl
theorem Zfs (h:Zez s=(n,false)):VE s=none:=by rw[ZjC,h];rfl
end Go.Vm
namespace Go.Vm.Seat
variable {k:Int} {ws:List Z3}
open Go.Proofs
theorem e29:E0.T 29=some ⟨.slice 9,1,24,.nils⟩:=by kernel_rfl
theorem ZcO {L:List (List PV)} {k:Nat} (h:k≤L.length):Z1 E0 29 (.sl .none 1 L) (some (.int .i64 (k:Int))) none none=some (.sl .none 1 (L.drop k)):=by
 have en:nat? (.int .i64 (k:Int))=some k:=by simp[nat?]
 simp only[Z1,e29,e9p,XS,ZcK,en,if_true];show(match(if k≤L.length then some k else none) with|some l=>some (PV.sl (ZcZ .none L.length L.length none) 1 ((L.take L.length).drop l))|none=>none)=_;rw[if_pos h,List.take_length];show some (PV.sl (if L.length=L.length then .none else .none) 1 (L.drop k))=_;rw[if_pos rfl]
abbrev moZ (k a b d:Int):PV:= .agg [.int .i64 k,.int .i64 a,.int .i64 b,.nils,.int .i64 d,.nils]
def Zbg (k:Int) (ws:List Z3):Prop:=match QT k ws with
 |some (a,b,d)=>∀H,CO 61 [moZ k 0 0 0,.sl .none 1 (Zp ws)] H (.tup [moZ k a b d,.sl .none 1 (Zp (ws.drop (ZgL k))),.bool true]) H
 |none=>∃a b d,∀H,CO 61 [moZ k 0 0 0,.sl .none 1 (Zp ws)] H (.tup [moZ k a b d,.sl .none 1 (Zp ws),.bool false]) H
theorem Qb {a b d:Int} (h:QT k ws=some (a,b,d)) (h2:∀H,CO 61 [moZ k 0 0 0,.sl .none 1 (Zp ws)] H (.tup [moZ k a b d,.sl .none 1 (Zp (ws.drop (ZgL k))),.bool true]) H):Zbg k ws:=by unfold Zbg;rw[h];exact h2
theorem UN (h:QT k ws=none) (a b d:Int) (h2:∀H,CO 61 [moZ k 0 0 0,.sl .none 1 (Zp ws)] H (.tup [moZ k a b d,.sl .none 1 (Zp ws),.bool false]) H):Zbg k ws:=by unfold Zbg;rw[h];exact⟨a,b,d,h2⟩
abbrev UI (k a b d:Int):List PV:=[.int .i64 k,.int .i64 a,.int .i64 b,.nils,.int .i64 d,.nils]
theorem Zsx (ws:List Z3):Zbg 6 ws:=by
 refine Qb (a:=0) (b:=0) (d:=0) rfl ?_;have h0:=Zv ((Zp ws).length:Int) 0;rw[decide_eq_false (by omega)]at h0;have hsl:Z1 E0 29 (.sl .none 1 (Zp ws)) (some (.int .i64 0)) none none=some (.sl .none 1 (Zp ws)):=ZcO (k:=0) (Nat.zero_le _);refine Jw tOk fe61.ok rfl ?_;repeat' first|refine Kd ?_|fail
 refine Wp.while (fun m tm H=>∃(base:TM),tm=ovr base [(1,.sl .none 1 (Zp ws)),(2,.ptr 0 6 0 0),(4,.ptr 1 6 0 0),(7,.int .i64 0),(8,.int .i64 0)]∧H=⟨[.cells 6 [UI 6 0 0 0],.cells 6 [UI 0 0 0 0]],0,[],0⟩)
  (fun m tm H hI=>?_) 0 _ _ ⟨_,Zd ⟨rfl,rfl,rfl,rfl,rfl,trivial⟩,rfl⟩
 obtain⟨base,rfl,rfl⟩:=hI;repeat' first|refine Kk ?_|refine Ke ?_|refine Ks ?_|refine Kg ?_|fail
 all_goals rfl
theorem ZeS {c:Nat} (hk:k=1∨k=2∨k=3∨k=4∨k=5∨k=7) (ws:List Z3) (h:QT k ws=none) (hc:c=if k=1∨k=4∨k=5 then 2 else 1) (hl:ws.length<c):Zbg k ws:=by
 refine UN h 0 0 0 ?_;have h0:=Zv ((Zp ws).length:Int) (c:Int);rw[decide_eq_true (by rw[Zu];omega)]at h0;rcases hk with rfl|rfl|rfl|rfl|rfl|rfl;all_goals
  simp at hc
  subst hc
  refine Jw tOk fe61.ok rfl ?_
  repeat' first|refine KF ?_|fail
  all_goals rfl
theorem ZrW (hk:k=2∨k=3∨k=7) (ws:List Z3) (hw:∀x,x∈ws→x.length≤1000000):Zbg k ws:=by
 cases ws with
 |nil=>exact ZeS (c:=1) (by omega) [] (by rcases hk with rfl|rfl|rfl<;>rfl) (by rw[if_neg (by omega)]) (by simp)
 |cons w r=>
  have hc:=c93 w (hw w List.mem_cons_self);have h0:=Zv ((Zp (w::r)).length:Int) 1;rw[decide_eq_false (by rw[Zu,List.length_cons];omega)]at h0;have hsl:Z1 E0 29 (.sl .none 1 (Zp (w::r))) (some (.int .i64 1)) none none=some (.sl .none 1 (Zp r)):=ZcO (k:=1) (by rw[Zu];simp);cases hn:Zez w with
  | mk n ok=>
   rw[hn]at hc;cases ok with
   | false=>
    have hV:=Zfs hn;refine UN (by rcases hk with rfl|rfl|rfl<;>(show(match VE w with|some x=>some ((x:Int),(0:Int),(0:Int))|none=>none)=none)<;>rw[hV]) 0 0 0 ?_;rcases hk with rfl|rfl|rfl;all_goals
     refine Jw tOk fe61.ok rfl ?_
     repeat' first|refine Kd ?_|fail
     refine Wp.while (fun m tm H=>∃(base:TM),tm=ovr base [(1,.sl .none 1 (Zp (w::r))),(2,.ptr 0 6 0 0),(4,.ptr 1 6 0 0),(7,.int .i64 1),(8,.int .i64 0)]∧∃K,K=K∧H=⟨[.cells 6 [UI _ 0 0 0],.cells 6 [UI 0 0 0 0]],0,[],0⟩)
      (fun m tm H hI=>?_) 0 _ _ ⟨_,Zd ⟨rfl,rfl,rfl,rfl,rfl,trivial⟩,0,rfl,rfl⟩
     obtain⟨base,rfl,K, -,rfl⟩:=hI
     repeat' first|refine Jc (hc _) ?_|refine Ka ?_|fail
     all_goals rfl
   | true=>
    have hV:=Zfp hn;refine Qb (a:=(n:Int)) (b:=0) (d:=0) (by rcases hk with rfl|rfl|rfl<;>(show(match VE w with|some x=>some ((x:Int),(0:Int),(0:Int))|none=>none)=some ((n:Int),0,0))<;>rw[hV]) ?_;rcases hk with rfl|rfl|rfl;all_goals
     refine Jw tOk fe61.ok rfl ?_
     repeat' first|refine Kd ?_|fail
     refine Wp.while (fun m tm H=>∃(base:TM) (a:Int) (i:Nat),(i=0∧m=1∧a=0∨i=1∧m=0∧a=n)∧tm=ovr base [(1,.sl .none 1 (Zp (w::r))),(2,.ptr 0 6 0 0),(4,.ptr 1 6 0 0),(7,.int .i64 1),(8,.int .i64 (i:Int))]∧H=⟨[.cells 6 [UI _ a 0 0],.cells 6 [UI 0 0 0 0]],0,[],0⟩)
      (fun m tm H hI=>?_) 1 _ _ ⟨_,0,0,.inl ⟨rfl,rfl,rfl⟩,Zd ⟨rfl,rfl,rfl,rfl,rfl,trivial⟩,rfl⟩
     obtain⟨base,a,i,hc9,rfl,rfl⟩:=hI
     rcases hc9 with⟨rfl,rfl,rfl⟩|⟨rfl,rfl,rfl⟩
     · skip
       repeat' first|refine Jc (hc _) ?_|refine Ka ?_|fail
       exact LoopI.go 0 (by omega) ⟨_,_,1,.inr ⟨rfl,rfl,rfl⟩,Zd ⟨rfl,rfl,rfl,rfl,rfl,trivial⟩,rfl⟩
     · skip
       repeat' first|refine Kk ?_|refine Ke ?_|refine Ks ?_|refine Kg ?_|fail
       all_goals rfl
theorem Zuc (hk:k=1∨k=4∨k=5) (ws:List Z3) (hw:∀x,x∈ws→x.length≤1000000):Zbg k ws:=by
 match ws,hw with
 | [],_=>exact ZeS (c:=2) (by omega) [] (by rcases hk with rfl|rfl|rfl<;>rfl) (by rw[if_pos (by omega)]) (by simp)
 | [x],_=>exact ZeS (c:=2) (by omega) [x] (by rcases hk with rfl|rfl|rfl<;>rfl) (by rw[if_pos (by omega)]) (by simp)
 |u::w::r,hw=>
  have hc:=c93 u (hw u List.mem_cons_self);have hc2:=c93 w (hw w (List.mem_cons_of_mem _ List.mem_cons_self));have h0:=Zv ((Zp (u::w::r)).length:Int) 2;rw[decide_eq_false (by rw[Zu,List.length_cons,List.length_cons];omega)]at h0;have hsl:Z1 E0 29 (.sl .none 1 (Zp (u::w::r))) (some (.int .i64 2)) none none=some (.sl .none 1 (Zp r)):=ZcO (k:=2) (by rw[Zu];simp);have hF:QT k (u::w::r)=match VE u with
   | some x => match VE w with
     | some y=>some (if k=1 then((x:Int),(y:Int),0) else((x:Int),0,(y:Int)))
     | none=>none
   | none=>none:=by rcases hk with rfl|rfl|rfl<;>rfl
  cases hn:Zez u with
  | mk n ok=>
   rw[hn]at hc;cases ok with
   | false=>
    have hV:=Zfs hn;refine UN (by rw[hF,hV]) 0 0 0 ?_;clear hF;rcases hk with rfl|rfl|rfl;all_goals
     refine Jw tOk fe61.ok rfl ?_
     repeat' first|refine KF ?_|fail
     refine Wp.while (fun m tm H=>∃(base:TM),tm=ovr base [(1,.sl .none 1 (Zp (u::w::r))),(2,.ptr 0 6 0 0),(4,.ptr 1 6 0 0),(7,.int .i64 2),(8,.int .i64 0)]∧H=⟨[.cells 6 [UI _ 0 0 0],.cells 6 [UI 0 0 0 0]],0,[],0⟩)
      (fun m tm H hI=>?_) 0 _ _ ⟨_,Zd ⟨rfl,rfl,rfl,rfl,rfl,trivial⟩,rfl⟩
     obtain⟨base,rfl,rfl⟩:=hI
     repeat' first|refine Jc (hc _) ?_|refine Ka ?_|fail
     all_goals rfl
   | true=>
    have hV:=Zfp hn;cases hn2:Zez w with
    | mk n2 ok2=>
     rw[hn2]at hc2;cases ok2 with
     | false=>
      have hV2:=Zfs hn2;refine UN (by rw[hF,hV,hV2]) n 0 0 ?_;clear hF;rcases hk with rfl|rfl|rfl;all_goals
       refine Jw tOk fe61.ok rfl ?_
       repeat' first|refine KF ?_|fail
       refine Wp.while (fun m tm H=>∃(base:TM) (a:Int) (i:Nat),(i=0∧m=1∧a=0∨i=1∧m=0∧a=n)∧tm=ovr base [(1,.sl .none 1 (Zp (u::w::r))),(2,.ptr 0 6 0 0),(4,.ptr 1 6 0 0),(7,.int .i64 2),(8,.int .i64 (i:Int))]∧H=⟨[.cells 6 [UI _ a 0 0],.cells 6 [UI 0 0 0 0]],0,[],0⟩)
        (fun m tm H hI=>?_) 1 _ _ ⟨_,0,0,.inl ⟨rfl,rfl,rfl⟩,Zd ⟨rfl,rfl,rfl,rfl,rfl,trivial⟩,rfl⟩
       obtain⟨base,a,i,hc9,rfl,rfl⟩:=hI
       rcases hc9 with⟨rfl,rfl,rfl⟩|⟨rfl,rfl,rfl⟩
       · skip
         repeat' first|refine Jc (hc _) ?_|refine Ka ?_|fail
         exact LoopI.go 0 (by omega) ⟨_,_,1,.inr ⟨rfl,rfl,rfl⟩,Zd ⟨rfl,rfl,rfl,rfl,rfl,trivial⟩,rfl⟩
       · skip
         repeat' first|refine Jc (hc2 _) ?_|refine Ka ?_|fail
         all_goals rfl
     | true=>
      have hV2:=Zfp hn2;rw[hV,hV2]at hF;simp only at hF;by_cases h1:k=1
      ·subst h1;refine Qb hF ?_;clear hF;refine Jw tOk fe61.ok rfl ?_;(repeat' first|refine KF ?_|fail);refine Wp.while (fun m tm H=>∃(base:TM) (a b d:Int) (i:Nat),(i=0∧m=2∧a=0∧b=0∧d=0∨i=1∧m=1∧a=n∧b=0∧d=0∨i=2∧m=0∧a=n∧b=n2∧d=0)∧tm=ovr base [(1,.sl .none 1 (Zp (u::w::r))),(2,.ptr 0 6 0 0),(4,.ptr 1 6 0 0),(7,.int .i64 2),(8,.int .i64 (i:Int))]∧H=⟨[.cells 6 [UI _ a b d],.cells 6 [UI 0 0 0 0]],0,[],0⟩)
        (fun m tm H hI=>?_) 2 _ _ ⟨_,0,0,0,0,.inl ⟨rfl,rfl,rfl,rfl,rfl⟩,Zd ⟨rfl,rfl,rfl,rfl,rfl,trivial⟩,rfl⟩
       obtain⟨base,a,b,d,i,hc9,rfl,rfl⟩:=hI;rcases hc9 with⟨rfl,rfl,rfl,rfl,rfl⟩|⟨rfl,rfl,rfl,rfl,rfl⟩|⟨rfl,rfl,rfl,rfl,rfl⟩;{skip;(repeat' first|refine Jc (hc _) ?_|refine Ka ?_|fail);exact LoopI.go 1 (by omega) ⟨_,_,_,_,1,.inr (.inl ⟨rfl,rfl,rfl,rfl,rfl⟩),Zd ⟨rfl,rfl,rfl,rfl,rfl,trivial⟩,rfl⟩};{skip;(repeat' first|refine Jc (hc2 _) ?_|refine Kd ?_|fail);exact LoopI.go 0 (by omega) ⟨_,_,_,_,2,.inr (.inr ⟨rfl,rfl,rfl,rfl,rfl⟩),Zd ⟨rfl,rfl,rfl,rfl,rfl,trivial⟩,rfl⟩};{skip;(repeat' first|refine Kk ?_|refine Ke ?_|refine Ks ?_|refine Kg ?_|fail);all_goals rfl}
      ·(have hk2 : k = 4 ∨ k = 5 := by omega);rw[if_neg h1]at hF;clear hk h1;rcases hk2 with rfl|rfl;all_goals
        refine Qb hF ?_
        clear hF
        refine Jw tOk fe61.ok rfl ?_
        repeat' first|refine KF ?_|fail
        refine Wp.while (fun m tm H=>∃(base:TM) (a b d:Int) (i:Nat),(i=0∧m=2∧a=0∧b=0∧d=0∨i=1∧m=1∧a=n∧b=0∧d=0∨i=2∧m=0∧a=n∧b=0∧d=n2)∧tm=ovr base [(1,.sl .none 1 (Zp (u::w::r))),(2,.ptr 0 6 0 0),(4,.ptr 1 6 0 0),(7,.int .i64 2),(8,.int .i64 (i:Int))]∧H=⟨[.cells 6 [UI _ a b d],.cells 6 [UI 0 0 0 0]],0,[],0⟩)
         (fun m tm H hI=>?_) 2 _ _ ⟨_,0,0,0,0,.inl ⟨rfl,rfl,rfl,rfl,rfl⟩,Zd ⟨rfl,rfl,rfl,rfl,rfl,trivial⟩,rfl⟩
        obtain⟨base,a,b,d,i,hc9,rfl,rfl⟩:=hI
        rcases hc9 with⟨rfl,rfl,rfl,rfl,rfl⟩|⟨rfl,rfl,rfl,rfl,rfl⟩|⟨rfl,rfl,rfl,rfl,rfl⟩
        · skip
          repeat' first|refine Jc (hc _) ?_|refine Ka ?_|fail
          exact LoopI.go 1 (by omega) ⟨_,_,_,_,1,.inr (.inl ⟨rfl,rfl,rfl,rfl,rfl⟩),Zd ⟨rfl,rfl,rfl,rfl,rfl,trivial⟩,rfl⟩
        · skip
          repeat' first|refine Jc (hc2 _) ?_|refine Kd ?_|fail
          exact LoopI.go 0 (by omega) ⟨_,_,_,_,2,.inr (.inr ⟨rfl,rfl,rfl,rfl,rfl⟩),Zd ⟨rfl,rfl,rfl,rfl,rfl,trivial⟩,rfl⟩
        · skip
          repeat' first|refine Kk ?_|refine Ke ?_|refine Ks ?_|refine Kg ?_|fail
          all_goals rfl
theorem ZtL (h1:1≤k) (h7:k≤7) (ws:List Z3) (hw:∀x,x∈ws→x.length≤1000000):Zbg k ws:=by rcases(show k=6∨(k=2∨k=3∨k=7)∨(k=1∨k=4∨k=5) by omega) with rfl|h|h;{exact Zsx ws};{exact ZrW h ws hw};{exact Zuc h ws hw}
