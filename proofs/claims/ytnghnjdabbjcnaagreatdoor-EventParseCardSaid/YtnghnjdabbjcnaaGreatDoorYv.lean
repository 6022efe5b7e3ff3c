/-
  Both texts read a line alike.
-/
import Derived.Test.YtnghnjdabbjcnaaGreatDoorYr
set_option maxHeartbeats 0
set_option maxRecDepth 100000
namespace Go.Vm
theorem Zrq (s:Z3):(Lib.index s [10]= -1∧Lib.cut s [10]=(s,[],false)∧spl [10] s= [s])∨(∃x r,Lib.cut s [10]=(x,r,true)∧spl [10] s=x::spl [10] r∧x.length+1+r.length=s.length):=by have hge:=Lib.index_ge s [10];have hix:=Ziu (sep:=[10]) (by simp) s;by_cases h:Lib.index s [10]= -1;{refine .inl ⟨h,?_,?_⟩;{rw[Lib.cut,if_neg (by omega)]};{rw[hix,if_pos h]}};{have hro:=Lib.index_room s [10] (by omega);rw[List.length_singleton]at hro;refine .inr ⟨s.take (Lib.index s [10]).toNat,s.drop ((Lib.index s [10]).toNat+1),?_,?_,?_⟩;{rw[Lib.cut,if_pos (by omega)];rfl};{rw[hix,if_neg h];rfl};{rw[List.length_drop,List.length_take];omega}}
theorem Znh:∀(l:List Mo) (S:FSt) (i:Nat),0≤(Zfu S l i).1∧(Zfu S l i).1≤i+l.length
 | [],S,i=>by simp[Zfu]
 |m::r,S,i=>by have ih:=Znh r (S.nxt m) (i+1);rw[List.length_cons];simp only[Zfu];split;{simp only;omega};{omega}
theorem Zld (l:List Mo): -1≤(Yf l).1∧(Yf l).1≤400:=by unfold Yf;split;{exact⟨by simp,by simp⟩};{have:=Znh l ⟨[],[],[]⟩ 0;omega}
theorem Zdh {s:Z3} (h:∀m,YE s=some m→XN s=some m) (hs:s.length≤2000) {m:Mo} (hm:YE s=some m):m.Sm∧1≤s.length:=⟨ZcX hs (h m hm),Zdo (h m hm)⟩
end Go.Vm
namespace Go.Vm.Seat
open Go.Proofs
theorem c12 (hPR:∀s:Z3,s.length≤2000→YE s=XN s) {S:Z3} (hS:S.length≤2000):∀H,CO 12 [.str S] H (.tup [slV true 6 (moC (VO YE Yf (spl [10] S) 0 []).1),.int .i64 (VO YE Yf (spl [10] S) 0 []).2.1,.int .i64 (VO YE Yf (spl [10] S) 0 []).2.2]) H:=by
 obtain⟨res,hres⟩:∃res,res=PV.tup [slV true 6 (moC (VO YE Yf (spl [10] S) 0 []).1),.int .i64 (VO YE Yf (spl [10] S) 0 []).2.1,.int .i64 (VO YE Yf (spl [10] S) 0 []).2.2]:=⟨_,rfl⟩;rw[← hres];have hfr:frz3 0 hNil res=some res:=by rw[hres];exact ZgB _ _ _ _ _ _
 refine Jw tOk fe12.ok hfr ?_;repeat' first|refine Jo ?_|fail
 refine Wp.while (fun m tm H => ∃(i : Nat) (T : Z3) (acc : List Mo) (base : TM) (o : PV) (lv : List Nat) (nt : Nat), T.length ≤ m ∧ 2 * i + T.length ≤ S.length ∧ acc.length = i ∧ (∀x, x ∈ acc → x.Sm) ∧ VO YE Yf (spl [10] S) 0 [] = VO YE Yf (spl [10] T) i acc ∧ ApV true 6 (moC acc) o lv nt ∧
   tm=ovr base [(0,.str T),(5,o),(6,.int .i64 (i:Int))]∧H=⟨[],0,lv,nt⟩)
  (fun m tm H hI=>Wp.drop ?_) S.length _ _ ⟨0,S,[],_,.nils,[],0,Nat.le_refl _,by omega,rfl,by simp,rfl,.nil _ _ rfl,Zd ⟨rfl,rfl,rfl,trivial⟩,rfl⟩
 obtain⟨i,T,acc,base,o,lv,nt,hTm,h2i,hal,hsm,hpar,hO,rfl,rfl⟩:=hI;rw[hpar]at hres;have hns:=Zqq T [];by_cases hT0:T= [];{subst hT0;rw[decide_eq_true rfl]at hns;rw[show spl [10] []= [[]] from rfl,UM,if_pos rfl]at hres;have hTr:TrS acc:=⟨by omega,hsm⟩;have kF:=fun H=>ZX (c22 hTr true H) (args:=[o]) (by simp only[ZG,hO.frzG]);unfold Zi4 at hres;have n1:=Up (Yf acc).2 0;by_cases h0:(Yf acc).2=0;{rw[decide_eq_true h0]at n1;rw[if_neg (by omega)]at hres;rw[h0]at kF n1;generalize (Yf acc).1=z at kF;have hfz:=fun (a b:Int) (m:Nat) (H:Heap)=>ZfY hO a b m H;clear hpar hO hfr;subst hres;(repeat' first|refine Jc (kF _) ?_|refine Kk ?_|fail);all_goals exact hfz _ _ _ _};{rw[decide_eq_false h0]at n1;rw[if_pos h0]at hres;simp only[moC,List.map_nil,Zi]at hres;obtain⟨z,hz⟩:∃z,z=(Yf acc).1:=⟨_,rfl⟩;rw[← hz]at kF hres;(have had:YS E0 .add 3 (.int .i64 z) (.int .i64 1)=some (.int .i64 (z+1)):=by have hzb:=Zld acc;rw[← hz]at hzb;exact Wa (by omega) (by omega));generalize (Yf acc).2=e at kF hres n1;clear hpar hO hfr h0 hz;subst hres;(repeat' first|refine Jc (kF _) ?_|refine Kk ?_|fail);all_goals rfl}}
 ·rw[decide_eq_false hT0]at hns;have hii:=Wa (a:=(i:Int)) (b:=1) (by omega) (by omega);rw[show(i:Int)+1=((i+1:Nat):Int) by omega]at hii;have cC:=c24 (s:=T) (sep:=[10]) (by omega);rcases Zrq T with⟨-,hc,hs⟩|⟨x,r,hc,hs,hxr⟩;{rw[hc]at cC;rw[hs,UM,if_neg hT0,show((i:Int)+1)=((i+1:Nat):Int) by omega]at hres;simp only[moC,List.map_nil,Zi]at hres cC;clear hpar hO hfr;subst hres;(repeat' first|refine Jc (cC _) ?_|refine Kd ?_|fail);all_goals rfl}
  ·rw[hc]at cC;rw[hs]at hres hpar;simp only at cC;obtain⟨y,ok,hy,cR⟩:=c25 (s:=x) (by omega);have hne:=Va [10] r;cases ok with
   | false=>rw[Ze1 hne (by rw[hy];rfl),show((i:Int)+1)=((i+1:Nat):Int) by omega]at hres;simp only[moC,List.map_nil,Zi]at hres;obtain⟨kd,nu,ro,an,ag,go,tn,te⟩:=y;simp only[Mo.cells]at cR;clear hy hpar hO hfr;subst hres;(repeat' first|refine Jc (cC _) ?_|refine Jc (cR _) ?_|refine Kd ?_|fail);all_goals rfl
   | true=>(have hy:YE x=some y:=by rw[hy];rfl);obtain⟨hys,hx1⟩:=Zdh (fun m hm=>by rw[← hPR x (by omega)];exact hm) (by omega) hy;rw[ZcH hne hy]at hpar hres;obtain⟨o2,lv2,nt2,hap,hO2, -⟩:=hO.app Zng (.sl .full 6 (moC [y])) (Zm3 _) (ZQ (by rw[WX];simp[WX];omega) (by decide)) (Zjs _);rw[← Zbq]at hO2;have hun:=hO2.under;(have hsm2:∀z,z∈acc++ [y]→z.Sm:=fun z hz=>by rcases List.mem_append.1 hz with hz|hz;{exact hsm z hz};{rw[List.mem_singleton]at hz;subst hz;exact hys});(have hal2:(acc++ [y]).length=i+1:=by simp[hal]);generalize acc++ [y]=acc2 at hO2 hpar hres hsm2 hal2;obtain⟨kd,nu,ro,an,ag,go,tn,te⟩:=y;simp only[moC,List.map_cons,List.map_nil,Mo.cells]at cR hap;clear hy hO hfr hys hne;(repeat' first|refine Jc (cC _) ?_|refine Jc (cR _) ?_|refine Kv ?_|refine Kd ?_|fail);refine DropQ.go [(0,.str r),(5,o2),(6,.int .i64 ((i+1:Nat):Int))] ⟨rfl,rfl,rfl,trivial⟩ (by simp[under,hun]) rfl rfl ?_;exact LoopI.go (m-1) (by omega) ⟨i+1,r,acc2,_,o2,lv2,nt2,by omega,by omega,hal2,hsm2,hpar,hO2,rfl,rfl⟩
end Go.Vm.Seat
namespace Go.Vm
variable {w:List UInt8} {d:Nat}
theorem Zjx (h:0≤V7 w):wdF (V7 w)=w:=by unfold V7 at h ⊢;split;{rename_i e;rw[e];rfl};split;{rename_i e;rw[e];rfl};split;{rename_i e;rw[e];rfl};split;{rename_i e;rw[e];rfl};split;{rename_i e;rw[e];rfl};split;{rename_i e;rw[e];rfl};{rename_i h1 h2 h3 h4 h5 h6;rw[if_neg h1,if_neg h2,if_neg h3,if_neg h4,if_neg h5,if_neg h6]at h;omega}
theorem ZiG {v:Bool} {nm s:List UInt8} {t:Tm} {r:List UInt8} (h:Us v nm s=some (t,r)):wT t++r=(if v=true then[63] else[])++(nm++s):=by
 unfold Us at h;by_cases h1:Z7 [58] s=true
 ·rw[if_pos h1]at h;obtain⟨q,rfl⟩:=XY h1;rw[show(58::q:List UInt8).drop 1=q from rfl]at h;have hd:=X8 q;by_cases h2:(if v=true then(1:Int) else 0)≤V7 (ZZ q)
  ·rw[if_pos h2]at h;simp only[Option.some.injEq,Prod.mk.injEq]at h;obtain⟨rfl,rfl⟩:=h;cases v with
   | true=>rw[if_pos rfl]at h2;rw[if_pos rfl,if_pos rfl,wT,if_neg (by decide),if_pos rfl,if_neg (by omega),Zjx (by omega)];(conv=>rhs;rw[hd]);simp
   | false=>rw[if_neg (by decide)]at h2;rw[if_neg (by decide),if_neg (by decide),wT,if_neg (by decide),if_neg (by decide),Zjx (by omega)];(conv=>rhs;rw[hd]);simp
  {rw[if_neg h2]at h;cases h}
 ·rw[if_neg h1]at h;cases v with
  | true=>rw[if_pos rfl]at h;simp only[Option.some.injEq,Prod.mk.injEq]at h;obtain⟨rfl,rfl⟩:=h;rw[wT,if_neg (by decide),if_pos rfl,if_pos rfl];simp
  | false=>rw[if_neg (by decide)]at h;cases h
theorem ZmP {f:List UInt8→Option (Tm×List UInt8)} (hf:∀s t r,f s=some (t,r)→wT t++r=s):∀(n:Nat) (acc:List Tm) (s:List UInt8) (l:List Tm) (r:List UInt8),QX f n acc s=some (l,r)→wL l true++(41::r)=wL acc true++s
 |0,acc,s,l,r,h=>by cases h
 |n+1,acc,s,l,r,h=>by
  unfold QX at h;split at h;{rename_i h1;obtain⟨q,rfl⟩:=XY h1;simp only[Option.some.injEq,Prod.mk.injEq]at h;obtain⟨rfl,rfl⟩:=h;rfl}
  ·split at h;{cases h}
   ·rename_i h1 h2;split at h;{cases h}
    ·rename_i x hx;obtain⟨t,q⟩:=x;have h3:=hf _ _ _ hx;have h4:=ZmP hf n (acc++ [t]) q l r h;rw[h4,Zjv];by_cases ha:acc= [];{subst ha;rw[if_pos rfl]at h3;simp only[wL,List.isEmpty_nil,Bool.and_self,if_true,List.nil_append,List.append_nil];exact h3}
     ·rw[if_neg ha]at h3;have h5:Z7 [44,32] s=true:=by
       cases h9:Z7 [44,32] s with
       | true=>rfl
       | false=>exact absurd ⟨ha,h9⟩ h2
      obtain⟨z,rfl⟩:=(ZqS _ _ _).1 h5;(have he:acc.isEmpty=false:=by cases acc with|nil=>exact absurd rfl ha|cons _ _=>rfl);rw[show(44::32::z:List UInt8).drop 2=z from rfl]at h3;simp only[wL,he,Bool.and_false,Bool.false_eq_true,if_false,List.append_nil,List.append_assoc];rw[h3];rfl
theorem ZpA:∀(d:Nat) (s:List UInt8) (t:Tm) (r:List UInt8),rdF d s=some (t,r)→wT t++r=s
 |0,s,t,r,h=>by cases h
 |d+1,s,t,r,h=>by
  simp only[rdF]at h;by_cases hv:Z7 [63] s=true;{simp only[if_pos hv]at h;have hd:=X8 (s.drop 1);by_cases h1:Z5 (ZZ (s.drop 1))=false;{rw[if_pos h1]at h;cases h};{rw[if_neg h1]at h;have h2:=ZiG h;rw[if_pos rfl, ← hd]at h2;rw[h2];obtain⟨q,rfl⟩:=XY hv;rfl}}
  ·simp only[if_neg hv]at h;have hd:=X8 s;by_cases h1:Z5 (ZZ s)=false;{rw[if_pos h1]at h;cases h}
   ·rw[if_neg h1]at h;by_cases h40:Z7 [40] (s.drop (ZZ s).length)=true
    ·rw[if_pos h40]at h;cases hx:QX (rdF d) (s.drop (ZZ s).length).length [] ((s.drop (ZZ s).length).drop 1) with
     | none=>rw[hx]at h;cases h
     | some x=>obtain⟨l,q⟩:=x;rw[hx]at h;simp only[Option.some.injEq,Prod.mk.injEq]at h;obtain⟨rfl,rfl⟩:=h;have h3:=ZmP (fun s t r=>ZpA d s t r) _ _ _ _ _ hx;obtain⟨z,hz⟩:=XY h40;rw[hz,show(40::z:List UInt8).drop 1=z from rfl]at h3;rw[hz]at hd;(conv=>rhs;rw[hd]);rw[wL,List.nil_append]at h3;rw[wT,if_pos rfl, ← h3];simp
    {rw[if_neg h40]at h;have h2:=ZiG h;rw[if_neg (by decide), ← hd]at h2;simpa using h2}
theorem Zrb {x:List UInt8} (h0:(XH d x).2=0):wT (XH d x).1=x:=by
 cases hd:rdF d x with
 |none=>rw[ZaX hd]at h0;cases h0
 |some y=>
  obtain⟨t,s⟩:=y;cases s with
  | cons c s=>rw[Vl hd]at h0;cases h0
  | nil=>by_cases hv:t.valid=0;{rw[UR hd hv];have:=ZpA _ _ _ _ hd;simpa using this};{rw[Qh hd hv]at h0;exact absurd h0 hv}
theorem Zj9:∀{l:List Z3},(∀x,x∈l→x.length≤2000)→QS l=QO l
 | [],_=>rfl
 |x::r,h=>by rw[QS,QO,Zmi (h x List.mem_cons_self),Zj9 fun y hy=>h y (List.mem_cons_of_mem _ hy)];rfl
theorem Zfw:∀{l:List Z3} {ts:List Tm},QO l=some ts→ts.map wT=l
 | [],ts,h=>by simp[QO]at h;subst h;rfl
 |x::r,ts,h=>by
  by_cases h0:(XH 800 x).2=0
  ·rw[ZcG h0]at h;cases hr:QO r with
   | none=>rw[hr]at h;cases h
   | some l=>rw[hr]at h;cases h;rw[List.map_cons,Zrb h0,Zfw hr]
  {rw[ZeC h0]at h;cases h}
theorem ZkC:∀(s:List UInt8) (a n:Nat),Vi a s=some n→a≤n
 | [],a,n,h=>by simp[Vi]at h;omega
 |c::r,a,n,h=>by rw[Vi]at h;split at h;{have:=ZkC r _ n h;omega};{cases h}
theorem Zbt:∀(s:List UInt8) (a n:Nat),Vi a s=some n→n≤999999→Lib.parseUint10 a s= .ok n
 | [],a,n,h,_=>by simp[Vi]at h;subst h;rfl
 |c::r,a,n,h,hn=>by rw[Vi]at h;split at h;{rename_i hd;(have hd:48≤c.toNat∧c.toNat≤57:=by simpa[Ziy] using hd);have hle:=ZkC r _ n h;rw[Lib.parseUint10,if_pos hd,if_neg (by omega),if_neg (by omega),Nat.mul_comm a 10];exact Zbt r _ n h hn};{cases h}
theorem VW {n:Nat} (h:VE w=some n):QK w=some (n:Int)∧Lib.itoa (n:Int)=w:=by
 have hle:=Zcg h;unfold VE at h;split at h;{cases h}
 ·rename_i hl;split at h
  ·rename_i m hv;split at h
   ·rename_i hd;cases h;refine⟨?_,by rw[Lib.itoa_nonneg];exact hd⟩;cases w with
    | nil=>simp at hl
    | cons c r=>(have hc:48≤c.toNat∧c.toNat≤57:=by rw[Vi]at hv;split at hv;{rename_i h9;simpa[Ziy] using h9};{cases hv});have hp:=Zbt _ _ _ hv hle;(have hA:Lib.atoiAll (c::r)= .ok (n:Int):=by simp only[Lib.atoiAll];rw[if_neg (by omega),Lib.parseMag,if_neg (by simp),hp];simp only;rw[if_neg (by omega),if_neg (by omega),if_neg (by omega)]);unfold QK;rw[hA];exact if_neg (by omega)
   {cases h}
  {cases h}
theorem Zd6:∀(s:List UInt8) (a n:Nat) (c:UInt8),Vi a s=some n→Ziy c=true→Vi a (s++ [c])=some (10*n+(c.toNat-48))
 | [],a,n,c,h,hc=>by simp[Vi]at h;subst h;simp[Vi,hc]
 |x::r,a,n,c,h,hc=>by rw[Vi]at h;rw[List.cons_append,Vi];split at h;{rename_i hd;rw[if_pos hd];exact Zd6 r _ n c h hc};{cases h}
theorem Zqz (hd:d<10):Ziy (UInt8.ofNat (48+d))=true∧(UInt8.ofNat (48+d)).toNat-48=d:=by rcases(show d=0∨d=1∨d=2∨d=3∨d=4∨d=5∨d=6∨d=7∨d=8∨d=9 by omega) with rfl|rfl|rfl|rfl|rfl|rfl|rfl|rfl|rfl|rfl<;>decide
theorem Zad:∀(f u:Nat),u<10 ^ f→Vi 0 (Lib.decDigits u)=some u
 |0,u,h=>by
  have:u=0:=by simpa using h
  subst this;rw[Zpu (by omega)];simp[Vi,Ziy]
 |f+1,u,h=>by by_cases hlt:u<10;{rw[Zpu hlt];have:=Zqz hlt;rw[Vi,if_pos this.1,Vi,this.2];simp};{rw[ZrJ hlt];have hb:=Zqz (d:=u % 10) (by omega);rw[Zd6 _ _ (u / 10) _ (Zad f (u / 10) (by rw[Nat.pow_succ]at h;omega)) hb.1,hb.2];congr 1;omega}
end Go.Vm
namespace Go.Vm.Seat
end Go.Vm.Seat
namespace Go.Vm
variable {v:Int}
theorem Zb6 {sep:List UInt8} (hs:sep≠ []):∀(n:Nat) (s:List UInt8),s.length≤n→∀x l,spl sep s=x::l→s=x++l.flatMap (sep++ ·)
 |n,s,hn,x,l,h=>by
  have hge:=Lib.index_ge s sep;rw[Ziu hs]at h;by_cases h9:Lib.index s sep= -1;{rw[if_pos h9]at h;cases h;simp}
  ·rw[if_neg h9]at h;rcases Lib.index_spec s sep with⟨h8, -⟩|⟨i,hi,hil,hocc, -⟩;{exact absurd h8 h9}
   ·have hro:=Lib.index_room s sep (by omega);have h1:1≤sep.length:=List.length_pos_iff.2 hs;rw[hi,Int.toNat_natCast]at h;rw[hi]at hro;simp only[List.cons.injEq]at h;obtain⟨rfl,h⟩:=h;have hp:sep.isPrefixOf (s.drop i)=true:=hocc;rw[List.isPrefixOf_iff_prefix]at hp;obtain⟨q,hq⟩:=hp;cases n with
    | zero=>omega
    | succ n=>
     cases hl:spl sep (s.drop (i+sep.length)) with
     | nil=>exact absurd hl (Va _ _)
     | cons y r=>have ih:=Zb6 hs n (s.drop (i+sep.length)) (by rw[List.length_drop];omega) y r hl;rw[hl]at h;subst h;(have e:s.drop (i+sep.length)=q:=by rw[← List.drop_drop, ← hq,List.drop_left]);rw[e]at ih;rw[List.flatMap_cons,List.append_assoc, ← ih,hq,List.take_append_drop]
theorem Zde:∀(x:Z3) (l:List Z3),W6 [32] (x::l)=x++l.flatMap ([32]++ ·)
 |x,[]=>by simp[W6]
 |x,y::r=>by rw[W6,List.flatMap_cons,Zde y r,List.append_assoc]
theorem Zfr {c:UInt8}:∀(s cur:List UInt8),c∉cur→∀x,x∈spW [c] 0 cur s→c∉x
 | [],cur,hc,x,hx=>by rw[UC]at hx;rw[List.mem_singleton]at hx;subst hx;exact hc
 |d::r,cur,hc,x,hx=>by
  rw[spW]at hx;split at hx;{rcases List.mem_cons.1 hx with rfl|hx;{exact hc};{exact Zfr r [] (by simp) x hx}}
  ·rename_i h;rw[Ud,decide_eq_true_eq]at h;exact Zfr r (cur++ [d]) (by
    intro h9
    rcases List.mem_append.1 h9 with h9|h9
    · exact hc h9
    · rw[List.mem_singleton]at h9;exact h h9.symm) x hx
theorem ZgR:∀(s:List UInt8) (a n:Nat),Vi a s=some n→∀c,c∈s→Ziy c=true
 |x::r,a,n,h,c,hc=>by rw[Vi]at h;split at h;{rename_i hd;rcases List.mem_cons.1 hc with rfl|hc;{exact hd};{exact ZgR r _ n h c hc}};{cases h}
theorem ZnA (h0:0≤v) (h9:v≤999999):32∉Lib.itoa v:=by obtain⟨u,rfl⟩:∃u:Nat,v=(u:Int):=⟨v.toNat,by omega⟩;rw[Lib.itoa_nonneg];intro h;have:=ZgR _ _ _ (Zad 6 u (by omega)) 32 h;exact absurd this (by decide)
theorem ZkD (h0:0≤v) (h9:v≤999999):VE (Lib.itoa v)=some v.toNat:=by
 obtain⟨u,rfl⟩:∃u:Nat,v=(u:Int):=⟨v.toNat,by omega⟩;rw[Lib.itoa_nonneg,Int.toNat_natCast];have hl:=Lib.decDigits_length u;have h1:1≤(Lib.decDigits u).length:=by
  cases h:Lib.decDigits u with
  | nil =>
    have hv:=Zad 6 u (by omega)
    by_cases hlt:u<10
    · rw[Zpu hlt]at h;cases h
    · rw[ZrJ hlt]at h;simp at h
  | cons c r=>simp
 have h6:(Lib.decDigits u).length≤6:=by
  rcases(show u<10∨(10≤u∧u<100)∨(100≤u∧u<1000)∨(1000≤u∧u<10000)∨(10000≤u∧u<100000)∨(100000≤u∧u<1000000) by omega) with h|h|h|h|h|h;all_goals
   repeat first|rw[Zpu (by omega)]|rw[ZrJ (by omega),List.length_append,List.length_singleton]
   simp
 unfold VE;rw[if_neg (by omega),Zad 6 u (by omega)];simp
theorem ZqQ:∀{u u' v v':Z3},32∉u→32∉u'→u++32::v=u'++32::v'→u=u'∧v=v'
 | [],[],v,v',_,_,h=>⟨rfl,by simpa using h⟩
 | [],d::r,v,v',_,hu',h=>by simp only[List.nil_append,List.cons_append,List.cons.injEq]at h;exact absurd (by rw[← h.1];exact List.mem_cons_self) hu'
 |c::r,[],v,v',hu,_,h=>by simp only[List.nil_append,List.cons_append,List.cons.injEq]at h;exact absurd (by rw[h.1];exact List.mem_cons_self) hu
 |c::r,d::q,v,v',hu,hu',h=>by simp only[List.cons_append,List.cons.injEq]at h;obtain⟨rfl,h⟩:=h;obtain⟨e1,e2⟩:=ZqQ (fun h9=>hu (List.mem_cons_of_mem _ h9)) (fun h9=>hu' (List.mem_cons_of_mem _ h9)) h;exact⟨by rw[e1],e2⟩
theorem Zrl {w:Z3}:∀n,kdP w n≠0→nmK (kdP w n)=w
 |0,h=>absurd rfl h
 |n+1,h=>by rw[kdP]at h ⊢;split;{rename_i e;show nmsL.getD ((n+1:Nat):Int).toNat []=w;rw[Int.toNat_natCast, ← e]};{rename_i e;rw[if_neg e]at h;exact Zrl n h}
theorem Zj5:∀l:List Tm,(l.flatMap tfT).flatMap ([32]++ ·)=(l.map wT).flatMap ([32,124,32]++ ·)
 | []=>rfl
 |t::r=>by rw[List.flatMap_cons,List.flatMap_append,Zj5 r,List.map_cons,List.flatMap_cons];simp[tfT]
theorem Zf5 {s h w:Z3} {ws ts:List Z3} {m:Mo} (hs:s=h++ts.flatMap ([32,124,32]++ ·)) (hh:h=w++ws.flatMap ([32]++ ·)) (hw:nmK m.kind=w) (hl:m.terms.map wT=ts):Vp m=s↔(ZkT m++m.agents).flatMap ([32]++ ·)=ws.flatMap ([32]++ ·):=by
 have e:Vp m=w++((ZkT m++m.agents).flatMap ([32]++ ·)++ts.flatMap ([32,124,32]++ ·)):=by unfold Vp ZlO;rw[List.cons_append,List.cons_append,Zde,List.flatMap_append,Zj5,hl,hw]
 rw[e,hs,hh,List.append_assoc,List.append_cancel_left_eq,List.append_cancel_right_eq]
end Go.Vm
namespace Go.Vm.Seat
end Go.Vm.Seat
namespace Go.Vm
variable {h s u w:Z3} {ag ts ws:List Z3} {K a b d v:Int}
theorem Zod (l:List Z3):(l.any fun a=> !YV a)= !(l.all Z5):=by
 induction l with
 |nil=>rfl
 |cons a r ih=>rw[List.any_cons,List.all_cons,ih,ZjV];simp
def Zm7 (K:Int) (ts:List Z3) (a b d:Int) (ag:List Z3):Option Mo:=if(ag.all Z5)=false then none else match QO ts with
 |none=>none
 |some l=>if Vy (.mk K a b true ag d true l)=true then some (.mk K a b true ag d true l) else none
theorem ZoF (hs:s=h++ts.flatMap ([32,124,32]++ ·)) (hh:h=w++ws.flatMap ([32]++ ·)) (hw:nmK K=w) (hts:∀x,x∈ts→x.length≤2000) (hn:(ZkT (.mk K a b true ag d true [])++ag).flatMap ([32]++ ·)=ws.flatMap ([32]++ ·)):Zct s K ts a b d ag=Zm7 K ts a b d ag:=by
 unfold Zct Zm7;rw[Zj9 hts];cases hT:QO ts with
 |none=>simp
 |some l=>simp only;unfold Zpx;have hl:Vp (.mk K a b true ag d true l)=s:=(Zf5 (m:= .mk K a b true ag d true l) hs hh hw (Zfw hT)).2 hn;rw[Zod];simp only;by_cases h1:ag.all Z5=false;{rw[if_pos h1,if_neg (fun h9=>by have:=h9.2.1;rw[h1]at this;cases this)]};{(have h1:ag.all Z5=true:=by simpa using h1);(have hne:¬ (ag.all Z5=false):=by rw[h1];simp);rw[if_neg hne];by_cases h2:Vy (.mk K a b true ag d true l)=true;{rw[if_pos h2,if_pos ⟨h2,by rw[h1];rfl,hl⟩]};{rw[if_neg h2,if_neg (fun h9=>h2 h9.1)]}}
theorem Zqk (hs:s=h++ts.flatMap ([32,124,32]++ ·)) (hh:h=w++ws.flatMap ([32]++ ·)) (hw:nmK K=w) (hts:∀x,x∈ts→x.length≤2000) (hn:¬ (ZkT (.mk K a b true ag d true [])++ag).flatMap ([32]++ ·)=ws.flatMap ([32]++ ·)):Zct s K ts a b d ag=none:=by
 unfold Zct;rw[Zj9 hts];cases hT:QO ts with
 |none=>rfl
 |some l=>simp only;unfold Zpx;rw[if_neg (fun h9=>hn ((Zf5 (m:= .mk K a b true ag d true l) hs hh hw (Zfw hT)).1 h9.2.2))]
theorem ZmU (h:QK u=some v):0≤v∧v≤999999:=by unfold QK at h;split at h;{split at h;{cases h};{cases h;omega}};{cases h}
theorem Zfh (h:QK u=some v) (hu:u=Lib.itoa v):∃n,VE u=some n:=by obtain⟨h0,h9⟩:=ZmU h;exact⟨_,by rw[hu];exact ZkD h0 h9⟩
theorem Zhk (u:Z3) (r:List Z3):(u::r).flatMap ([32]++ ·)=32::(u++r.flatMap ([32]++ ·)):=by rw[List.flatMap_cons];rfl
theorem Zi8 {FP FR : Int → Int → List Z3 → Option Mo} (hno : ∀x, x ∈ ws → 32 ∉ x) (Y : ∀a b ag, ([Lib.itoa a, Lib.itoa b] ++ ag).flatMap ([32] ++ ·) = ws.flatMap ([32] ++ ·) → FP a b ag = FR a b ag) (N : ∀a b ag, ¬ ([Lib.itoa a, Lib.itoa b] ++ ag).flatMap ([32] ++ ·) = ws.flatMap ([32] ++ ·) → FP a b ag = none) :
  (match onN true ws with
    | none=>none
    | some (a, V) => match onN true V with
      | none=>none
      | some (b,V')=>FP a b V')=match ws with
    | u :: v :: r => match VE u with
      | some x => match VE v with
        | some y=>FR (x:Int) (y:Int) r
        | none=>none
      | none=>none
    | _=>none:=by
 match ws,hno,Y,N with
 | [],_,_,_=>rfl
 | [u],_,_,_=>
  cases hA:QK u with
  | none=>rw[Ww hA]
  | some v=>rw[ZaY hA];rfl
 |u::v::r,hno,Y,N=>
  simp only;cases hA:QK u with
  | none=>
   rw[Ww hA];cases hV:VE u with
   | none=>rfl
   | some n=>have:=(VW hV).1;rw[hA]at this;cases this
  | some a=>
   rw[ZaY hA];simp only;cases hB:QK v with
   | none=>
    rw[Ww hB];cases hV:VE v with
    | none=>cases VE u<;>rfl
    | some n=>have:=(VW hV).1;rw[hB]at this;cases this
   | some b=>
    rw[ZaY hB];simp only;(have key:([Lib.itoa a,Lib.itoa b]++r).flatMap ([32]++ ·)=(u::v::r).flatMap ([32]++ ·)→Lib.itoa a=u∧Lib.itoa b=v:=fun h9=>by rw[List.cons_append,List.cons_append,List.nil_append,Zhk,Zhk,Zhk,Zhk]at h9;simp only[List.cons.injEq,true_and]at h9;obtain⟨b0,b9⟩:=ZmU hA;obtain⟨e1,e2⟩:=ZqQ (ZnA b0 b9) (hno u List.mem_cons_self) h9;exact⟨e1,List.append_cancel_right_eq _ _ _ ▸ e2⟩);cases hV:VE u with
    | none=>refine N _ _ _ fun h9=>?_;obtain⟨n,hn⟩:=Zfh hA (key h9).1.symm;rw[hV]at hn;cases hn
    | some x=>
     cases hW:VE v with
     | none=>refine N _ _ _ fun h9=>?_;obtain⟨n,hn⟩:=Zfh hB (key h9).2.symm;rw[hW]at hn;cases hn
     | some y=>obtain⟨h1,h2⟩:=VW hV;obtain⟨h3,h4⟩:=VW hW;rw[hA]at h1;cases h1;rw[hB]at h3;cases h3;refine Y _ _ _ ?_;rw[h2,h4];rfl
theorem Zcs (hs:s.length≤2000):YE s=XN s:=by
 have hL1:=fun x=>Qm (sep:=[32,124,32]) (s:=s) (x:=x);cases hL:spl [32,124,32] s with
 |nil=>exact absurd hL (Va _ _)
 |cons h ts=>
 cases hW:spl [32] h with
 |nil=>exact absurd hW (Va _ _)
 |cons w ws=>
 have hsj:=Zb6 (sep:=[32,124,32]) (by simp) _ s (Nat.le_refl _) h ts hL;have hhj:=Zb6 (sep:=[32]) (by simp) _ h (Nat.le_refl _) w ws hW;have hno:∀x,x∈w::ws→32∉x:=fun x hx=>Zfr h [] (by simp) x (by show x∈spl [32] h;rw[hW];exact hx);rw[hL]at hL1;have hts:∀x,x∈ts→x.length≤2000:=fun x hx=>by have:=hL1 x (List.mem_cons_of_mem _ hx);omega
 have hR : XN s = if kdP w 7 = 0 then none else match QT (kdP w 7) ws with
   | none=>none
   | some (a,b,d)=>Zm7 (kdP w 7) ts a b d (ws.drop (ZgL (kdP w 7))):=by
  unfold XN Zm7
  rw[hL];simp only;rw[hW]
  rfl
 by_cases h0:kdP w 7=0;{rw[hR,if_pos h0,ZfM hL hW h0]};have hw:=Zrl 7 h0;have hK:=Zek w 7;rw[hR,if_neg h0,ZbI hL hW h0];clear hR hL hW;generalize kdP w 7=K at h0 hw hK ⊢;have Y:=fun {a b d:Int} {ag:List Z3}=>ZoF (a:=a) (b:=b) (d:=d) (ag:=ag) hsj hhj hw hts;have N:=fun {a b d:Int} {ag:List Z3}=>Zqk (a:=a) (b:=b) (d:=d) (ag:=ag) hsj hhj hw hts;rcases(show K=6∨(K=2∨K=3∨K=7)∨K=1∨(K=4∨K=5) by omega) with rfl|hk|rfl|hk;{show Zct s 6 ts 0 0 0 ws=Zm7 6 ts 0 0 0 ws;exact Y rfl}
 ·have e1 : Zpv (Zct s K ts) (flg K).1 (flg K).2.1 (flg K).2.2 ws = match onN true ws with
      | none=>none
      | some (a,V')=>Zct s K ts a 0 0 V':=by rcases hk with rfl|rfl|rfl<;>rfl
  have e2 : ∀ws : List Z3, QT K ws = match ws with
    | a :: _ => match VE a with
      | some x=>some ((x:Int),0,0)
      | none=>none
    | []=>none:=fun ws=>by rcases hk with rfl|rfl|rfl<;>rfl
  have e3:ZgL K=1:=by rcases hk with rfl|rfl|rfl<;>rfl
  have e4:∀(a b d:Int) (ag:List Z3),ZkT (.mk K a b true ag d true [])= [Lib.itoa a]:=fun a b d ag=>by rcases hk with rfl|rfl|rfl<;>rfl
  rw[e1,e2,e3];cases ws with
  | nil=>rw[Zmp]
  | cons u r=>
   simp only;cases hA:QK u with
   | none=>
    rw[Ww hA];cases hV:VE u with
    | none=>rfl
    | some n=>have:=(VW hV).1;rw[hA]at this;cases this
   | some v=>
    rw[ZaY hA];simp only;cases hV:VE u with
    | none=>simp only;refine N ?_;rw[e4,List.singleton_append,Zhk,Zhk];intro h9;simp only[List.cons.injEq,true_and,List.append_cancel_right_eq]at h9;obtain⟨n,hn⟩:=Zfh hA h9.symm;rw[hV]at hn;cases hn
    | some n=>obtain⟨h1,h2⟩:=VW hV;rw[hA]at h1;cases h1;simp only;refine Y ?_;rw[e4,List.singleton_append,h2]
 ·have e1:=Zi8 (FP:=fun a b ag=>Zct s 1 ts a b 0 ag) (FR:=fun a b ag=>Zm7 1 ts a b 0 ag) (fun x hx=>hno x (List.mem_cons_of_mem _ hx)) (fun a b ag h9=>Y h9) (fun a b ag h9=>N h9);refine Eq.trans ?_ (e1.trans ?_)
  ·show(match onN true ws with|none=>none|some (a,V')=>Zo6 (Zct s 1 ts) true false a V')=_;cases onN true ws with
   | none=>rfl
   | some y=>
    obtain⟨a,V⟩:=y;show(match onN true V with|none=>none|some (b,V')=>Zop (Zct s 1 ts) false a b V')=(match onN true V with|none=>none|some (b,V')=>Zct s 1 ts a b 0 V');cases onN true V with
    | none=>rfl
    | some z=>rfl
  ·match ws with
   | []=>rfl
   | [u]=>rfl
   | u::v::r=>
    show _=(match(match VE u with|some x=>(match VE v with|some y=>some ((x:Int),(y:Int),(0:Int))|none=>none)|none=>none:Option (Int×Int×Int)) with|none=>none|some (a,b,d)=>Zm7 1 ts a b d r);simp only;cases VE u with
    | none=>rfl
    | some x=>
     cases VE v with
     | none=>rfl
     | some y=>rfl
 ·have e1:=Zi8 (FP:=fun a d ag=>Zct s K ts a 0 d ag) (FR:=fun a d ag=>Zm7 K ts a 0 d ag) (fun x hx=>hno x (List.mem_cons_of_mem _ hx)) (fun a d ag h9=>Y (by rcases hk with rfl|rfl<;>exact h9)) (fun a d ag h9=>N (by rcases hk with rfl|rfl<;>exact h9));refine Eq.trans ?_ (e1.trans ?_)
  ·(have e2:Zpv (Zct s K ts) (flg K).1 (flg K).2.1 (flg K).2.2 ws=match onN true ws with|none=>none|some (a,V')=>Zop (Zct s K ts) true a 0 V':=by rcases hk with rfl|rfl<;>(show(match onN true ws with|none=>none|some (a,V')=>Zo6 _ false true a V')=_)<;>(cases onN true ws<;>rfl));rw[e2];cases onN true ws with
   | none=>rfl
   | some y=>
    obtain⟨a,V⟩:=y;show(match onN true V with|none=>none|some (b,V')=>Zct s K ts a 0 b V')=(match onN true V with|none=>none|some (b,V')=>Zct s K ts a 0 b V');cases onN true V with
    | none=>rfl
    | some z=>rfl
  ·(have e3 : ZgL K = 2 := by rcases hk with rfl | rfl <;> rfl);have e4 : ∀ws : List Z3, QT K ws = match ws with
     | u :: v :: _ => match VE u with
       | some x => match VE v with
         | some y=>some ((x:Int),0,(y:Int))
         | none=>none
       | none=>none
     | _=>none:=fun ws=>by rcases hk with rfl|rfl<;>rfl
   rw[e3,e4];match ws with
   | []=>rfl
   | [u]=>rfl
   | u::v::r=>
    simp only;cases VE u with
    | none=>rfl
    | some x=>
     cases VE v with
     | none=>rfl
     | some y=>rfl
end Go.Vm
namespace Go.Vm.Seat
