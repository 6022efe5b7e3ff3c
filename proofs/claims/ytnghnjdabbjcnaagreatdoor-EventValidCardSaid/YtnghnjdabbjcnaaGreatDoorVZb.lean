/-
  A valid moment that is written is read again; a trace, too.
-/
import Derived.Test.YtnghnjdabbjcnaaGreatDoorVYr
set_option maxHeartbeats 0
set_option maxRecDepth 100000
namespace Go.Vm
theorem ZoE (s:ZY):(Lib.index s [10]= -1∧Lib.cut s [10]=(s,[],false)∧spl [10] s= [s])∨(∃x r,Lib.cut s [10]=(x,r,true)∧spl [10] s=x::spl [10] r∧x.length+1+r.length=s.length):=by have hge:=Lib.index_ge s [10];have hix:=Zl6 (sep:=[10]) (by simp) s;by_cases h:Lib.index s [10]= -1;{refine .inl ⟨h,?_,?_⟩;{rw[Lib.cut,if_neg (by omega)]};{rw[hix,if_pos h]}};{have hro:=Lib.index_room s [10] (by omega);rw[List.length_singleton]at hro;refine .inr ⟨s.take (Lib.index s [10]).toNat,s.drop ((Lib.index s [10]).toNat+1),?_,?_,?_⟩;{rw[Lib.cut,if_pos (by omega)];rfl};{rw[hix,if_neg h];rfl};{rw[List.length_drop,List.length_take];omega}}
theorem Zl9:∀(l:List Mo) (S:FSt) (i:Nat),0≤(ZcA S l i).1∧(ZcA S l i).1≤i+l.length
 | [],S,i=>by simp[ZcA]
 |m::r,S,i=>by have ih:=Zl9 r (S.nxt m) (i+1);rw[List.length_cons];simp only[ZcA];split;{simp only;omega};{omega}
theorem ZkF (l:List Mo): -1≤(ZI l).1∧(ZI l).1≤400:=by unfold ZI;split;{exact⟨by simp,by simp⟩};{have:=Zl9 l ⟨[],[],[]⟩ 0;omega}
end Go.Vm
namespace Go.Vm.Seat
open Go.Proofs
end Go.Vm.Seat
namespace Go.Vm
theorem Zhp:∀(s:List UInt8) (a n:Nat),UZ a s=some n→a≤n
 | [],a,n,h=>by simp[UZ]at h;omega
 |c::r,a,n,h=>by rw[UZ]at h;split at h;{have:=Zhp r _ n h;omega};{cases h}
theorem Zbv:∀(s:List UInt8) (a n:Nat),UZ a s=some n→n≤999999→Lib.parseUint10 a s= .ok n
 | [],a,n,h,_=>by simp[UZ]at h;subst h;rfl
 |c::r,a,n,h,hn=>by rw[UZ]at h;split at h;{rename_i hd;(have hd:48≤c.toNat∧c.toNat≤57:=by simpa[Zj1] using hd);have hle:=Zhp r _ n h;rw[Lib.parseUint10,if_pos hd,if_neg (by omega),if_neg (by omega),Nat.mul_comm a 10];exact Zbv r _ n h hn};{cases h}
theorem ZkU {w:List UInt8} {n:Nat} (h:ZlG w=some n):Zbx w=some (n:Int)∧Lib.itoa (n:Int)=w:=by
 have hle:=ZnX h;unfold ZlG at h;split at h;{cases h}
 ·rename_i hl;split at h
  ·rename_i m hv;split at h
   ·rename_i hd;cases h;refine⟨?_,by rw[Lib.itoa_nonneg];exact hd⟩;cases w with
    | nil=>simp at hl
    | cons c r=>(have hc:48≤c.toNat∧c.toNat≤57:=by rw[UZ]at hv;split at hv;{rename_i h9;simpa[Zj1] using h9};{cases hv});have hp:=Zbv _ _ _ hv hle;(have hA:Lib.atoiAll (c::r)= .ok (n:Int):=by simp only[Lib.atoiAll];rw[if_neg (by omega),Lib.parseMag,if_neg (by simp),hp];simp only;rw[if_neg (by omega),if_neg (by omega),if_neg (by omega)]);unfold Zbx;rw[hA];exact if_neg (by omega)
   {cases h}
  {cases h}
theorem ZdM:∀(s:List UInt8) (a n:Nat) (c:UInt8),UZ a s=some n→Zj1 c=true→UZ a (s++ [c])=some (10*n+(c.toNat-48))
 | [],a,n,c,h,hc=>by simp[UZ]at h;subst h;simp[UZ,hc]
 |x::r,a,n,c,h,hc=>by rw[UZ]at h;rw[List.cons_append,UZ];split at h;{rename_i hd;rw[if_pos hd];exact ZdM r _ n c h hc};{cases h}
theorem ZoL {d:Nat} (hd:d<10):Zj1 (UInt8.ofNat (48+d))=true∧(UInt8.ofNat (48+d)).toNat-48=d:=by rcases(show d=0∨d=1∨d=2∨d=3∨d=4∨d=5∨d=6∨d=7∨d=8∨d=9 by omega) with rfl|rfl|rfl|rfl|rfl|rfl|rfl|rfl|rfl|rfl<;>decide
theorem Zci:∀(f u:Nat),u<10 ^ f→UZ 0 (Lib.decDigits u)=some u
 |0,u,h=>by
  have:u=0:=by simpa using h
  subst this;rw[Zot (by omega)];simp[UZ,Zj1]
 |f+1,u,h=>by by_cases hlt:u<10;{rw[Zot hlt];have:=ZoL hlt;rw[UZ,if_pos this.1,UZ,this.2];simp};{rw[ZqT hlt];have hb:=ZoL (d:=u % 10) (by omega);rw[ZdM _ _ (u / 10) _ (Zci f (u / 10) (by rw[Nat.pow_succ]at h;omega)) hb.1,hb.2];congr 1;omega}
end Go.Vm
namespace Go.Vm.Seat
end Go.Vm.Seat
namespace Go.Vm
theorem ZdG:∀(x:ZY) (l:List ZY),WP [32] (x::l)=x++l.flatMap ([32]++ ·)
 |x,[]=>by simp[WP]
 |x,y::r=>by rw[WP,List.flatMap_cons,ZdG y r,List.append_assoc]
theorem ZfO:∀(s:List UInt8) (a n:Nat),UZ a s=some n→∀c,c∈s→Zj1 c=true
 |x::r,a,n,h,c,hc=>by rw[UZ]at h;split at h;{rename_i hd;rcases List.mem_cons.1 hc with rfl|hc;{exact hd};{exact ZfO r _ n h c hc}};{cases h}
theorem Zdx {v:Int} (h0:0≤v) (h9:v≤999999):ZlG (Lib.itoa v)=some v.toNat:=by
 obtain⟨u,rfl⟩:∃u:Nat,v=(u:Int):=⟨v.toNat,by omega⟩;rw[Lib.itoa_nonneg,Int.toNat_natCast];have hl:=Lib.decDigits_length u;have h1:1≤(Lib.decDigits u).length:=by
  cases h:Lib.decDigits u with
  | nil =>
    have hv:=Zci 6 u (by omega)
    by_cases hlt:u<10
    · rw[Zot hlt]at h;cases h
    · rw[ZqT hlt]at h;simp at h
  | cons c r=>simp
 have h6:(Lib.decDigits u).length≤6:=by
  rcases(show u<10∨(10≤u∧u<100)∨(100≤u∧u<1000)∨(1000≤u∧u<10000)∨(10000≤u∧u<100000)∨(100000≤u∧u<1000000) by omega) with h|h|h|h|h|h;all_goals
   repeat first|rw[Zot (by omega)]|rw[ZqT (by omega),List.length_append,List.length_singleton]
   simp
 unfold ZlG;rw[if_neg (by omega),Zci 6 u (by omega)];simp
theorem ZhH:∀l:List Tm,(l.flatMap tfT).flatMap ([32]++ ·)=(l.map wT).flatMap ([32,124,32]++ ·)
 | []=>rfl
 |t::r=>by rw[List.flatMap_cons,List.flatMap_append,ZhH r,List.map_cons,List.flatMap_cons];simp[tfT]
end Go.Vm
namespace Go.Vm.Seat
end Go.Vm.Seat
namespace Go.Vm
theorem ZjW (l:List ZY):(l.any fun a=> !YH a)= !(l.all YA):=by
 induction l with
 |nil=>rfl
 |cons a r ih=>rw[List.any_cons,List.all_cons,ih,Zjn];simp
end Go.Vm
namespace Go.Vm.Seat
variable {l:List Mo}
open Go.Proofs
theorem fewM_lens {m:Mo}:Zlk m=true↔m.agents.length≤8∧m.terms.length≤14∧∀s,s∈m.agents→s.length≤40:=by simp only[Zlk,Bool.and_eq_true,Bool.not_eq_true',decide_eq_false_iff_not,List.all_eq_true,Nat.not_lt]
theorem ZgR {i:Nat} {x:Mo} (h:l[i]? = some x):(l.take (i+1)).flatMap (·.terms)=(l.take i).flatMap (·.terms)++x.terms:=by simp only[List.take_add_one,h,Option.toList_some,List.flatMap_append,List.flatMap_cons,List.flatMap_nil,List.append_nil]
theorem ZcQ (h:∀m,m∈l→Zlk m=true):(l.flatMap (·.terms)).length≤14*l.length:=by
 induction l with
 |nil=>simp
 |cons a r ih=>have h1:=(fewM_lens.1 (h a List.mem_cons_self)).2.1;have h2:=ih fun m hm=>h m (List.mem_cons_of_mem _ hm);simp only[List.flatMap_cons,List.length_append,List.length_cons]at h2 ⊢;omega
theorem ZhB {m:Mo} (hm:m∈l) (h:Zlk m=false):U2 l=false:=by unfold U2;split;{rfl};{rw[if_neg];intro ha;rw[List.all_eq_true]at ha;have:=ha m hm;rw[h]at this;cases this}
theorem c6 (hok:∀m,m∈l→m.Ok) (b:Bool):∀H,CO 6 [slV b 6 (moC l)] H (.bool (U2 l)) H:=by
 refine Jw tOk fe6.ok rfl ?_;repeat' first|refine Kv ?_|refine Jb ?_ ?_|refine Jo ?_|intro hb
 ·rw[Y3]at hb;have:420<l.length:=by simp at hb<;>omega
  simp only[U2,if_pos this]
 rw[Y3]at hb;have hl:l.length≤420:=by simp at hb<;>omega
 clear hb;refine Wp.while (fun m tm H => ∃(i : Nat) (base : TM) (out : PV) (lv : List Nat) (nt : Nat), i + m = l.length ∧ (∀m, m ∈ l.take i → Zlk m = true) ∧ ApV true 4 (Za ((l.take i).flatMap (·.terms))) out lv nt ∧
   tm=ovr base [(0,slV b 6 (moC l)),(3,out),(4,.int .i64 (i:Int))]∧H=⟨[],0,lv,nt⟩)
  (fun m tm H hI=>?_) l.length _ _ ⟨0,_,_,_,_,by omega,by simp,.nil _ _ rfl,Ze ⟨rfl,rfl,rfl,trivial⟩,rfl⟩
 obtain⟨i,base,out,lv,nt,hi,hF,hA,rfl,rfl⟩:=hI;by_cases hlt:i<l.length
 ·obtain⟨x,hx⟩:∃x,l[i]? = some x:=⟨l[i],by simp⟩;have hm:x∈l:=List.mem_of_getElem? hx;have ho:=hok x hm;have hs:=ZgR hx;have hsl:=ZcQ hF;rw[List.length_take]at hsl;have hnot:=fun h=>ZhB hm h;have hj:=Vs hx;have hfw:=@fewM_lens x;have htk:∀(h:Zlk x=true) m,m∈l.take (i+1)→Zlk m=true:=fun h m hm=>by rw[List.take_add_one,hx]at hm;rcases List.mem_append.1 hm with hm|hm;{exact hF m hm};{simp at hm;rw[hm];exact h}
  by_cases h8:x.agents.length≤8∧x.terms.length≤14
  ·obtain⟨out',lv',nt',hap,hA', -⟩:=hA.app YB (.slV x.tn 4 (Za x.terms)) (Zr _) (ZR (by simp only[Zb];omega) (by decide)) (Z0 _);rw[← Zs]at hA';obtain⟨kd,nu,ro,an,ag,go,tn,te⟩:=x;simp only[Mo.cells]at hj hs hap hA' hfw h8;(repeat' first|refine Jk ?_|refine Kx ?_|refine Jt ?_|refine Jb ?_ ?_|refine Jo ?_|intro hb);{exfalso;rw[ZC]at hb;simp at hb<;>omega};{exfalso;rw[Zb]at hb;simp at hb<;>omega}
   ·refine Wp.while (fun m2 tm H => ∃(k : Nat) (base : TM), k + m2 = ag.length ∧ (∀s, s ∈ ag.take k → s.length ≤ 40) ∧
        tm=ovr base [(0,slV b 6 (moC l)),(3,out),(4,.int .i64 (i:Int)),(5,.int .i64 (k:Int))]∧H=⟨[],0,lv,nt⟩)
      (fun m2 tm H hI=>?_) ag.length _ _ ⟨0,_,by omega,by simp,Ze ⟨rfl,rfl,rfl,rfl,trivial⟩,rfl⟩
    obtain⟨k,base,hk2,hks,rfl,rfl⟩:=hI;by_cases hlk:k<ag.length
    ·obtain⟨y,hy⟩:∃y,ag[k]? = some y:=⟨ag[k],by simp⟩;have hj2:=Xf hy;(repeat' first|refine JA ?_|refine Kx ?_|refine Jt ?_|refine Jb ?_ ?_|refine Jo ?_|intro hb)
     ·(have hb' : 40 < y.length := by simp at hb <;> omega);rw[hnot (by
       rw[← Bool.not_eq_true,hfw]
       rintro⟨-, -,h⟩
       have:=h y (List.mem_of_getElem? hy)
       omega)]
     {(have hb':y.length≤40:=by simp at hb<;>omega);refine LoopI.go (m2-1) (by omega) ⟨k+1,_,by omega,fun s hs=>?_,Ze ⟨rfl,rfl,rfl,Zg (Zd (n:=k+1) (by omega)),trivial⟩,rfl⟩;rw[List.take_add_one,hy]at hs;rcases List.mem_append.1 hs with hs|hs;{exact hks s hs};{simp at hs;rw[hs];exact hb'}};{exfalso;rw[ZC]at hb;simp at hb<;>omega}
    {(have e:k=ag.length:=by omega);subst e;rw[List.take_length]at hks;(repeat' first|refine JA ?_|refine Kx ?_|refine Jb ?_ ?_|refine Jo ?_|intro hb);{exfalso;rw[ZC]at hb;simp at hb};{exact LoopI.go (m-1) (by omega) ⟨i+1,_,out',lv',nt',by omega,htk (hfw.2 ⟨h8.1,h8.2,hks⟩),by rw[hs];exact hA',Ze ⟨rfl,rfl,Zg (Zd (n:=i+1) (by omega)),trivial⟩,rfl⟩}}
   {exfalso;rw[Y3]at hb;simp at hb<;>omega}
  ·have hnf := hnot (by rw[← Bool.not_eq_true, hfw]; rintro⟨h1, h2, -⟩; exact h8 ⟨h1, h2⟩);obtain⟨kd,nu,ro,an,ag,go,tn,te⟩:=x;simp only[Mo.cells]at hj h8;rw[hnf];(repeat' first|refine Jk ?_|refine Kx ?_|refine Jt ?_|refine Jb ?_ ?_|refine Jo ?_|intro hb);all_goals first
    | rfl
    | (exfalso;rw[Y3]at hb;simp at hb<;>omega)
    | skip
   rename_i hb0;exfalso;rw[ZC]at hb0;rw[Zb]at hb;simp at hb hb0;omega
 ·have e:i=l.length:=by omega
  subst e;rw[List.take_length]at hA hF;have hsl:=ZcQ hF;have hc:∀H,CO 17 [slV true 4 (Za (l.flatMap (·.terms))),.int .i64 1000,.int .i64 800] H (.bool (ZiN (l.flatMap (·.terms)) 1000 800)) H:=
   c17 (fun t ht=>by
    obtain⟨m,hm,ht⟩:=List.mem_flatMap.1 ht
    exact(hok m hm).ts t ht) (by unfold maxLen;omega) true (by omega) (by omega)
  have hr:U2 l=ZiN (l.flatMap (·.terms)) 1000 800:=by unfold U2;rw[if_neg (by omega),if_pos (List.all_eq_true.2 hF)]
  rw[hr];have hc2:∀H,CO 17 [out,.int .i64 1000,.int .i64 800] H (.bool (ZiN (l.flatMap (·.terms)) 1000 800)) H:=fun H=>
   Xs (hc hNil) (by simp only[ZH,hA.frzG];rfl) rfl H
  repeat' first|refine Jc (hc2 _) ?_|refine Jl ?_|refine Jb ?_ ?_|refine Jo ?_|intro hb
  all_goals first
   | (exfalso;rw[Y3]at hb;simp at hb;done)
   | (rw[hb];done)
theorem QZ:∀(l:List Tm) (n:Int),Zj2 l n=true→∀t,t∈l→(t.size:Int)≤n
 | [],_,_,t,ht=>absurd ht (by simp)
 |a::r,n,h,t,ht=>by simp only[Zj2]at h;split at h;{cases h};{rename_i hb;have:=a.budget_eq n (by omega);rcases List.mem_cons.1 ht with rfl|ht;{omega};{have:=QZ r _ h t ht;omega}}
theorem Zg8 (h:U2 l=true):l.length≤420∧(∀m,m∈l→Zlk m=true)∧∀m,m∈l→∀t,t∈m.terms→t.size<4611686018427387904:=by unfold U2 at h;split at h;{cases h};{split at h;{rename_i h1 h2;refine⟨by omega,List.all_eq_true.1 h2,fun m hm t ht=>?_⟩;unfold ZiN at h;split at h;{cases h};{have:=QZ _ _ h t (List.mem_flatMap.2 ⟨m,hm,ht⟩);omega}};{cases h}}
end Go.Vm.Seat
namespace Go.Vm
end Go.Vm
namespace Go.Vm.Seat
open Go.Proofs
end Go.Vm.Seat
namespace Go.Vm
variable {X nm r:ZY} {k s:Int} {l:List Tm} {t:Tm} {c:UInt8}
def aft (r:ZY):Prop:=∀c q,r=c::q→c=41∨c=44
theorem QA:∀(nm r:List UInt8),nm.all Yx=true→(∀c q,r=c::q→Yx c=false)→YW (nm++r)=nm
 | [],[],_,_=>rfl
 | [],c::q,_,hr=>by rw[List.nil_append,UT,if_neg (by rw[hr c q rfl];decide)]
 |a::nm,r,h,hr=>by rw[List.all_cons,Bool.and_eq_true]at h;rw[List.cons_append,UT,if_pos h.1,QA nm r h.2 hr]
theorem Un {nm:List UInt8} (h:YA nm=true):nm.all Yx=true:=by
 cases nm with
 |nil=>cases h
 |cons c r=>rw[YA,Bool.and_eq_true,Bool.and_eq_true]at h;exact h.2.2
theorem Za5 {nm:List UInt8} (h:YA nm=true):∃c q,nm=c::q∧ZeQ (Int.ofNat c.toNat)=true:=by
 cases nm with
 |nil=>cases h
 |cons c r=>rw[YA,Bool.and_eq_true,Bool.and_eq_true]at h;exact⟨c,r,rfl,h.2.1⟩
theorem Zmo (h:aft r):∀c q,r=c::q→Yx c=false:=fun c q e=>by
 rcases h c q e with rfl|rfl<;>decide
theorem ZoX (h:aft r):YR [58] r=false:=by
 cases r with
 |nil=>exact Ux _ _
 |cons c q=>rw[Vb];rcases h c q rfl with rfl|rfl<;>decide
theorem Zh1 (s:Int):(wdF s).all Yx=true:=by
 unfold wdF;split; · decide
 split; · decide
 split; · decide
 split; · decide
 split<;>decide
theorem Zol (h0:0≤s) (h5:s≤5):ZcB (wdF s)=s:=by
 have:s=0∨s=1∨s=2∨s=3∨s=4∨s=5:=by omega
 rcases this with rfl|rfl|rfl|rfl|rfl|rfl<;>decide
theorem ZtE (X:ZY):∀c q,58::X=c::q→Yx c=false:=fun c q e=>by cases e;decide
theorem ZuG (X:ZY):∀c q,40::X=c::q→Yx c=false:=fun c q e=>by cases e;decide
theorem Zgz (c:UInt8) (r:ZY):YR [c] (c::r)=true:=by rw[Vb];exact decide_eq_true rfl
theorem ZiJ {v:Bool} (h0:(if v=true then 1 else 0)≤s) (hs:0≤s) (h5:s≤5) (ha:aft r):Vc v nm (58::(wdF s++r))=some (.mk (if v=true then 1 else 2) nm s true [],r):=by have e:=QA (wdF s) r (Zh1 s) (Zmo ha);unfold Vc;rw[if_pos (Zgz _ _),show(58::(wdF s++r):ZY).drop 1=wdF s++r from rfl,e,Zol hs h5,if_pos h0,List.drop_left]
theorem Zph (h0:0≤s) (h5:s≤5) (ha:aft r):Vc true nm ((if s=0 then[] else 58::wdF s)++r)=some (.mk 1 nm s true [],r):=by by_cases h:s=0;{subst h;rw[if_pos rfl,List.nil_append];unfold Vc;rw[if_neg (by rw[ZoX ha];decide),if_pos rfl]};{rw[if_neg h,List.cons_append,ZiJ (by rw[if_pos rfl];omega) h0 h5 ha,if_pos rfl]}
theorem ZsP (d:Nat) (hn:YA nm=true) (hX:∀c q,X=c::q→Yx c=false):rdF (d+1) (63::(nm++X))=Vc true nm X:=by have e:=QA nm X (Un hn) hX;simp only[rdF,Zgz,if_true,show(63::(nm++X):ZY).drop 1=nm++X from rfl,e,List.drop_left,hn,Bool.true_eq_false,if_false]
theorem Zqy (d : Nat) (hn : YA nm = true) (hX : ∀c q, X = c :: q → Yx c = false) : rdF (d + 1) (nm ++ X) = if YR [40] X = true then(match Zen (rdF d) X.length [] (X.drop 1) with
      | none=>none
      | some x=>some (.mk 3 nm 0 true x.1,x.2)) else Vc false nm X:=by
 have e:=QA nm X (Un hn) hX;have h63:YR [63] (nm++X)=false:=by obtain⟨c,q,rfl,hc⟩:=Za5 hn;rw[List.cons_append,Vb,decide_eq_false_iff_not];rintro rfl;revert hc;decide
 simp only[rdF,h63,Bool.false_eq_true,if_false,e,List.drop_left,hn,Bool.true_eq_false];rfl
theorem Zan {n:Nat} (h:Xj k nm s n=0):(k=1∨k=2∨k=3)∧0≤s∧s≤5∧(k=3→s=0)∧(k≠3→n=0)∧YA nm=true:=by
 unfold Xj at h;split at h;{cases h}
 ·rename_i h1;refine⟨?_,?_,?_,?_,?_,?_⟩;{by_cases h2:k=1∨k=2∨k=3;{exact h2};{exact absurd (.inl h2) h1}};{by_cases h2:s<0;{exact absurd (.inr (.inl h2)) h1};{omega}};{by_cases h2:5<s;{exact absurd (.inr (.inr (.inl h2))) h1};{omega}};{intro hk;by_cases h2:s=0;{exact h2};{exact absurd (.inr (.inr (.inr (.inl ⟨hk,h2⟩)))) h1}};{intro hk;by_cases h2:n=0;{exact h2};{exact absurd (.inr (.inr (.inr (.inr ⟨hk,by omega⟩)))) h1}}
  ·cases hn:YA nm with
   | true=>rfl
   | false=>rw[if_pos hn]at h;cases h
theorem UF {b:Bool} (h:(Tm.mk k nm s b l).nodes=0):Xj k nm s l.length=0∧Yk l=0:=by rw[Tm.nodes]at h;by_cases h1:Xj k nm s l.length=0;{rw[if_neg (by simpa using h1)]at h;exact⟨h1,h⟩};{rw[if_pos h1]at h;exact absurd h h1}
theorem UX (h:Yk (t::l)=0):t.nodes=0∧Yk l=0:=by rw[Yk]at h;by_cases h1:t.nodes=0;{rw[if_neg (by simpa using h1)]at h;exact⟨h1,h⟩};{rw[if_pos h1]at h;exact absurd h h1}
theorem ZiG (h:t.nodes=0):∃c q,wT t=c::q∧c≠41:=by
 obtain⟨k,nm,s,b,l⟩:=t;obtain⟨c,q,rfl,hc⟩:=Za5 (Zan (UF h).1).2.2.2.2.2;have h41:c≠41:=by rintro rfl;revert hc;decide
 rw[wT];split;{exact⟨c,_,rfl,h41⟩};split;{exact⟨63,_,rfl,by decide⟩};{exact⟨c,_,rfl,h41⟩}
theorem ZjQ:∀(l:List Tm) (f:Bool),Yk l=0→l.length≤(wL l f).length
 | [],_,_=>Nat.zero_le _
 |t::r,f,h=>by obtain⟨h1,h2⟩:=UX h;obtain⟨c,q,e, -⟩:=ZiG h1;have:=ZjQ r false h2;rw[wL,List.length_append,List.length_append,e,List.length_cons,List.length_cons];omega
mutual
theorem Ztg:∀(t:Tm),t.nodes=0→∀(d:Nat) (r:ZY),t.depth≤d→aft r→rdF d (wT t++r)=some (t.cl,r)
 | .mk k nm s b l,h,d,r,hd,ha=>by obtain⟨h1,h2⟩:=UF h;obtain⟨hk,h0,h5,hs3,hn3,hn⟩:=Zan h1;rw[Tm.depth]at hd;obtain⟨d,rfl⟩:∃e,d=e+1:=⟨d-1,by omega⟩;rcases hk with rfl|rfl|rfl;{obtain rfl:l= []:=List.eq_nil_of_length_eq_zero (hn3 (by decide));rw[wT,if_neg (by decide),if_pos rfl,List.append_assoc,List.cons_append,ZsP d hn,Zph h0 h5 ha];{rfl};{intro c q e;split at e;{exact Zmo ha c q e};{exact ZtE _ c q e}}};{obtain rfl:l= []:=List.eq_nil_of_length_eq_zero (hn3 (by decide));rw[wT,if_neg (by decide),if_neg (by decide),List.append_assoc,List.append_assoc,List.singleton_append,Zqy d hn (ZtE _),if_neg (by rw[Vb];decide),ZiJ (by rw[if_neg (by decide)];exact h0) h0 h5 ha];rfl};{obtain rfl:=hs3 rfl;have hl:=ZjQ l true h2;have e:=Ztm l h2 d (40::(wL l true++41::r)).length [] r (by omega) (by simp only[List.length_cons,List.length_append];omega);rw[wT,if_pos rfl,show nm++ [40]++(wL l true++ [41])++r=nm++(40::(wL l true++41::r)) by simp,Zqy d hn (ZuG _),if_pos (Zgz _ _)];rw[show(40::(wL l true++41::r):ZY).drop 1=wL l true++41::r from rfl];rw[show([]:List Tm).isEmpty=true from rfl]at e;rw[e];rfl}
theorem Ztm:∀(l:List Tm),Yk l=0→∀(d n:Nat) (acc:List Tm) (r:ZY),Yv l≤d→l.length+1≤n→Zen (rdF d) n acc (wL l acc.isEmpty++41::r)=some (acc++clL l,r)
 | [], _, d, n, acc, r, _, hn => by
   obtain⟨n,rfl⟩:∃e,n=e+1:=⟨n-1,by omega⟩
   rw[Zen,wL,List.nil_append,if_pos (Zgz _ _),clL,List.append_nil]
   rfl
 | t :: l, h, d, n, acc, r, hd, hn => by
   obtain⟨n,rfl⟩:∃e,n=e+1:=⟨n-1,by omega⟩
   obtain⟨h1,h2⟩:=UX h
   rw[List.length_cons]at hn
   rw[show Yv (t::l)=max t.depth (Yv l) by simp only[Yv]]at hd
   have ha:aft (wL l false++41::r):=by
    intro c q e
    cases l with
    | nil=>rw[wL,List.nil_append]at e;cases e;exact .inl rfl
    | cons u m=>rw[wL,if_neg (by decide)]at e;cases e;exact .inr rfl
   have e1:=Ztg t h1 d (wL l false++41::r) (by omega) ha
   have e2:=Ztm l h2 d n (acc++ [t.cl]) r (by omega) (by omega)
   rw[show(acc++ [t.cl]).isEmpty=false by cases acc<;>rfl]at e2
   obtain⟨c,q,ew,h41⟩:=ZiG h1
   cases acc with
   | nil =>
     have hw:wL (t::l) ([]:List Tm).isEmpty++41::r=wT t++(wL l false++41::r):=by
      rw[wL];simp
     rw[hw,Zen,if_neg (by rw[ew,List.cons_append,Vb,decide_eq_true_eq];exact h41),if_neg (by simp),if_pos rfl,e1]
     simp only
     rw[e2]
     simp[clL]
   | cons u m =>
     have hw:wL (t::l) (u::m).isEmpty++41::r=44::32::(wT t++(wL l false++41::r)):=by
      rw[wL];simp
     rw[hw,Zen,if_neg (by rw[Vb];decide),if_neg,if_neg (by simp)]
     · rw[show(44 :: 32 :: (wT t ++ (wL l false ++ 41 :: r)) : ZY).drop 2 = wT t ++ (wL l false ++ 41 :: r) from rfl, e1]
       simp only
       rw[e2]
       simp[clL]
     · rintro⟨-, h9⟩
       rw[(Zpo 44 32 _).2 ⟨_,rfl⟩]at h9
       cases h9
end
theorem ZoK (h:t.valid=0) {d:Nat} (hd:t.depth≤d):Qv d (wT t)=(t.cl,0):=by have e:=Ztg t (V6 h) d [] hd (by intro c q e;cases e);rw[List.append_nil]at e;rw[Qv,e];simp only;rw[if_neg (by rw[VF,h];simp)]
mutual
theorem ZmM:∀t:Tm,t.cl.all=t.all.map Tm.cl
 | .mk k nm s b l=>by rw[Tm.cl,Tm.all,Tm.all,Zl4 l,List.map_cons,Tm.cl]
theorem Zl4:∀l:List Tm,Qx (clL l)=(Qx l).map Tm.cl
 | []=>rfl
 |t::r=>by rw[clL,Qx,Qx,ZmM t,Zl4 r,List.map_append]
end
theorem Zs4 (t:Tm):t.cl.knd=t.knd:=by cases t;rfl
theorem Zp6 (t:Tm):t.cl.dsB=t.dsB:=by unfold Tm.dsB;rw[ZmM,List.all_map];congr 1;funext x;cases x;rfl
theorem Zo1 (t:Tm):t.cl.plainB true=t.plainB true:=by obtain⟨a1,a2⟩:=Zd9 (t:=t) (u:=t) rfl;obtain⟨b1,b2⟩:=Zd9 (t:=t.cl) (u:=t) (ZcV t);unfold Tm.plainB;rw[Zp6,b1, ← a1];congr 1;congr 1;apply decide_eq_decide.2;rw[XG,XG,b2, ← a2,ZcV]
theorem Zo6 (k:Int) (l:List Tm):(VE k (l.map Tm.cl)).isEmpty=(VE k l).isEmpty:=by unfold VE;rw[List.filter_map,List.isEmpty_map];congr 1;exact List.filter_congr fun t _=>by show decide (t.cl.knd=k)=_;rw[Zs4]
theorem ZpK (t:Tm):t.cl.ground=t.ground:=by unfold Tm.ground;rw[ZmM,Zo6]
theorem Zo8 (t:Tm):t.cl.rgt=t.rgt:=by simp only[Tm.rgt,VF,Zk9,ZpK,Zo1]
theorem ZiD:∀l:List Tm,ZfQ (l.map Tm.cl)=ZfQ l
 | []=>rfl
 |t::r=>by rw[List.map_cons,ZfQ,ZfQ,Zo8,ZiD r]
def Mo.cp (m:Mo):Mo:={m with an:=true,tn:=true,terms:=m.terms.map Tm.cl}
theorem Zft (m:Mo):Wv m.cp=Wv m:=by obtain⟨k,n,r,an,ag,g,tn,ts⟩:=m;simp only[Wv,Mo.cp,List.length_map]
theorem Zlz (m:Mo):m.cp.alone=m.alone:=by have e1:=Zft m;have e2:ZlU m.cp=ZlU m:=rfl;have e3:m.cp.agents=m.agents:=rfl;have e4:m.cp.terms=m.terms.map Tm.cl:=rfl;simp only[Mo.alone,e1,e2,e3,e4,ZiD]
theorem ZiT:∀(l:List Mo) (S:FSt) (i:Nat),ZcA S (l.map Mo.cp) i=ZcA S l i
 | [],_,_=>rfl
 | m :: r, S, i => by
   have e1:S.err m.cp=S.err m:=by
    simp only[FSt.err,Zlz]
    rfl
   have e2:S.nxt m.cp=S.nxt m:=rfl
   rw[List.map_cons,ZcA,ZcA,e1,e2,ZiT r]
theorem ZiQ (l:List Mo):ZI (l.map Mo.cp)=ZI l:=by unfold ZI;rw[List.length_map,ZiT]
theorem ZvN:∀(l:List ZY),(∀y,y∈l→c∉y)→∀(x cur:ZY),c∉x→spW [c] 0 cur (x++l.flatMap ([c]++ ·))=(cur++x)::l:=by
 intro l;induction l with
 |nil=>
  intro _ x;induction x with
  | nil=>intro cur _;rw[List.flatMap_nil,List.append_nil,U9,List.append_nil]
  | cons d x ih=>intro cur hx;rw[List.mem_cons,not_or]at hx;rw[List.cons_append,Zbs (by rw[Vb,decide_eq_false_iff_not];exact fun e=>hx.1 e.symm),ih _ hx.2];simp
 |cons y l ihl=>
  intro hl x;induction x with
  | nil=>intro cur _;rw[List.nil_append,List.flatMap_cons,List.append_assoc,List.singleton_append,Zb8 (Zgz _ _),List.append_nil,show([c]:ZY).length-1=0 from rfl,ihl (fun z hz=>hl z (List.mem_cons_of_mem _ hz)) y [] (hl y List.mem_cons_self),List.nil_append]
  | cons d x ih=>intro cur hx;rw[List.mem_cons,not_or]at hx;rw[List.cons_append,Zbs (by rw[Vb,decide_eq_false_iff_not];exact fun e=>hx.1 e.symm),ih _ hx.2];simp
theorem Zn4 {d:UInt8} {R:ZY} (h:∀q,R≠124::q):YR [32,124,32] (d::R)=false:=by
 unfold YR;rw[decide_eq_false_iff_not];intro e;cases R with
 |nil=>cases e
 |cons a q=>simp only[List.length_cons,List.length_nil,List.take_succ_cons,List.cons.injEq]at e;exact h q (by rw[e.2.1])
theorem Zvb:∀(l:List ZY),(∀y,y∈l→124∉y)→∀(x cur:ZY),124∉x→spW [32,124,32] 0 cur (x++l.flatMap ([32,124,32]++ ·))=(cur++x)::l:=by
 have key:∀(l:List ZY) (d:UInt8) (x:ZY),124∉x→YR [32,124,32] (d::(x++l.flatMap ([32,124,32]++ ·)))=false:=by
  intro l d x hx
  refine Zn4 fun q e=>?_
  cases x with
  | cons a x =>
    rw[List.cons_append]at e
    cases e
    exact hx List.mem_cons_self
  | nil =>
    rw[List.nil_append]at e
    cases l with
    | nil=>cases e
    | cons y l=>rw[List.flatMap_cons]at e;cases e
 intro l;induction l with
 |nil=>
  intro _ x;induction x with
  | nil=>intro cur _;rw[List.flatMap_nil,List.append_nil,U9,List.append_nil]
  | cons d x ih=>intro cur hx;rw[List.mem_cons,not_or]at hx;rw[List.cons_append,Zbs (key [] d x hx.2),ih _ hx.2];simp
 |cons y l ihl=>
  intro hl x;induction x with
  | nil=>intro cur _;(have hp:YR [32,124,32] (32::124::32::(y++l.flatMap ([32,124,32]++ ·)))=true:=by unfold YR;exact decide_eq_true rfl);rw[List.nil_append,List.flatMap_cons,show([32,124,32]:ZY)++y++l.flatMap ([32,124,32]++ ·)=32::124::32::(y++l.flatMap ([32,124,32]++ ·)) by simp,Zb8 hp,List.append_nil];rw[show([32,124,32]:ZY).length-1=2 from rfl,Zbq,Zbq,ihl (fun z hz=>hl z (List.mem_cons_of_mem _ hz)) y [] (hl y List.mem_cons_self),List.nil_append]
  | cons d x ih=>intro cur hx;rw[List.mem_cons,not_or]at hx;rw[List.cons_append,Zbs (key (y::l) d x hx.2),ih _ hx.2];simp
def lnB (c:UInt8):Bool:=decide (c≠10∧c≠124)
theorem ZmP (h:Yx c=true):lnB c=true:=by unfold lnB;rw[decide_eq_true_eq];constructor<;>(rintro rfl;revert h;decide)
theorem QC (h:nm.all Yx=true):nm.all lnB=true:=by rw[List.all_eq_true]at h ⊢;exact fun c hc=>ZmP (h c hc)
mutual
theorem Zoq:∀t:Tm,t.nodes=0→(wT t).all lnB=true
 | .mk k nm s b l,h=>by obtain⟨h1,h2⟩:=UF h;have hn:=QC (Un (Zan h1).2.2.2.2.2);have hw:=QC (Zh1 s);have e:=Zpk l true h2;rw[wT];split;{simp only[List.all_append,hn,e];decide};split;{split;{simp only[List.all_append,List.all_cons,hn,List.all_nil,Bool.and_true];decide};{simp only[List.all_append,List.all_cons,hn,hw,Bool.and_true];decide}};{simp only[List.all_append,hn,hw,Bool.and_true];decide}
theorem Zpk:∀(l:List Tm) (f:Bool),Yk l=0→(wL l f).all lnB=true
 | [],_,_=>rfl
 |t::l,f,h=>by obtain⟨h1,h2⟩:=UX h;rw[wL,List.all_append,List.all_append,Zoq t h1,Zpk l false h2];cases f<;>decide
end
mutual
theorem ZoM:∀t:Tm,wT t.cl=wT t
 | .mk k nm s b l=>by rw[Tm.cl,wT,wT,ZpL l]
theorem ZpL:∀(l:List Tm) (f:Bool),wL (clL l) f=wL l f
 | [],_=>rfl
 |t::l,f=>by rw[clL,wL,wL,ZoM t,ZpL l]
end
mutual
theorem Ziu:∀t:Tm,t.nodes=0→t.size≤(wT t).length
 | .mk k nm s b l,h=>by obtain⟨h1,h2⟩:=UF h;obtain⟨hk,h0,h5,hs3,hn3,hn⟩:=Zan h1;have e:=ZhM l true h2;have hl:=(Zej hn).1;rw[Tm.size,wT];split;{simp only[List.length_append,List.length_cons,List.length_nil];omega};{rename_i hk3;obtain rfl:l= []:=List.eq_nil_of_length_eq_zero (hn3 hk3);rw[Zk];split;{rw[List.length_append,List.length_cons];omega};{rw[List.length_append,List.length_append];omega}}
theorem ZhM:∀(l:List Tm) (f:Bool),Yk l=0→Zk l≤(wL l f).length
 | [],_,_=>by rw[Zk];exact Nat.zero_le _
 |t::l,f,h=>by obtain⟨h1,h2⟩:=UX h;have:=Ziu t h1;have:=ZhM l false h2;rw[Zk,wL,List.length_append,List.length_append];omega
end
theorem Zn8 {v:Int} (h0:0≤v) (h9:v≤999999):∀c,c∈Lib.itoa v→Zj1 c=true:=by
 have e:=Zdx h0 h9;unfold ZlG at e;split at e;{cases e}
 ·cases hv:UZ 0 (Lib.itoa v) with
  | none=>rw[hv]at e;cases e
  | some n=>exact ZfO _ _ _ hv
theorem ZlD (h:Zj1 c=true):lnB c=true∧c≠32:=by unfold lnB;rw[decide_eq_true_eq];refine⟨⟨?_,?_⟩,?_⟩<;>(rintro rfl;revert h;decide)
