/-
  Terms are read: the second text.
-/
import Derived.Test.YtnghnjdabbjcnaaGreatDoorYd
set_option maxHeartbeats 0
set_option maxRecDepth 100000
namespace Go.Vm
variable {w:List UInt8} {k:Int}
theorem Zrw {i:Nat} (h:Zc3[i]? = some w):V7 w=i:=by
 have hi:i<6:=by have:=Zy h;simpa[Zc3] using this
 have hc:i=0∨i=1∨i=2∨i=3∨i=4∨i=5:=by omega
 rcases hc with rfl|rfl|rfl|rfl|rfl|rfl<;>(simp only[Zc3]at h;cases h;decide)
theorem Zql {n:Int} (h:0≤V7 w) (hn:V7 w=n):∃i:Nat,n=i∧Zc3[i]? = some w:=by
 unfold V7 at h hn;repeat' split at hn
 all_goals first
  | (rename_i h1;subst h1;exact⟨0,hn.symm,rfl⟩)
  | (rename_i h1;subst h1;exact⟨1,hn.symm,rfl⟩)
  | (rename_i h1;subst h1;exact⟨2,hn.symm,rfl⟩)
  | (rename_i h1;subst h1;exact⟨3,hn.symm,rfl⟩)
  | (rename_i h1;subst h1;exact⟨4,hn.symm,rfl⟩)
  | (rename_i h1;subst h1;exact⟨5,hn.symm,rfl⟩)
  | skip
 rename_i h1 h2 h3 h4 h5 h6;rw[if_neg h1,if_neg h2,if_neg h3,if_neg h4,if_neg h5,if_neg h6]at h;omega
theorem ZoB (nm s:List UInt8) (h:Z7 [58] s=true) {so:Int} (hs:V7 (ZZ (s.drop 1))=so) (hk:(if k=1 then 1 else 0)≤so):V4 k nm s=(.mk k nm so true [],s.drop (1+(ZZ (s.drop 1)).length),true):=by rw[V4,if_pos h,hs,if_pos hk,List.drop_drop]
theorem Zoz (nm s:List UInt8) (h:Z7 [58] s=true) (hk:¬ (if k=1 then 1 else 0)≤V7 (ZZ (s.drop 1))):V4 k nm s=(.mk k nm 0 true [],s,false):=by rw[V4,if_pos h,if_neg hk]
theorem Zo7 (nm s:List UInt8) (h:¬ Z7 [58] s=true):V4 k nm s=(.mk k nm 0 true [],s,decide (k=1)):=by rw[V4,if_neg h]
end Go.Vm
namespace Go.Vm.Seat
variable {s:List UInt8}
open Go.Proofs
theorem ZtM (a b:Int):YS E0 .neq 3 (.int .i64 a) (.int .i64 b)=some (.bool (!decide (a=b))):=by show some (PV.bool (!(a==b)))=_;by_cases h:a=b<;>simp[h]
theorem Zsz (c:Int) (k:Int):YS E0 .eql 5 (.int .u8 c) (.int .u8 k)=some (.bool (decide (c=k))):=by show some (PV.bool (c==k))=_;by_cases h:c=k<;>simp[h]
theorem Zq3 (c:UInt8) (d:UInt8):YS E0 .neq 5 (.int .u8 (c.toNat:Int)) (.int .u8 (d.toNat:Int))=some (.bool (!decide (c=d))):=by
 show some (PV.bool (!((c.toNat:Int)==(d.toNat:Int))))=_;have:((c.toNat:Int)=(d.toNat:Int))↔c=d:=by rw[← UInt8.toNat_inj];omega
 by_cases h:c=d;{subst h;simp};{rw[decide_eq_false h];have h2:¬ (c.toNat:Int)=(d.toNat:Int):=fun e=>h (this.1 e);simp[h2]}
theorem Zif (t:Tm) (s:List UInt8) (b:Bool) (m:Nat) (H:Heap):frz3 m H (.tup [.agg t.cells,.str s,.bool b])=some (.tup [.agg t.cells,.str s,.bool b]):=by
 have h2:frz2 m H (.agg t.cells)=some (.agg t.cells):=by obtain⟨k,nm,s,b,kz⟩:=t;show(match XO m H [.int .i64 k,.str nm,.int .i64 s,slV b 4 (Za kz)] with|some cs'=>some (PV.agg cs')|none=>none)=_;simp only[XO,U2];rfl
 rw[Y2];simp only[X4,h2];rfl
theorem ZuP (hs:s.length≤1000000):∀H,CO 141 [.str s] H (.str (ZZ s)) H:=by
 have hnl:=Wj s;have hsm:=ZrH (s:=s) (k:=(ZZ s).length) hnl;have htk:s.take (ZZ s).length=ZZ s:=by exact Za0 _
 rw[htk]at hsm;obtain⟨nm,hnm⟩:∃nm,nm=ZZ s:=⟨_,rfl⟩;rw[← hnm]at hsm hnl ⊢;refine Jw tOk fe141.ok rfl ?_;repeat' first|refine Jo ?_|fail
 refine Wp.while (fun m tm H=>∃(j:Nat) (base:TM),j+m=nm.length∧(ZZ (s.drop j)).length=m∧tm=ovr base [(0,.str s),(3,.int .i64 (j:Int))]∧H=hNil)
  (fun m tm H hI=>?_) nm.length _ _ ⟨0,_,by omega,by rw[hnm];rfl,Zd ⟨rfl,rfl,trivial⟩,rfl⟩
 obtain⟨j,base,hj,hm,rfl,rfl⟩:=hI;have hlx:=Zv (j:Int) (s.length:Int);by_cases hlt:j<s.length
 ·rw[decide_eq_true (by omega)]at hlx;obtain⟨c,hc⟩:∃c,s[j]? = some c:=⟨s[j],by simp⟩;have hx:=Zhm hc;have cL:=c94 (c.toNat:Int);have cD:=c95 (c.toNat:Int);have e1:=Zsz (c.toNat:Int) 95;have e2:=Zsz (c.toNat:Int) 35;rw[Zfx hc]at hm;have hpb:Xk c=(Zex (c.toNat:Int)||(Zmk (c.toNat:Int)||(decide ((c.toNat:Int)=95)||decide ((c.toNat:Int)=35)))):=rfl;have had:=Wa (a:=(j:Int)) (b:=1) (by omega) (by omega);rw[show(j:Int)+1=((j+1:Nat):Int) by omega]at had;generalize Zex (c.toNat:Int)=B1 at cL hpb;generalize Zmk (c.toNat:Int)=B2 at cD hpb;generalize decide ((c.toNat:Int)=95)=B3 at e1 hpb;generalize decide ((c.toNat:Int)=35)=B4 at e2 hpb;cases hB:Xk c with
  | true=>
   rw[if_pos hB,List.length_cons]at hm;rw[hB]at hpb;(have go:(ZZ (s.drop (j+1))).length=m-1:=by omega);(have hj2:j+1+(m-1)=nm.length:=by omega);(have hml:m-1<m:=by omega);clear hm hj hnl htk;cases B1<;>cases B2<;>cases B3<;>cases B4;all_goals first
    | (exfalso;revert hpb;decide)
    | skip
   all_goals
    repeat' first|refine Jk ?_|refine Jc (cL _) ?_|refine Jc (cD _) ?_|refine KL ?_|fail
    exact LoopI.go (m-1) hml ⟨j+1,_,hj2,go,Zd ⟨rfl,rfl,trivial⟩,rfl⟩
  | false=>
   rw[if_neg (by rw[hB];decide)]at hm;(have hjn:j=nm.length:=by simp at hm;omega);subst hjn;rw[hB]at hpb;cases B1<;>cases B2<;>cases B3<;>cases B4;all_goals first
    | (exfalso;revert hpb;decide)
    | skip
   (repeat' first|refine Jc (cL _) ?_|refine Jc (cD _) ?_|refine JS ?_|refine KL ?_|fail);all_goals rfl
 ·have hjn:j=nm.length:=by omega
  subst hjn;rw[decide_eq_false (by omega)]at hlx;repeat' first|refine Jk ?_|refine JS ?_|refine Kd ?_|fail
  all_goals rfl
theorem ZtJ:((List.range 6).all fun i=>Ui E0 60 60 ⟨118,[.int .i64 (i:Int)],.str ((Zc3[i]?).getD [])⟩)=true:=by kernel_rfl
theorem ZvB {i:Nat} {w:List UInt8} (h:Zc3[i]? = some w):∀H,CO 118 [.int .i64 (i:Int)] H (.str w) H:=by
 have hi:i<6:=by have:=Zy h;simpa[Zc3] using this
 have:=XD tOk follows fOk zOk (List.all_eq_true.1 ZtJ i (List.mem_range.2 hi));rw[h]at this;exact this
theorem Zw9 {k:Int} (hk:k=1∨k=2) (nm:List UInt8) (hs:s.length≤1000000):∀H,CO 142 [.agg (Tm.mk k nm 0 true []).cells,.str s] H (.tup [.agg (V4 k nm s).1.cells,.str (V4 k nm s).2.1,.bool (V4 k nm s).2.2]) H:=by
 have hk1:=Z0 k 1;have hk2:=Z0 k 2;have zc:∀so,(Tm.mk k nm so true []).cells= [.int .i64 k,.str nm,.int .i64 so,.nils]:=fun so=>by simp[Tm.cells,Za,Zi]
 by_cases h58:Z7 [58] s=true;case neg=>
  rw[Zo7 nm s h58]
  simp only[zc]
  generalize decide (k=1)=B at hk1 ⊢
  cases s with
  | nil =>
    have hlq:=Z0 (([]:List UInt8).length:Int) 0
    rw[decide_eq_true (show((([]:List UInt8).length:Nat):Int)=0 from rfl)]at hlq
    refine ZS (own:=(fun d=>[29999,50040,50048].any (Nat.beq d))) tOk fe142.ok rfl rfl ?_
    refine Wp.seq ?_
    repeat' first|refine KF ?_|refine JD ?_|refine Kg ?_|fail
    all_goals rfl
  | cons c r =>
    have hlq:=Z0 ((c::r).length:Int) 0
    rw[decide_eq_false (by rw[List.length_cons];omega)]at hlq
    have hx:=Zhm (s:=c::r) (i:=0) (c:=c) rfl
    have he:=Zq3 c 58
    rw[show decide (c=58)=false by rw[← Ud 58 c r];simpa using h58]at he
    generalize c::r=s at hlq hx hs ⊢
    refine ZS (own:=(fun d=>[29999,50040,50048].any (Nat.beq d))) tOk fe142.ok rfl rfl ?_
    refine Wp.seq ?_
    repeat' first|refine KL ?_|refine JD ?_|refine Kg ?_|fail
    all_goals rfl
 obtain⟨r,rfl⟩:=XY h58;have hlq:=Z0 ((58::r).length:Int) 0;rw[decide_eq_false (by rw[List.length_cons];omega)]at hlq;have hx:=Zhm (s:=58::r) (i:=0) (c:=58) rfl;have he:=Zq3 58 58;rw[decide_eq_true rfl]at he;have hsl:=ZoR (s:=58::r) (k:=1) (by simp);have cN:=ZuP (s:=(58::r).drop 1) (by simp at hs ⊢;omega);have hwl:=Wj ((58::r).drop 1);rw[List.length_drop,List.length_cons]at hwl;have hsw:=ZoR (s:=58::r) (k:=1+(ZZ ((58::r).drop 1)).length) (by rw[List.length_cons];omega);have had:=Wa (a:=1) (b:=((ZZ ((58::r).drop 1)).length:Int)) (by omega) (by rw[List.length_cons]at hs;omega);rw[show(1:Int)+((ZZ ((58::r).drop 1)).length:Int)=((1+(ZZ ((58::r).drop 1)).length:Nat):Int) by omega]at had;have ly:=fun so hs2 hk=>ZoB (k:=k) nm (58::r) h58 (so:=so) hs2 hk;have ln:=Zoz (k:=k) nm (58::r) h58;obtain⟨res,hres⟩:∃res,res=PV.tup [.agg (V4 k nm (58::r)).1.cells,.str (V4 k nm (58::r)).2.1,.bool (V4 k nm (58::r)).2.2]:=⟨_,rfl⟩;rw[← hres];have hfr:∀m H,frz3 m H res=some res:=fun m H=>by rw[hres];exact Zif _ _ _ _ _
 generalize ZZ ((58::r).drop 1)=w at cN hwl hsw had ly ln;generalize (58::r).drop 1=r1 at hsl cN;generalize (58::r).drop (1+w.length)=r2 at hsw ly;simp only[zc]at ⊢;clear h58 hwl;refine ZS (own:=(fun d=>[29999,50040,50048].any (Nat.beq d))) tOk fe142.ok rfl (hfr _ _) ?_;refine Wp.seq ?_;repeat' first|refine Jc (cN _) ?_|refine JS ?_|refine KL ?_|fail
 refine Wp.while (fun m tm H => ∃(i : Nat) (base : TM), i + m = 6 ∧ (∀j : Nat, j < i → Zc3[j]? = some w → k = 1 ∧ j = 0) ∧ tm = ovr base [(1, .str (58 :: r)), (2, .ptr 0 4 0 0), (4, .ptr 1 4 0 0), (7, .str w), (8, .int .i64 (i : Int))] ∧
   H=⟨[.cells 4 [[.int .i64 k,.str nm,.int .i64 0,.nils]],.cells 4 [zcQ]],0,[],0⟩)
  (fun m tm H hI=>?_) 6 _ _ ⟨0,_,by omega,fun j hj=>absurd hj (by omega),Zd ⟨rfl,rfl,rfl,rfl,rfl,trivial⟩,rfl⟩
 obtain⟨i,base,hi,hno,rfl,rfl⟩:=hI;have hle:=Ve (i:Int) 5;by_cases hlt:i<6;{rw[decide_eq_true (by omega)]at hle;obtain⟨x,hxw⟩:∃x,Zc3[i]? = some x:=⟨Zc3[i]'(by simp[Zc3];omega),by simp⟩;have cW:=ZvB hxw;have heq:=Zmh w x;have hi0:=ZtM (i:Int) 0;have hii:=Wa (a:=(i:Int)) (b:=1) (by omega) (by omega);rw[show(i:Int)+1=((i+1:Nat):Int) by omega]at hii;by_cases c1:w=x;{rw[decide_eq_true c1]at heq;by_cases c2:i=0∧k=1;{rw[decide_eq_true (by omega)]at hi0;rw[decide_eq_false (by omega)]at hk2;(have hno2:∀j:Nat,j<i+1→Zc3[j]? = some w→k=1∧j=0:=fun j hj hw=>by by_cases e:j=i;{exact⟨c2.2,by omega⟩};{exact hno j (by omega) hw});clear hno ly ln hres hfr;(repeat' first|refine Jc (cW _) ?_|refine Kd ?_|fail);exact LoopI.go (m-1) (by omega) ⟨i+1,_,by omega,hno2,Zd ⟨rfl,rfl,rfl,rfl,rfl,trivial⟩,rfl⟩};{subst c1;have hl:=ly i (Zrw hxw) (by split<;>omega);rw[hl]at hres;simp only[zc]at hres;subst hres;clear hl ly ln hno;by_cases c3:i=0;{rw[decide_eq_true (by omega)]at hi0;rw[decide_eq_true (by omega)]at hk2;(repeat' first|refine Jc (cW _) ?_|refine Kd ?_|refine Ke ?_|refine JD ?_|refine Ks ?_|refine Kg ?_|fail);all_goals exact hfr _ _};{rw[decide_eq_false (by omega)]at hi0;(repeat' first|refine Jk ?_|refine Jc (cW _) ?_|refine Kd ?_|refine Ke ?_|refine JD ?_|refine Ks ?_|refine Kg ?_|fail);all_goals exact hfr _ _}}};{rw[decide_eq_false c1]at heq;(have hno2:∀j:Nat,j<i+1→Zc3[j]? = some w→k=1∧j=0:=fun j hj hw=>by by_cases e:j=i;{subst e;rw[hxw]at hw;exact absurd (Option.some.inj hw).symm c1};{exact hno j (by omega) hw});clear hno ly ln hres hfr;(repeat' first|refine Jk ?_|refine Jc (cW _) ?_|refine Kd ?_|fail);exact LoopI.go (m-1) (by omega) ⟨i+1,_,by omega,hno2,Zd ⟨rfl,rfl,rfl,rfl,rfl,trivial⟩,rfl⟩}}
 ·rw[decide_eq_false (by omega)]at hle;have hl:=ln fun h=>by(have h0:0≤V7 w:=by split at h<;>omega);obtain⟨n,hn⟩:∃n,V7 w=n:=⟨_,rfl⟩;obtain⟨j,hj,hjw⟩:=Zql h0 hn;(have hj6:j<6:=by have:=Zy hjw;simpa[Zc3] using this);obtain⟨e1,e2⟩:=hno j (by omega) hjw;rw[if_pos e1]at h;omega
  rw[hl]at hres;simp only[zc]at hres;subst hres;clear hl ly ln hno;repeat' first|refine Kd ?_|fail
  all_goals exact hfr _ _
end Go.Vm.Seat
namespace Go.Vm
variable {s:List UInt8} {g:List UInt8→Tm×List UInt8×Bool} {n:Nat} {l:List Tm}
theorem Zp6 (k:UInt8) (s:List UInt8):Z7 [k] s=false→s= []∨∃c r,s=c::r∧c≠k:=fun h=>by
 cases s with
 |nil=>exact .inl rfl
 | cons c r =>
   rw[Ud]at h
   exact .inr ⟨c,r,rfl,by simpa using h⟩
theorem ZjM (c d:UInt8) (s:List UInt8):Z7 [c,d] s=if s.length<2 then false else decide (s.take 2= [c,d]):=by
 split
 ·rename_i h;match s,h with
  | [],_=>exact XB _ _
  | [a],_=>simp[Z7]
 {rfl}
theorem ZqL {d:Nat} (hs:s.length≤1000000) (h:(rdG d s).2.2=true):(rdG d s).2.1.length+1≤s.length:=by have e:=ZnZ d s;rw[okG,if_pos h]at e;have:=(UJ d s _ _ hs e).len;have:=Xw (rdG d s).1;omega
theorem ZnI (d:Nat) (s:List UInt8):rdG d s=if Z5 (ZZ (bhV s))=false∨d=0 then(.mk (kdV s) (ZZ (bhV s)) 0 true [],bhV s,false) else if kdV s=1∨Z7 [40] ((bhV s).drop (ZZ (bhV s)).length)=false then V4 (kdV s) (ZZ (bhV s)) ((bhV s).drop (ZZ (bhV s)).length) else(.mk 3 (ZZ (bhV s)) 0 true (Za2 (rdG (d-1)) ((bhV s).drop (ZZ (bhV s)).length).length [] (((bhV s).drop (ZZ (bhV s)).length).drop 1)).1,(Za2 (rdG (d-1)) ((bhV s).drop (ZZ (bhV s)).length).length [] (((bhV s).drop (ZZ (bhV s)).length).drop 1)).2):=by
 have hk:kdV s=1↔Z7 [63] s=true:=by unfold kdV;split;{rename_i h;simp[h]};{rename_i h;simp[h]}
 cases d with
 |zero=>rw[if_pos (.inr rfl)];rfl
 |succ d=>rw[rdG];by_cases h1:Z5 (ZZ (bhV s))=false;{rw[if_pos h1,if_pos (.inl h1)]};{(have h1':¬ (Z5 (ZZ (bhV s))=false∨d+1=0):=by rintro(h|h);exact h1 h;cases h);rw[if_neg h1,if_neg h1'];by_cases h2:Z7 [63] s=true∨Z7 [40] ((bhV s).drop (ZZ (bhV s)).length)=false;{(have h2':kdV s=1∨Z7 [40] ((bhV s).drop (ZZ (bhV s)).length)=false:=by rcases h2 with h|h;exact .inl (hk.2 h);exact .inr h);rw[if_pos h2,if_pos h2']};{(have h2':¬ (kdV s=1∨Z7 [40] ((bhV s).drop (ZZ (bhV s)).length)=false):=by rintro(h|h);exact h2 (.inl (hk.1 h));exact h2 (.inr h));rw[if_neg h2,if_neg h2'];rfl}}
theorem Zmf (g:List UInt8→Tm×List UInt8×Bool) (n:Nat) (l:List Tm):Za2 g (n+1) l []=(l,[],false):=by rw[Za2,if_pos rfl]
theorem Zk4 (g:List UInt8→Tm×List UInt8×Bool) (n:Nat) (l:List Tm) (r:List UInt8):Za2 g (n+1) l (41::r)=(l,r,true):=by rw[Za2,if_neg (by simp),if_pos (by rw[Ud];decide)];rfl
theorem Zln (h0:s≠ []) (h1:¬ Z7 [41] s=true) (h2:l≠ []) (h3:Z7 [44,32] s=false):Za2 g (n+1) l s=(l,s,false):=by rw[Za2,if_neg h0,if_neg h1,if_pos ⟨h2,h3⟩]
theorem ZnS {s':List UInt8} (h0:s≠ []) (h1:¬ Z7 [41] s=true) (h2:¬ (l≠ []∧Z7 [44,32] s=false)) (h3:s'=if l= [] then s else s.drop 2):Za2 g (n+1) l s=if(g s').2.2=false then(l,s',false) else Za2 g n (l++ [(g s').1]) (g s').2.1:=by rw[Za2,if_neg h0,if_neg h1,if_neg h2,h3]
end Go.Vm
namespace Go.Vm.Seat
variable {c:UInt8} {r:List UInt8}
open Go.Proofs
theorem Zqq (a b:List UInt8):YS E0 .neq 9 (.str a) (.str b)=some (.bool (!decide (a=b))):=by show some (PV.bool (!(a==b)))=_;by_cases h:a=b<;>simp[h]
theorem Zs0:Z1 E0 9 (.str (c::r)) (some (.int .i64 1)) none none=some (.str r):=ZoR (s:=c::r) (k:=1) (by simp)
theorem ZwW (c k:UInt8):YS E0 .eql 5 (.int .u8 (c.toNat:Int)) (.int .u8 (k.toNat:Int))=some (.bool (decide (c=k))):=by
 rw[Zsz];have:((c.toNat:Int)=(k.toNat:Int))↔c=k:=by rw[← UInt8.toNat_inj];omega
 simp only[this]
theorem Zq7:Vb E0 9 (.str (c::r)) (.int .i64 0)=some (.int .u8 (c.toNat:Int)):=Zhm (s:=c::r) (i:=0) rfl
structure Beg (s s1:List UInt8) (k:Int):Prop where
 kd:kdV s=k
 bh:bhV s=s1
 c:(YS E0 .gtr 3 (.int .i64 (s.length:Int)) (.int .i64 0)=some (.bool false)∧s1=s∧k=2)∨
  (∃c:UInt8,YS E0 .gtr 3 (.int .i64 (s.length:Int)) (.int .i64 0)=some (.bool true)∧Vb E0 9 (.str s) (.int .i64 0)=some (.int .u8 (c.toNat:Int))∧YS E0 .eql 5 (.int .u8 (c.toNat:Int)) (.int .u8 63)=some (.bool true)∧Z1 E0 9 (.str s) (some (.int .i64 1)) none none=some (.str s1)∧k=1)∨
  (∃c:UInt8,YS E0 .gtr 3 (.int .i64 (s.length:Int)) (.int .i64 0)=some (.bool true)∧Vb E0 9 (.str s) (.int .i64 0)=some (.int .u8 (c.toNat:Int))∧YS E0 .eql 5 (.int .u8 (c.toNat:Int)) (.int .u8 63)=some (.bool false)∧s1=s∧k=2)
theorem beg (s:List UInt8):∃s1 k,Beg s s1 k:=by
 cases s with
 |nil=>exact⟨[],2,rfl,rfl,.inl ⟨rfl,rfl,rfl⟩⟩
 |cons c r=>
  have hg:YS E0 .gtr 3 (.int .i64 ((c::r).length:Int)) (.int .i64 0)=some (.bool true):=by have:=Y7 ((c::r).length:Int) 0;rwa [decide_eq_true (by rw[List.length_cons];omega)]at this
  have he:=ZwW c 63;by_cases h:c=63;{rw[decide_eq_true h]at he;(have hp:Z7 [63] (c::r)=true:=by rw[Ud];exact decide_eq_true h);exact⟨r,1,if_pos hp,if_pos hp,.inr (.inl ⟨c,hg,Zq7,he,Zs0,rfl⟩)⟩};{rw[decide_eq_false h]at he;(have hp:¬ Z7 [63] (c::r)=true:=by rw[Ud];simpa using h);exact⟨c::r,2,if_neg hp,if_neg hp,.inr (.inr ⟨c,hg,Zq7,he,rfl,rfl⟩)⟩}
theorem ZlN {nm:List UInt8} {l:List Tm} {o:PV} {lv:List Nat} {nt:Nat} (h:ApV true 4 (Za l) o lv nt) (s:List UInt8) (b:Bool) (m:Nat) (H:Heap):frz3 m H (.tup [.agg [.int .i64 3,.str nm,.int .i64 0,o],.str s,.bool b])=some (.tup [.agg (Tm.mk 3 nm 0 true l).cells,.str s,.bool b]):=by
 have h2:frz2 m H (.agg [.int .i64 3,.str nm,.int .i64 0,o])=some (.agg (Tm.mk 3 nm 0 true l).cells):=by show(match XO m H [.int .i64 3,.str nm,.int .i64 0,o] with|some cs'=>some (PV.agg cs')|none=>none)=_;simp only[XO,h.frzC];rfl
 rw[Y2];simp only[X4,h2];rfl
theorem Zm9 {d:Nat} (hd:d≤100000) (ih:∀e,d=e+1→∀s,s.length≤1000000→∀H,CO 96 [.str s,.int .i64 (e:Int)] H (.tup [.agg (rdG e s).1.cells,.str (rdG e s).2.1,.bool (rdG e s).2.2]) H) {s:List UInt8} (hs:s.length≤1000000):∀H,CO 96 [.str s,.int .i64 (d:Int)] H (.tup [.agg (rdG d s).1.cells,.str (rdG d s).2.1,.bool (rdG d s).2.2]) H:=by
 obtain⟨s1,k,hk,hs1,hB⟩:=beg s;have hl1:s1.length≤1000000:=by rw[← hs1];exact Nat.le_trans (ZjG s) hs
 have hal:=ZnI d s;rw[hk,hs1]at hal;have hkk:k=1∨k=2:=by rw[← hk];unfold kdV;split<;>simp
 clear hk hs1;have hnl:=Wj s1;have cN:=ZuP hl1;have cI:=c62 (ZZ s1) (by have:maxLen=9223372036854775807:=rfl;omega);have hd0:=Z0 (d:Int) 0;have hk1:=Z0 k 1;have hsl:=ZoR (s:=s1) (k:=(ZZ s1).length) hnl;generalize ZZ s1=nm at hal cN cI hsl hnl;obtain⟨res,hres⟩:∃res,res=PV.tup [.agg (rdG d s).1.cells,.str (rdG d s).2.1,.bool (rdG d s).2.2]:=⟨_,rfl⟩;rw[← hres];have hfr:∀m H,frz3 m H res=some res:=fun m H=>by rw[hres];exact Zif _ _ _ _ _
 rw[hal]at hres;clear hal;by_cases h1:Z5 nm=false∨d=0
 ·rw[if_pos h1]at hres;simp only[W0]at hres;subst hres;refine Jw tOk fe96.ok (hfr _ _) ?_;cases hn:Z5 nm with
  | false=>
   rw[hn]at cI;clear hnl hl1 ih hs hd;rcases hB with⟨b1,b2,b3⟩|⟨c0,b1,b2,b3,b4,b5⟩|⟨c0,b1,b2,b3,b4,b5⟩;all_goals
    subst_vars
    repeat' first|refine Jk ?_|refine Jc (cN _) ?_|refine Jc (cI _) ?_|refine JS ?_|refine KL ?_|fail
    all_goals exact hfr _ _
  | true=>
   rw[hn]at cI;(have hdz:d=0:=by rcases h1 with h|h;rw[hn]at h;cases h;exact h);rw[decide_eq_true (by omega)]at hd0;clear hnl hl1 ih hs hd hdz h1;rcases hB with⟨b1,b2,b3⟩|⟨c0,b1,b2,b3,b4,b5⟩|⟨c0,b1,b2,b3,b4,b5⟩;all_goals
    subst_vars
    repeat' first|refine Jk ?_|refine Jc (cN _) ?_|refine Jc (cI _) ?_|refine JS ?_|refine KL ?_|fail
    all_goals exact hfr _ _
 rw[if_neg h1]at hres;have hn:Z5 nm=true:=by
  cases h:Z5 nm with
  | true=>rfl
  | false=>exact absurd (.inl h) h1
 obtain⟨e,rfl⟩:∃e,d=e+1:=⟨d-1,by omega⟩;rw[decide_eq_false (by omega)]at hd0;rw[hn]at cI;have ih:=ih e rfl;rw[Nat.add_sub_cancel]at hres;clear h1 hn;have hl2:(s1.drop nm.length).length≤1000000:=by rw[List.length_drop];omega
 generalize s1.drop nm.length=s2 at hsl hres hl2;have cL:=Zw9 hkk nm hl2;by_cases h2:k=1∨Z7 [40] s2=false
 ·rw[if_pos h2]at hres;rw[← hres]at cL;have hres2:∃x:Tm×List UInt8×Bool,res=PV.tup [.agg x.1.cells,.str x.2.1,.bool x.2.2]:=⟨_,hres⟩;obtain⟨x,hx⟩:=hres2;clear hres;subst hx;obtain⟨⟨x1,x2,x3,x4,x5⟩,y2,y3⟩:=x;simp only[Tm.cells]at cL hfr ⊢;simp only[Za,Zi]at cL;refine Jw tOk fe96.ok (hfr _ _) ?_;by_cases h3:k=1
  ·rw[decide_eq_true h3]at hk1;clear hnl hl1 hl2 ih hs hd h2;rcases hB with⟨b1,b2,b3⟩|⟨c0,b1,b2,b3,b4,b5⟩|⟨c0,b1,b2,b3,b4,b5⟩;(all_goals try (exfalso;omega));all_goals
    subst_vars
    repeat' first|refine Jk ?_|(apply qCl;rfl;rfl;rfl;rfl;first|exact cN _|exact cI _|exact cL _)|refine JS ?_|refine KL ?_|fail
    all_goals exact hfr _ _
  ·rw[decide_eq_false h3]at hk1;have h4:Z7 [40] s2=false:=h2.resolve_left h3;rcases Zp6 40 s2 h4 with rfl|⟨c,r,rfl,hc⟩
   ·have hq := Z0 ((([] : List UInt8).length : Nat) : Int) 0;rw[decide_eq_true (show((([]:List UInt8).length:Nat):Int)=0 from rfl)]at hq;clear hnl hl1 hl2 ih hs hd h2 h4;rcases hB with⟨b1,b2,b3⟩|⟨c0,b1,b2,b3,b4,b5⟩|⟨c0,b1,b2,b3,b4,b5⟩;all_goals
     subst_vars
     first
      | (exfalso;exact h3 rfl)
      | skip
     repeat' first|refine Jk ?_|(apply qCl;rfl;rfl;rfl;rfl;first|exact cN _|exact cI _|exact cL _)|refine JS ?_|refine KL ?_|fail
     all_goals exact hfr _ _
   ·have hq := Z0 (((c :: r).length : Nat) : Int) 0;rw[decide_eq_false (by rw[List.length_cons];omega)]at hq;have hx:=Zq7 (c:=c) (r:=r);have he:YS E0 .neq 5 (.int .u8 (c.toNat:Int)) (.int .u8 40)=some (.bool (!decide (c=40))):=Zq3 c 40;rw[decide_eq_false hc]at he;clear hnl hl1 hl2 ih hs hd h2 h4;generalize c::r=s2 at hq hx cL hsl;rcases hB with⟨b1,b2,b3⟩|⟨c0,b1,b2,b3,b4,b5⟩|⟨c0,b1,b2,b3,b4,b5⟩;all_goals
     subst_vars
     first
      | (exfalso;exact h3 rfl)
      | skip
     repeat' first|refine Jk ?_|(apply qCl;rfl;rfl;rfl;rfl;first|exact cN _|exact cI _|exact cL _)|refine JS ?_|refine KL ?_|fail
     all_goals exact hfr _ _
 rw[if_neg h2]at hres;have h3:k=2:=by rcases hkk with h|h;exact absurd (.inl h) h2;exact h
 have h4:Z7 [40] s2=true:=by
  cases h:Z7 [40] s2 with
  | true=>rfl
  | false=>exact absurd (.inr h) h2
 obtain⟨r,rfl⟩:=XY h4;rw[decide_eq_false (by omega)]at hk1;have hq:=Z0 (((40::r:List UInt8).length:Nat):Int) 0;rw[decide_eq_false (by rw[List.length_cons];omega)]at hq;have hx:=Zq7 (c:=40) (r:=r);have he:YS E0 .neq 5 (.int .u8 ((40:UInt8).toNat:Int)) (.int .u8 40)=some (.bool (!decide ((40:UInt8)=40))):=Zq3 40 40;rw[decide_eq_true rfl]at he;have hs2:=Zs0 (c:=40) (r:=r);rw[List.length_cons]at hl2;rw[show(40::r:List UInt8).drop 1=r from rfl,List.length_cons]at hres;have hsb:=Zmc (a:=((e+1:Nat):Int)) (b:=1) (by omega) (by omega);rw[show((e+1:Nat):Int)-1=(e:Int) by omega]at hsb;have hgl:=fun s=>ZqL (d:=e) (s:=s);generalize rdG e=g at ih hres hgl;generalize (40::r:List UInt8)=s2 at hq hx hs2 hsl;subst h3;clear hnl hl1 hd h2 h4 hkk cL;refine Jw tOk fe96.ok (hfr _ _) ?_;rcases hB with⟨b1,b2,b3⟩|⟨c0,b1,b2,b3,b4,b5⟩|⟨c0,b1,b2,b3,b4,b5⟩;all_goals try (exfalso;omega)
 all_goals
  try subst b2
  try subst b4
  repeat' first|refine Jk ?_|refine Jc (cN _) ?_|refine Jc (cI _) ?_|refine JS ?_|refine KL ?_|fail
  clear cN cI hq hx he hs2 hk1 hd0 hsl
  refine Wp.while (fun m tm H => ∃(l : List Tm) (cur : List UInt8) (base : TM) (o : PV) (lv : List Nat) (nt : Nat), cur.length < m ∧ cur.length ≤ r.length ∧ l.length + cur.length ≤ r.length ∧ res = .tup [.agg (Tm.mk 3 nm 0 true (Za2 g m l cur).1).cells, .str (Za2 g m l cur).2.1, .bool (Za2 g m l cur).2.2] ∧
    ApV true 4 (Za l) o lv nt∧tm=ovr base [(0,.str cur),(1,.int .i64 ((e+1:Nat):Int)),(4,.ptr 0 4 0 0),(7,.ptr 1 4 0 0)]∧H=⟨[.cells 4 [zcQ],.cells 4 [[.int .i64 3,.str nm,.int .i64 0,o]]],0,lv,nt⟩)
   (fun m tm H hI=>Wp.drop ?_) (r.length+1) _ _ ⟨[],r,_,.nils,[],0,by omega,Nat.le_refl _,by simp,hres,.nil _ _ rfl,Zd ⟨rfl,rfl,rfl,rfl,trivial⟩,rfl⟩
  clear hres
  obtain⟨l,cur,base,o,lv,nt,hm,hcl,hll,hres,hO,rfl,rfl⟩:=hI
  obtain⟨m,rfl⟩:∃m',m=m'+1:=⟨m-1,by omega⟩
  have hfz:=fun (m:Nat) (H:Heap) (s:List UInt8) (b:Bool)=>ZlN (nm:=nm) hO s b m H
  have hlg:=Y7 (cur.length:Int) 0
  have hlq:=Z0 (cur.length:Int) 0
  obtain⟨qo1,qo2⟩:=WR hO
  have hqc:[PV.int .i64 3,.str nm,.int .i64 0,o].all ZP=true:=by simp only[List.all_cons,List.all_nil,Bool.and_true]at qo2 ⊢;rw[qo2];rfl
  by_cases h0:cur= []
  · subst h0
    rw[Zmf]at hres
    rw[decide_eq_false (by simp)]at hlg
    rw[decide_eq_true (by simp)]at hlq
    subst hres
    clear hfr ih hgl
    repeat' first|refine KF ?_|fail
    all_goals exact hfz _ _ _ _
  obtain⟨c,q,rfl⟩:∃c q,cur=c::q:=List.exists_cons_of_ne_nil h0
  rw[List.length_cons]at hm hcl hll
  rw[decide_eq_true (by rw[List.length_cons];omega)]at hlg
  rw[decide_eq_false (by rw[List.length_cons];omega)]at hlq
  have hx:=Zq7 (c:=c) (r:=q)
  have he:YS E0 .neq 5 (.int .u8 (c.toNat:Int)) (.int .u8 41)=some (.bool (!decide (c=41))):=Zq3 c 41
  by_cases h41:c=41
  · subst h41
    rw[Zk4]at hres
    rw[decide_eq_true rfl]at he
    have hsq:=Zs0 (c:=41) (r:=q)
    subst hres
    clear hfr ih hgl h0
    generalize (41::q:List UInt8)=cur at hx hsq hlg hlq
    repeat' first|refine KL ?_|refine Ke ?_|refine Ks ?_|refine Kg ?_|fail
    all_goals exact hfz _ _ _ _
  rw[decide_eq_false h41]at he
  have h41b:¬ Z7 [41] (c::q)=true:=by rw[Ud];simpa using h41
  have hle:=ZiK hO
  rw[Zb]at hle
  have hgt:=Y7 (l.length:Int) 0
  have hl2:=Zv ((c::q).length:Int) 2
  generalize hcur:(c::q:List UInt8)=cur at hx hlg hlq h0 h41b hl2 hres
  have hcl2:cur.length=q.length+1:=by rw[← hcur];rfl
  clear hlq
  by_cases h44:l≠ []∧Z7 [44,32] cur=false
  · rw[Zln h0 h41b h44.1 h44.2]at hres
    rw[decide_eq_true (by have:=List.length_pos_iff.2 h44.1;omega)]at hgt
    have h5:=h44.2
    rw[ZjM]at h5
    subst hres
    clear hfr ih hgl
    by_cases h6:cur.length<2
    · rw[decide_eq_true (by omega)]at hl2
      clear h44 h5
      repeat' first|refine Jk ?_|refine JX ?_|refine KW ?_|fail
      all_goals exact hfz _ _ _ _
    · rw[if_neg h6]at h5
      rw[decide_eq_false (by omega)]at hl2
      have hs2:=ZrH (s:=cur) (k:=2) (by omega)
      have hns:=Zqq (cur.take 2) [44,32]
      rw[h5]at hns
      generalize cur.take 2=z at hs2 hns
      clear h44 h5
      repeat' first|refine JS ?_|refine JX ?_|refine KW ?_|fail
      all_goals exact hfz _ _ _ _
  obtain⟨cu2,hcu2⟩:∃cu2,cu2=if l= [] then cur else cur.drop 2:=⟨_,rfl⟩
  rw[ZnS h0 h41b h44 hcu2]at hres
  have hc2l:cu2.length≤cur.length:=by rw[hcu2];split<;>simp
  have hcr:=ih cu2 (by omega)
  have hgl2:=hgl cu2 (by omega)
  clear ih hgl
  generalize g cu2=gx at hres hcr hgl2
  obtain⟨⟨xk,xn,xs,xb,xl⟩,rs,ok⟩:=gx
  simp only[Tm.cells]at hcr
  have hsep:l= []∨(l≠ []∧cu2=cur.drop 2∧YS E0 .lss 3 (.int .i64 (cur.length:Int)) (.int .i64 2)=some (.bool false)∧Z1 E0 9 (.str cur) none (some (.int .i64 2)) none=some (.str (cur.take 2))∧YS E0 .neq 9 (.str (cur.take 2)) (.str [44,32])=some (.bool false)∧Z1 E0 9 (.str cur) (some (.int .i64 2)) none none=some (.str (cur.drop 2))):=by
   by_cases hl:l= []
   · exact .inl hl
   · refine .inr ⟨hl, by rw[hcu2, if_neg hl], ?_⟩
     have h5:Z7 [44,32] cur=true:=by
      cases h:Z7 [44,32] cur with
      | true=>rfl
      | false=>exact absurd ⟨hl,h⟩ h44
     rw[ZjM]at h5
     by_cases h6:cur.length<2
     · rw[if_pos h6]at h5;cases h5
     · rw[if_neg h6]at h5
       rw[decide_eq_false (by omega)]at hl2
       have hns:=Zqq (cur.take 2) [44,32]
       rw[h5]at hns
       exact⟨hl2,ZrH (k:=2) (by omega),hns,ZoR (k:=2) (by omega)⟩
  clear hl2 h44
  cases ok with
  | false =>
    simp only[if_true]at hres
    subst hres
    clear hfr hO hcl2 hc2l hgl2 hm hcl hll
    rcases hsep with hl|⟨hl,e2,e3,e4,e5,e6⟩
    · rw[if_pos hl]at hcu2
      rw[decide_eq_false (by rw[hl];simp)]at hgt
      subst hcu2
      clear hl
      repeat' first|refine Jc (hcr _) ?_|refine JX ?_|refine KW ?_|fail
      all_goals exact hfz _ _ _ _
    · rw[decide_eq_true (by have := List.length_pos_iff.2 hl; omega)]at hgt
      clear hcu2 hl
      subst e2
      generalize cur.take 2=z at e4 e5
      generalize cur.drop 2=cu2 at e6 hcr hfz
      repeat' first|refine Jc (hcr _) ?_|refine JS ?_|refine JX ?_|refine KW ?_|fail
      all_goals exact hfz _ _ _ _
  | true =>
    simp only[Bool.true_eq_false,if_false]at hres
    obtain⟨o4,lv4,nt4,hap,hO4, -⟩:=hO.app YD (.sl .full 4 [[.int .i64 xk,.str xn,.int .i64 xs,slV xb 4 (Za xl)]]) (Zs [.mk xk xn xs xb xl]) (ZQ (by rw[Zb];simp;omega) (by decide)) rfl
    rw[show Za l++ [[.int .i64 xk,.str xn,.int .i64 xs,slV xb 4 (Za xl)]]=Za (l++ [.mk xk xn xs xb xl]) by rw[Zt];rfl]at hO4
    obtain⟨qp1,qp2⟩:=WR hO4
    have hun:=hO4.under
    have hgl2:rs.length+1≤cu2.length:=hgl2 rfl
    have hb1:rs.length<m:=by omega
    have hb2:rs.length≤r.length:=by omega
    have hb3:(l++ [Tm.mk xk xn xs xb xl]).length+rs.length≤r.length:=by
     rw[List.length_append,List.length_singleton]
     omega
    clear hO hcl2 hc2l hgl2 hm hcl hll hfz
    rcases hsep with hl|⟨hl,e2,e3,e4,e5,e6⟩
    · rw[if_pos hl]at hcu2
      rw[decide_eq_false (by rw[hl];simp)]at hgt
      subst hcu2
      clear hl
      repeat' first|refine Jc (hcr _) ?_|refine Kv ?_|refine JX ?_|refine KW ?_|(apply qSt;rfl;rfl;assumption;exact IsL.n;rfl;assumption;(first|rfl|assumption);exact IsH.mkN)|fail
      refine DropQ.go [(0,.str rs),(1,.int .i64 ((e+1:Nat):Int)),(4,.ptr 0 4 0 0),(7,.ptr 1 4 0 0)] ⟨rfl,rfl,rfl,rfl,trivial⟩ (by simp[under]) rfl ?_ ?_
      · simp[Ys,ZC,under,hun]
      · exact LoopI.go m (Nat.lt_succ_self m) ⟨l++ [.mk xk xn xs xb xl],rs,_,o4,lv4,nt4,hb1,hb2,hb3,hres,hO4,rfl,rfl⟩
    · rw[decide_eq_true (by have := List.length_pos_iff.2 hl; omega)]at hgt
      clear hcu2 hl
      subst e2
      generalize cur.take 2=z at e4 e5
      generalize cur.drop 2=cu2 at e6 hcr
      repeat' first|refine Jc (hcr _) ?_|refine Kv ?_|refine JS ?_|refine JX ?_|refine KW ?_|(apply qSt;rfl;rfl;assumption;exact IsL.n;rfl;assumption;(first|rfl|assumption);exact IsH.mkN)|fail
      refine DropQ.go [(0,.str rs),(1,.int .i64 ((e+1:Nat):Int)),(4,.ptr 0 4 0 0),(7,.ptr 1 4 0 0)] ⟨rfl,rfl,rfl,rfl,trivial⟩ (by simp[under]) rfl ?_ ?_
      · simp[Ys,ZC,under,hun]
      · exact LoopI.go m (Nat.lt_succ_self m) ⟨l++ [.mk xk xn xs xb xl],rs,_,o4,lv4,nt4,hb1,hb2,hb3,hres,hO4,rfl,rfl⟩
theorem c96 (d:Nat):d≤100000→∀s:List UInt8,s.length≤1000000→∀H,CO 96 [.str s,.int .i64 (d:Int)] H (.tup [.agg (rdG d s).1.cells,.str (rdG d s).2.1,.bool (rdG d s).2.2]) H:=by
 induction d with
 |zero=>exact fun hd s hs=>Zm9 hd (fun e h=>absurd h (by omega)) hs
 |succ d ih=>exact fun hd s hs=>Zm9 hd (fun e h=>by obtain rfl:d=e:=(by omega);exact ih (by omega)) hs
