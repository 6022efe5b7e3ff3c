/-
  Normal forms in the second text: products and powers.
-/
import Derived.Test.YtnghnjdabbjcnaaGreatDoorVOl
set_option maxHeartbeats 0
set_option maxRecDepth 100000
namespace Go.Vm
variable {l:List Pw}
theorem Zgo {a b:PV} (h:Yc a=none∨Yc a≠Yc b):Yc b=none∨Yc b≠Yc a:=by
 rcases h with h|h
 ·cases e:Yc b with
  | none=>exact .inl rfl
  | some k=>exact .inr (by rw[h];simp)
 {exact .inr fun e=>h e.symm}
theorem Zh2 {i:Nat} {x:Pw} (h:l[i]? = some x):(l.drop i).any (fun x=>Ye x.2 8)=(Ye x.2 8||(l.drop (i+1)).any (fun x=>Ye x.2 8)):=by rw[Zw h];rfl
theorem Zfu (h:∀x,x∈l→Ye x.2 8=false):(Qw l).length≤8*l.length∧(Zbw l).length≤8*l.length:=by
 induction l with
 |nil=>simp[Qw,Zbw]
 |cons x r ih=>have h1:=h x List.mem_cons_self;obtain⟨h2,h3⟩:=ih fun y hy=>h y (List.mem_cons_of_mem _ hy);simp only[Ye,Bool.or_eq_false_iff,decide_eq_false_iff_not]at h1;simp only[Qw,Zbw,List.flatMap_cons,List.length_append,List.length_replicate,List.length_cons]at h2 h3 ⊢;omega
end Go.Vm
namespace Go.Vm.Seat
variable {L M:List Tm} {o2:PV} {lv:List Nat} {nt:Nat}
open Go.Proofs
theorem ZpW {out:PV} (hA:ApV true 4 (Za L) out lv nt) (hB:ApV true 4 (Za M) o2 lv nt) (hd:Yc o2=none∨Yc o2≠Yc out) (x:Tm) (hL:L.length≤1000000):∃out' lv' nt',(∀bx ro,ZP E0 30 30 out (.sl .full 4 [x.cells]) ⟨bx,ro,lv,nt⟩=some (out',⟨bx,ro,lv',nt'⟩))∧ApV true 4 (Za (L++ [x])) out' lv' nt'∧ApV true 4 (Za M) o2 lv' nt'∧(Yc o2=none∨Yc o2≠Yc out'):=by obtain⟨out',lv',nt',hap,hA',hk⟩:=hA.app YB (.sl .full 4 (Za [x])) (Zr _) (ZR (by simp only[Zb,List.length_cons,List.length_nil];omega) (by decide)) (Z0 _);rw[← Zs]at hA';obtain⟨h1,h2⟩:=hk _ _ _ _ hB hd;exact⟨out',lv',nt',hap,hA',h1,h2⟩
theorem Zlj (x:Tm):∀H,CO 225 [.str VG,.sl .full 4 [x.cells]] H (.agg (Zfb x).cells) H:=fun H=>by
 have:=ZsT VG [x] false H
 simp only[Zfb,Tm.cells,Za,Zp]at this ⊢
 exact Z2 this rfl
theorem ZrT {o1:PV} (hA:ApV true 4 (Za L) o1 lv nt) (hB:ApV true 4 (Za M) o2 lv nt):Z1 E0 236 2 [(0,o1),(1,o2)]=some (1,[[o1],[o2]])∧Yo [[o1],[o2]]=some [[slV true 4 (Za L)],[slV true 4 (Za M)]]:=by constructor;{generalize Za L=A at hA;generalize Za M=B at hB;cases hA<;>cases hB<;>rfl};{simp only[Yo,Vn,hA.frz1,hB.frz1]}
theorem Zrf {l:List Pw} (hl:PwB 1000000000 l) (hlen:l.length≤100000) (b:Bool):∀H,CO 208 [slV b 5 (pwL l)] H (.tup [.agg (Wb true l).1.cells,.int .i64 (Wb true l).2]) H:=by
 have hV:=ZsB (fun x hx=>(hl x hx).1) (by omega) b;unfold Wb;by_cases hp0:pvG l≠0
 ·rw[if_pos hp0];generalize pvG l=v at hV hp0 ⊢;have hne:=Y0 hp0;simp only[Zn];refine Jw tOk fe208.ok (Yi _ _ _) ?_;repeat' first|refine Jc (hV _) ?_|refine Ki ?_|fail
  all_goals rfl
 rw[if_neg hp0];have hp0:=Classical.not_not.1 hp0;rw[hp0]at hV;have hl200:=Ue hp0;have hpl:=ZT l;obtain⟨R,hR⟩:∃R,R=if l.any (fun x=>Ye x.2 8)=true then(Tm.zero,(3:Int)) else Zka true l:=⟨_,rfl⟩
 rw[← hR];refine Jw tOk fe208.ok (ZM 0 hNil R.1 R.2) ?_;repeat' first|refine Jc (hV _) ?_|refine KJ ?_|fail
 refine Wp.while (fun m tm H => ∃(i : Nat) (base : TM) (o1 o2 : PV) (lv : List Nat) (nt : Nat), i + m = l.length ∧ l.any (fun x => Ye x.2 8) = (l.drop i).any (fun x => Ye x.2 8) ∧ (∀x, x ∈ l.take i → Ye x.2 8 = false) ∧
   ApV true 4 (Za (Qw (l.take i))) o1 lv nt∧ApV true 4 (Za (Zbw (l.take i))) o2 lv nt∧(Yc o2=none∨Yc o2≠Yc o1)∧
   tm=ovr base [(5,o1),(6,o2),(2,.ptr 0 4 0 0),(18,slV b 5 (pwL l)),(19,.int .i64 (l.length:Int)),(20,.int .i64 (i:Int))]∧H=⟨[.cells 4 [zcT]],0,lv,nt⟩)
  (fun m tm H hI=>Wp.drop ?_) l.length _ _ ⟨0,_,_,_,_,_,by omega,by rw[List.drop_zero],fun x hx=>by simp at hx,.nil _ _ rfl,.nil _ _ rfl,.inl rfl,Ze ⟨rfl,rfl,rfl,rfl,Zg (by rw[hpl]),rfl,trivial⟩,rfl⟩
 obtain⟨i,base,o1,o2,lv,nt,hi,hgo,hall,hA,hB,hD,rfl,rfl⟩:=hI;have hBU:∀n,Yy n (.cells 4 [zcT])=true:=fun n=>rfl;by_cases hlt:i<l.length
 ·obtain⟨x,hx⟩:∃x,l[i]? = some x:=⟨l[i],by simp⟩;have hxs:=hl x (List.mem_of_getElem? hx);have hcl:=Zsw hxs.1.1 hxs.1.2;have hIv:=Zlj x.1;have hps:=ZdP hx;have hns:=ZcY hx;have hd:=Zh2 hx;obtain⟨hpL,hnL⟩:=Zfu hall;have htk:(l.take i).length≤l.length:=by rw[List.length_take];omega
  have hlx:=Zu (i:Int) (l.length:Int);rw[decide_eq_true (by omega)]at hlx;have hG:=Xq x.2 8;have hL:=Zu x.2 (-8);have hj:=Xb hx;by_cases hov:Ye x.2 8=true
  ·(have hany : l.any (fun x => Ye x.2 8) = true := by rw[hgo, hd, hov]; rfl);rw[if_pos hany]at hR;rw[hR];simp only[Zn];unfold Ye at hov;generalize decide (x.2< -8)=bL at hL hov;generalize decide ((8:Int)<x.2)=bG at hG hov;obtain⟨⟨k',nm',s',b',kz'⟩,xn⟩:=x;simp only[pwC,Tm.cells,List.cons_append,List.nil_append]at hj;clear hcl hIv;(cases bL<;>cases bG<;>first|(exact absurd hov (by decide))|skip);all_goals
    repeat' first|refine Jk ?_|refine KF ?_|fail
    all_goals rfl
  ·have hov := Bool.eq_false_iff.2 hov;(have hall':∀y,y∈l.take (i+1)→Ye y.2 8=false:=fun y hy=>by rw[List.take_add_one,hx]at hy;rcases List.mem_append.1 hy with hy|hy;{exact hall y hy};{(have : y = x := by simpa using hy);rw[this];exact hov});(have hgo':l.any (fun x=>Ye x.2 8)=(l.drop (i+1)).any (fun x=>Ye x.2 8):=by rw[hgo,hd,hov];rfl);have hov2:=hov;simp only[Ye,Bool.or_eq_false_iff,decide_eq_false_iff_not]at hov2;rw[decide_eq_false hov2.1]at hL;rw[decide_eq_false hov2.2]at hG;(have hw:IntKind.i64.wrap (0-x.2)= -x.2:=by rw[IntWalk.i64_in _ (by omega)];omega);obtain⟨X,hX⟩:∃X,X=x.1:=⟨_,rfl⟩;obtain⟨Y,hY⟩:∃Y,Y=Zfb x.1:=⟨_,rfl⟩;rw[← hX]at hps;rw[← hY]at hns hIv;(have hXc:X.cells=x.1.cells:=by rw[hX]);(have hYc:Y.cells= [.int .i64 3,.str VG,.int .i64 0,.sl .none 4 [x.1.cells]]:=by rw[hY];simp only[Zfb,Tm.cells,Za,Zp]);rw[hYc]at hIv;clear hX hY hd hgo hall hov hR;generalize Qw (l.take i)=P at hA hps hpL;generalize Zbw (l.take i)=Q at hB hns hnL;obtain⟨⟨k',nm',s',b',kz'⟩,xn⟩:=x;simp only[pwC,Tm.cells,List.cons_append,List.nil_append,VG]at hj hcl hIv hXc hYc hps hns hov2 hw hL hG;(repeat' first|refine KF ?_|fail);refine Wp.while (fun m2 tm H => ∃(k : Nat) (base : TM) (o1 o2 : PV) (lv : List Nat) (nt : Nat), k + m2 = xn.toNat ∧ ApV true 4 (Za (P ++ List.replicate k X)) o1 lv nt ∧ ApV true 4 (Za Q) o2 lv nt ∧ (Yc o2 = none ∨ Yc o2 ≠ Yc o1) ∧
     tm=ovr base [(5,o1),(6,o2),(2,.ptr 0 4 0 0),(8,.ptr 1 5 0 0),(18,slV b 5 (pwL l)),(19,.int .i64 (l.length:Int)),(20,.int .i64 (i:Int)),(34,.int .i64 xn),(35,.int .i64 (k:Int))]∧H=⟨[.cells 4 [zcT],.cells 5 [[.int .i64 k',.str nm',.int .i64 s',slV b' 4 (Za kz'),.int .i64 xn]]],0,lv,nt⟩)
    (fun m2 tm H hI=>?_) xn.toNat _ _ ⟨0,_,_,_,_,_,by omega,by rw[List.replicate_zero,List.append_nil];exact hA,hB,hD,Ze ⟨rfl,rfl,rfl,rfl,rfl,rfl,rfl,rfl,rfl,trivial⟩,rfl⟩
   clear hA hB hD;obtain⟨k,base2,p1,p2,lv2,nt2,hk,hA,hB,hD,rfl,rfl⟩:=hI;have hkx:=Zu (k:Int) xn;by_cases hkn:k<xn.toNat;{rw[decide_eq_true (by omega)]at hkx;obtain⟨q1,lv3,nt3,hap1,hA1,hB1,hD1⟩:=ZpW hA hB hD X (by simp;omega);rw[List.append_assoc, ← QP]at hA1;rw[hXc]at hap1;(repeat' first|refine Jc (hcl _) ?_|refine Kw ?_|refine Ki ?_|fail);refine LoopI.go (m2-1) (by omega) ⟨k+1,_,q1,_,lv3,nt3,by omega,hA1,hB1,hD1,Ze ⟨rfl,rfl,rfl,rfl,rfl,rfl,rfl,rfl,Zg (Zd (n:=k+1) (by omega)),trivial⟩,rfl⟩}
   ·(have hke : k = xn.toNat := by omega);rw[decide_eq_false (by omega)]at hkx;rw[hke, ← hps]at hA;(repeat' first|refine Ki ?_|fail);refine Wp.while (fun m2 tm H => ∃(k : Nat) (base : TM) (o1 o2 : PV) (lv : List Nat) (nt : Nat), k + m2 = (-xn).toNat ∧ ApV true 4 (Za (Qw (l.take (i + 1)))) o1 lv nt ∧ ApV true 4 (Za (Q ++ List.replicate k Y)) o2 lv nt ∧ (Yc o2 = none ∨ Yc o2 ≠ Yc o1) ∧
      tm=ovr base [(5,o1),(6,o2),(2,.ptr 0 4 0 0),(8,.ptr 1 5 0 0),(18,slV b 5 (pwL l)),(19,.int .i64 (l.length:Int)),(20,.int .i64 (i:Int)),(46,.int .i64 (-xn)),(47,.int .i64 (k:Int))]∧H=⟨[.cells 4 [zcT],.cells 5 [[.int .i64 k',.str nm',.int .i64 s',slV b' 4 (Za kz'),.int .i64 xn]]],0,lv,nt⟩)
     (fun m2 tm H hI=>?_) (-xn).toNat _ _ ⟨0,_,_,_,_,_,by omega,hA,by rw[List.replicate_zero,List.append_nil];exact hB,hD,Ze ⟨rfl,rfl,rfl,rfl,rfl,rfl,rfl,Zg hw,rfl,trivial⟩,rfl⟩
    clear hA hB hD;obtain⟨k,base3,p1,p2,lv3,nt3,hk,hA,hB,hD,rfl,rfl⟩:=hI;have hkx:=Zu (k:Int) (-xn);by_cases hkn:k<(-xn).toNat;{rw[decide_eq_true (by omega)]at hkx;obtain⟨q1,lv4,nt4,hap1,hB1,hA1,hD1⟩:=ZpW hB hA (Zgo hD) Y (by simp;omega);rw[List.append_assoc, ← QP]at hB1;rw[hYc]at hap1;(repeat' first|refine Jc (hcl _) ?_|refine Jc (hIv _) ?_|refine Kw ?_|refine Ki ?_|fail);refine LoopI.go (m2-1) (by omega) ⟨k+1,_,_,q1,lv4,nt4,by omega,hA1,hB1,Zgo hD1,Ze ⟨rfl,rfl,rfl,rfl,rfl,rfl,rfl,rfl,Zg (Zd (n:=k+1) (by omega)),trivial⟩,rfl⟩};{(have hke:k=(-xn).toNat:=by omega);rw[decide_eq_false (by omega)]at hkx;rw[hke, ← hns]at hB;(repeat' first|refine Ki ?_|fail);refine DropQ.go [(5,p1),(6,p2),(2,.ptr 0 4 0 0),(18,slV b 5 (pwL l)),(19,.int .i64 (l.length:Int)),(20,.int .i64 ((i+1:Nat):Int))] ?_ ?_ rfl rfl ?_;{exact⟨rfl,rfl,rfl,rfl,rfl,Zg (Zd (n:=i+1) (by omega)),trivial⟩};{simp[hA.under,hB.under,Zl,under]};{exact LoopI.go (m-1) (by omega) ⟨i+1,_,p1,p2,lv3,nt3,by omega,hgo',hall',hA,hB,hD,rfl,rfl⟩}}
 ·have e:i=l.length:=by omega
  subst e;rw[List.drop_length]at hgo;rw[List.take_length]at hA hB hall;rw[if_neg (by rw[hgo];simp)]at hR;have hlx:=Zu (l.length:Int) (l.length:Int);rw[decide_eq_false (by omega)]at hlx;obtain⟨hpL,hnL⟩:=Zfu hall;obtain⟨hb1,hb2⟩:=ZrT hA hB;have hcat:∀H,CO 226 [.sl .full 1 [[slV true 4 (Za (Qw l))],[slV true 4 (Za (Zbw l))]]] H (slV true 4 (Za (WU l))) H:=fun H=>Z2 (Ztu (a:=Qw l) (b:=Zbw l) (by omega) true true H) rfl;have hOl:(WU l).length≤10000:=by simp only[WU,List.length_append];omega
  have hOm:∀z,z∈WU l→z.Ok∧z.size≤100001:=fun z hz=>⟨cls_ok.ops (fun x hx=>(hl x hx).1.1) z hz,Ze7 (fun x hx=>(hl x hx).1.2) z hz⟩;have hPV:=c65 (t:=prodT true (WU l)) (cls_ok.prodT (fun x hx=>(hOm x hx).1) (by omega)) (by
   have h2:=Zbo true (WU l)
   have h3:=Zcd (M:=100001) fun x hx=>(hOm x hx).2
   have h4:=Nat.mul_le_mul_right 100001 hOl
   omega)
  have hone:=ZsT Um [] true;have hmul:=ZsT Ug (WU l) true;unfold Zka at hR;clear hgo hall hD hi hlt hOm hp0;generalize WU l=O at hcat hOl hPV hmul hR;have hlO:=Zb O;simp only[Tm.cells,Za,Zi,Um]at hone;repeat' first|refine Ki ?_|fail
  refine Zvn rfl rfl rfl hb1 hb2 ?_;clear hb1 hb2;by_cases h8:8<O.length;{rw[if_pos h8]at hR;rw[hR];simp only[Zn];have hg8:=Xq ((Za O).length:Int) 8;rw[decide_eq_true (by rw[hlO];omega)]at hg8;(repeat' first|refine Jc (hcat _) ?_|refine Ks ?_|fail);all_goals rfl}
  ·rw[if_neg h8]at hR;obtain⟨U,hU⟩:∃U,U=prodT true O:=⟨_,rfl⟩;rw[← hU]at hPV hR;obtain⟨v,hv⟩:∃v,v=U.valid:=⟨_,rfl⟩;rw[← hv]at hPV hR;clear hv;match O,hcat,hmul,hU,h8,hlO with
   | [],hcat,hmul,hU,h8,hlO=>subst hU;simp only[prodT,Tm.cells,Za,Zi,Ug,Um]at hcat hmul hPV;by_cases hv:v≠0;{rw[if_pos hv]at hR;rw[hR];simp only[Zn];have hne:=Y0 hv;(repeat' first|(apply qCl;rfl;rfl;rfl;rfl;first|exact hcat _|exact hmul _|exact hone _|exact hPV _)|refine Kg ?_|fail);all_goals rfl};{rw[if_neg hv]at hR;have hv:=Classical.not_not.1 hv;subst hv;rw[hR];simp only[prodT,Tm.cells,Za,Zi,Um];(repeat' first|(apply qCl;rfl;rfl;rfl;rfl;first|exact hcat _|exact hmul _|exact hone _|exact hPV _)|refine Ka ?_|fail);all_goals rfl}
   | [x],hcat,hmul,hU,h8,hlO=>have hU:U=x:=hU;rw[hU]at hPV hR;simp only[Za,Zp,Tm.cells,Ug]at hcat hmul;by_cases hv:v≠0;{rw[if_pos hv]at hR;rw[hR];simp only[Zn];have hne:=Y0 hv;obtain⟨k',nm',s',b',kz'⟩:=x;simp only[Tm.cells]at hcat hmul hPV;(repeat' first|(apply qCl;rfl;rfl;rfl;rfl;first|exact hcat _|exact hmul _|exact hPV _)|refine Kg ?_|fail);all_goals rfl};{rw[if_neg hv]at hR;have hv:=Classical.not_not.1 hv;subst hv;rw[hR];have hfx:=fun m H=>ZM m H x 0;obtain⟨k',nm',s',b',kz'⟩:=x;simp only[Tm.cells]at hcat hmul hPV hfx ⊢;(repeat' first|(apply qCl;rfl;rfl;rfl;rfl;first|exact hcat _|exact hmul _|exact hPV _)|refine Ka ?_|fail);all_goals exact hfx _ _}
   | x::y::r,hcat,hmul,hU,h8,hlO=>subst hU;have e2:slV true 4 (Za (x::y::r))= .sl .none 4 (x.cells::y.cells::Za r):=Zp _ _ _ _;have e3:slV false 4 (Za (x::y::r))= .sl .none 4 (x.cells::y.cells::Za r):=Zp _ _ _ _;(have hE:(x.cells::y.cells::Za r).length=r.length+2:=by simp[Zb]);simp only[prodT,Tm.cells,Ug]at hPV hmul;rw[e2]at hcat hmul;rw[e3]at hPV;(have hx1:XM E0 .eql 3 (.int .i64 (Int.ofNat (x.cells::y.cells::Za r).length)) (.int .i64 0)=some (.bool false):=by show some (PV.bool (decide (_=_)))=_;rw[decide_eq_false (by simp;omega)]);(have hx2:XM E0 .eql 3 (.int .i64 (Int.ofNat (x.cells::y.cells::Za r).length)) (.int .i64 1)=some (.bool false):=by show some (PV.bool (decide (_=_)))=_;rw[decide_eq_false (by simp;omega)]);(have hx3:XM E0 .gtr 3 (.int .i64 (Int.ofNat (x.cells::y.cells::Za r).length)) (.int .i64 8)=some (.bool false):=by show some (PV.bool (decide (_<_)))=_;rw[decide_eq_false (by rw[hE];simp only[List.length_cons]at h8;simp;omega)]);by_cases hv:v≠0;{rw[if_pos hv]at hR;rw[hR];simp only[Zn];have hne:=Y0 hv;(repeat' first|(apply qCl;rfl;rfl;rfl;rfl;first|exact hcat _|exact hmul _|exact hPV _)|refine Kg ?_|fail);all_goals rfl};{rw[if_neg hv]at hR;have hv:=Classical.not_not.1 hv;subst hv;rw[hR];simp only[prodT,Tm.cells,e3,Ug];(repeat' first|(apply qCl;rfl;rfl;rfl;rfl;first|exact hcat _|exact hmul _|exact hPV _)|refine Kg ?_|fail);all_goals rfl}
end Go.Vm.Seat
namespace Go.Vm
theorem Uv {t:Tm} (ht:t.Ok) (hs:t.size≤100000):PwB 1000000 (ofR t).1∧(ofR t).1.length≤100000:=by
 have nil:PwB 1000000 ([]:List Pw)∧([]:List Pw).length≤100000:=⟨PwB.nil _,by simp⟩;unfold ofR;split; · exact nil
 split; · exact nil
 rename_i h;split; · exact nil
 obtain⟨-,h2,h3⟩:=ZgO (t:=t) (n:=1) (l:=[]) (B:=0) (by simpa using h) trivial (.inl rfl) (by omega) ht hs (PwB.nil 0);simp only[List.length_nil]at h3;exact⟨h2.mono (by omega),by show(t.colR 1 []).length≤_;omega⟩
theorem Zdm {a b:List Pw} (ha:PwB 1000000 a) (hb:PwB 1000000 b):PwB 1000000000 (ZbJ a b).1∧(ZbJ a b).1.length≤100000:=by
 have nil:PwB 1000000000 ([]:List Pw)∧([]:List Pw).length≤100000:=⟨PwB.nil _,by simp⟩;unfold ZbJ ZlF;split; · exact nil
 split; · exact nil
 rename_i h1 h2;have h1:=Classical.not_not.1 h1;have h2:=Classical.not_not.1 h2;obtain⟨h3,h4⟩:=Zbc (by decide) ha hb h1 h2 b.length (Nat.le_refl _);rw[List.take_length]at h3 h4;have h5:=Ue h1;have h6:=Ue h2;rw[ZjR];show PwB 1000000000 (if Zkz (ZaK a b)≠0 then[] else ZaK a b)∧(if Zkz (ZaK a b)≠0 then[] else ZaK a b).length≤100000;split;{exact nil};{exact⟨h3.mono (by omega),by omega⟩}
theorem Zpg (f:Bool) (t:Tm):Zau f t=if(ofR t).2≠0 then(.zero,(ofR t).2) else Wa f (ofR t).1:=by unfold Zau;rw[Zb3,ZhF]
theorem Zif (f:Bool) (b e:Tm):WI f b e=if(ofR e).2≠0 then(.zero,(ofR e).2) else if isA b YS=true then(if(ofR (b.kd 1)).2≠0 then(.zero,(ofR (b.kd 1)).2) else if(ZbJ (ofR (b.kd 1)).1 (ofR e).1).2≠0 then(.zero,(ZbJ (ofR (b.kd 1)).1 (ofR e).1).2) else Zap f (b.kd 0) (ZbJ (ofR (b.kd 1)).1 (ofR e).1).1) else Zap f b (ofR e).1:=by unfold WI;rw[Zb3,Zb3,ZfX]
theorem Zmi (f:Bool) (b:Tm) (p:List Pw):Zap f b p=if p.isEmpty=true then(b,0) else if(Wa f p).2≠0 then(.zero,(Wa f p).2) else(.mk 3 YS 0 f [b,(Wa f p).1],0):=by unfold Zap;rw[ZhF]
end Go.Vm
namespace Go.Vm.Seat
variable {a e:Tm}
open Go.Proofs
theorem QJ (P:List Pw):P.isEmpty=decide (((pwL P).length:Int)=0):=by
 rw[ZT];cases P with
 |nil=>rfl
 |cons x r=>rw[decide_eq_false (by simp;omega)];rfl
theorem Zv1 {t:Tm} (ht:t.Ok) (hs:t.size≤100000):∀H,CO 215 [.agg t.cells] H (.tup [.agg (Zau false t).1.cells,.int .i64 (Zau false t).2]) H:=by
 obtain⟨F,hO⟩:=ZpU ht hs;obtain⟨hA,hB⟩:=Uv ht hs;have hT:=Zra (hA.mono (by decide)) hB F;rw[Zpg];generalize (ofR t).2=v at hO ⊢;generalize (ofR t).1=P at hO hT ⊢;have hfr:=fun m H=>ZM m H (Wa false P).1 (Wa false P).2;obtain⟨k,nm,s,b,kz⟩:=t;by_cases hv:v≠0
 ·rw[if_pos hv];have hne:=Y0 hv;simp only[Zn,Tm.cells]at hO ⊢;refine Jw tOk fe215.ok (Yi _ _ _) ?_;repeat' first|refine Jc (hO _) ?_|refine Ki ?_|fail
  all_goals rfl
 ·have hv:=Classical.not_not.1 hv;subst hv;rw[if_neg (by simp)];generalize (Wa false P).2=e at hT hfr ⊢;generalize (Wa false P).1=U at hT hfr ⊢;obtain⟨k',nm',s',b',kz'⟩:=U;simp only[Tm.cells]at hO hT hfr ⊢;refine Jw tOk fe215.ok (hfr _ _) ?_;repeat' first|refine Jc (hO _) ?_|refine Jc (hT _) ?_|refine Ka ?_|fail
  all_goals exact hfr _ _
theorem Ztj (nm:Bs) (x y:Tm):∀H,CO 212 [.str nm,.sl .full 4 [x.cells,y.cells]] H (.agg [.int .i64 3,.str nm,.int .i64 0,.sl .none 4 [x.cells,y.cells]]) H:=fun H=>by
 have:=c212 nm (l:=[x,y]) (by simp) true H
 simp only[Tm.cells,Za,Zp]at this ⊢
 exact Z2 this rfl
theorem ZuZ (h:(ofR e).2≠0) (he':e.Ok∧e.size≤100000):∀H,CO 216 [.agg a.cells,.agg e.cells] H (.tup [.agg (WI false a e).1.cells,.int .i64 (WI false a e).2]) H:=by
 obtain⟨F,hO⟩:=ZpU he'.1 he'.2;rw[Zif,if_pos h];generalize (ofR e).2=v at hO h ⊢;have hne:=Y0 h;obtain⟨k1,n1,s1,f1,l1⟩:=a;obtain⟨k2,n2,s2,f2,l2⟩:=e;simp only[Zn,Tm.cells]at hO ⊢;refine Jw tOk fe216.ok (Yi _ _ _) ?_;repeat' first|refine Jc (hO _) ?_|refine Ki ?_|fail
 all_goals rfl
theorem ZvX (h:(ofR e).2=0) (hx:isA a YS=false) (he':e.Ok∧e.size≤100000):∀H,CO 216 [.agg a.cells,.agg e.cells] H (.tup [.agg (WI false a e).1.cells,.int .i64 (WI false a e).2]) H:=by
 obtain⟨F,hO⟩:=ZpU he'.1 he'.2;obtain⟨hA,hB⟩:=Uv he'.1 he'.2;have hT:=Zra (hA.mono (by decide)) hB F;have hi:=isR a YS;rw[Zif,if_neg (by rw[h];simp),if_neg (by rw[hx];simp),Zmi];rw[h]at hO;rw[hx]at hi;clear h hx hA hB;generalize (ofR e).1=P at hO hT ⊢;have hl0:=Z8 ((pwL P).length:Int) 0;have hfa:=fun m H=>ZM m H a 0;have happ:=Ztj YS a (Wa false P).1;have hfx:=fun m H=>ZM m H (.mk 3 YS 0 false [a,(Wa false P).1]) 0;generalize (Wa false P).2=v at hT ⊢;generalize (Wa false P).1=U at hT happ hfx ⊢;have hemp:=QJ P;rw[hemp];generalize decide (((pwL P).length:Int)=0)=Z at hl0 ⊢;clear hemp;obtain⟨k1,n1,s1,f1,l1⟩:=a;obtain⟨k2,n2,s2,f2,l2⟩:=e;cases Z;rotate_left
 ·rw[if_pos rfl];simp only[Tm.cells,YS]at hO hi hfa ⊢;refine Jw tOk fe216.ok (hfa _ _) ?_;repeat' first|refine Jc (hO _) ?_|refine Jc (hi _) ?_|refine Ko ?_|fail
  all_goals exact hfa _ _
 {rw[if_neg (by decide)];by_cases hv:v≠0;{rw[if_pos hv];have hne:=Y0 hv;obtain⟨k3,n3,s3,f3,l3⟩:=U;simp only[Tm.cells,YS,Zn]at hO hi hT ⊢;refine Jw tOk fe216.ok (Yi _ _ _) ?_;(repeat' first|(apply qCl;rfl;rfl;rfl;rfl;first|exact hO _|exact hi _|exact hT _)|refine Ko ?_|fail);all_goals rfl};{have hv:=Classical.not_not.1 hv;subst hv;rw[if_neg (by simp)];obtain⟨k3,n3,s3,f3,l3⟩:=U;simp only[Tm.cells,YS,Za,Zp]at hO hi hT happ hfx ⊢;refine Jw tOk fe216.ok (hfx _ _) ?_;(repeat' first|(apply qCl;rfl;rfl;rfl;rfl;first|exact hO _|exact hi _|exact hT _|exact happ _)|refine Js ?_|refine Ko ?_|fail);all_goals exact hfx _ _}}
theorem ZtY {x y:Tm} {b:Bool} (h:(ofR e).2=0) (hy:y.Ok∧y.size≤100000) (he':e.Ok∧e.size≤100000):∀H,CO 216 [.agg (Tm.mk 3 YS 0 b [x,y]).cells,.agg e.cells] H (.tup [.agg (WI false (Tm.mk 3 YS 0 b [x,y]) e).1.cells,.int .i64 (WI false (Tm.mk 3 YS 0 b [x,y]) e).2]) H:=by
 obtain⟨F,hO⟩:=ZpU he'.1 he'.2;obtain⟨hA,hB⟩:=Uv he'.1 he'.2;obtain⟨F2,hO2⟩:=ZpU hy.1 hy.2;obtain⟨hA2,hB2⟩:=Uv hy.1 hy.2;obtain⟨F3,hMl⟩:=ZvD hA2 hA hB2 hB F2 F;obtain⟨hA3,hB3⟩:=Zdm hA2 hA;have hT:=Zra hA3 hB3 F3;have hi:=isR (.mk 3 YS 0 b [x,y]) YS;rw[Zif,if_neg (by rw[h];simp),if_pos (show isA (.mk 3 YS 0 b [x,y]) YS=true from rfl)];show ∀H,CO 216 _ H (.tup [.agg (Tm.cells (if(ofR y).2≠0 then(Tm.zero,(ofR y).2) else if(ZbJ (ofR y).1 (ofR e).1).2≠0 then(Tm.zero,(ZbJ (ofR y).1 (ofR e).1).2) else Zap false x (ZbJ (ofR y).1 (ofR e).1).1).1),.int .i64 (if(ofR y).2≠0 then(Tm.zero,(ofR y).2) else if(ZbJ (ofR y).1 (ofR e).1).2≠0 then(Tm.zero,(ZbJ (ofR y).1 (ofR e).1).2) else Zap false x (ZbJ (ofR y).1 (ofR e).1).1).2]) H;rw[h]at hO;have hi:∀H,CO 230 [.agg (Tm.mk 3 YS 0 b [x,y]).cells,.str YS] H (.bool true) H:=hi;clear h hA hB hA2 hB2 hA3 hB3;generalize (ofR y).2=v2 at hO2 ⊢;by_cases hv2:v2≠0
 ·rw[if_pos hv2];have hne:=Y0 hv2;clear hMl hT;obtain⟨k1,n1,s1,f1,l1⟩:=x;obtain⟨k2,n2,s2,f2,l2⟩:=y;obtain⟨k3,n3,s3,f3,l3⟩:=e;simp only[Tm.cells,Vx,YS,Zn]at hO hO2 hi ⊢;refine Jw tOk fe216.ok (Yi _ _ _) ?_;repeat' first|(apply qCl;rfl;rfl;rfl;rfl;first|exact hO _|exact hi _|exact hO2 _)|refine Kg ?_|fail
  all_goals rfl
 rw[if_neg hv2];have hv2:=Classical.not_not.1 hv2;subst hv2;generalize (ofR y).1=P2 at hO2 hMl hT ⊢;generalize (ofR e).1=P1 at hO hMl hT ⊢;generalize (ZbJ P2 P1).2=v3 at hMl ⊢;generalize (ZbJ P2 P1).1=P at hMl hT ⊢;by_cases hv3:v3≠0
 ·rw[if_pos hv3];have hne:=Y0 hv3;clear hT;obtain⟨k1,n1,s1,f1,l1⟩:=x;obtain⟨k2,n2,s2,f2,l2⟩:=y;obtain⟨k3,n3,s3,f3,l3⟩:=e;simp only[Tm.cells,Vx,YS,Zn]at hO hO2 hi ⊢;refine Jw tOk fe216.ok (Yi _ _ _) ?_;repeat' first|(apply qCl;rfl;rfl;rfl;rfl;first|exact hO _|exact hi _|exact hO2 _|exact hMl _)|refine Kg ?_|fail
  all_goals rfl
 rw[if_neg hv3,Zmi];have hv3:=Classical.not_not.1 hv3;subst hv3;have hl0:=Z8 ((pwL P).length:Int) 0;have hfa:=fun m H=>ZM m H x 0;have happ:=Ztj YS x (Wa false P).1;have hfx:=fun m H=>ZM m H (.mk 3 YS 0 false [x,(Wa false P).1]) 0;generalize (Wa false P).2=v at hT ⊢;generalize (Wa false P).1=U at hT happ hfx ⊢;have hemp:=QJ P;rw[hemp];generalize decide (((pwL P).length:Int)=0)=Z at hl0 ⊢;clear hemp;obtain⟨k1,n1,s1,f1,l1⟩:=x;obtain⟨k2,n2,s2,f2,l2⟩:=y;obtain⟨k4,n4,s4,f4,l4⟩:=e;cases Z;rotate_left
 ·rw[if_pos rfl];simp only[Tm.cells,Vx,YS]at hO hO2 hi hfa ⊢;refine Jw tOk fe216.ok (hfa _ _) ?_;repeat' first|(apply qCl;rfl;rfl;rfl;rfl;first|exact hO _|exact hi _|exact hO2 _|exact hMl _)|refine Ko ?_|fail
  all_goals exact hfa _ _
 {rw[if_neg (by decide)];by_cases hv:v≠0;{rw[if_pos hv];have hne:=Y0 hv;obtain⟨k3,n3,s3,f3,l3⟩:=U;simp only[Tm.cells,Vx,YS,Zn]at hO hO2 hi hT ⊢;refine Jw tOk fe216.ok (Yi _ _ _) ?_;(repeat' first|(apply qCl;rfl;rfl;rfl;rfl;first|exact hO _|exact hi _|exact hO2 _|exact hMl _|exact hT _)|refine Ko ?_|fail);all_goals rfl};{have hv:=Classical.not_not.1 hv;subst hv;rw[if_neg (by simp)];obtain⟨k3,n3,s3,f3,l3⟩:=U;simp only[Tm.cells,YS,Za,Zp]at hO hO2 hi hT happ hfx ⊢;refine Jw tOk fe216.ok (hfx _ _) ?_;(repeat' first|(apply qCl;rfl;rfl;rfl;rfl;first|exact hO _|exact hi _|exact hO2 _|exact hMl _|exact hT _|exact happ _)|refine Js ?_|refine Ko ?_|fail);all_goals exact hfx _ _}}
theorem Zu5 (ha:a.okA=true) (ha':a.Ok∧a.size≤100000) (he':e.Ok∧e.size≤100000):∀H,CO 216 [.agg a.cells,.agg e.cells] H (.tup [.agg (WI false a e).1.cells,.int .i64 (WI false a e).2]) H:=by
 by_cases h:(ofR e).2=0
 ·cases hx:isA a YS with
  | false=>exact ZvX h hx he'
  | true=>obtain⟨b,x,y,rfl⟩:=Xe ha hx rfl;exact ZtY h (VU ha' (x:=y) (by simp)) he'
 {exact ZuZ h he'}
