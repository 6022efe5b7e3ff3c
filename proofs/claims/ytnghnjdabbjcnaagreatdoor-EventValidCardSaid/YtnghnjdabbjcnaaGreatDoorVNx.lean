/-
  Powers in the second text: the powers of a term, and their error.
-/
import Derived.Test.YtnghnjdabbjcnaaGreatDoorVNr
set_option maxHeartbeats 0
set_option maxRecDepth 100000
namespace Go.Vm
theorem ZiI (m:Bool) (l:List Tm):sumG m l=if(if 200<l.length then 3 else Xl l)≠0 then(.zero,if 200<l.length then 3 else Xl l) else if(sumT m (ZdZ m (ZS l []))).valid≠0 then(.zero,3) else(sumT m (ZdZ m (ZS l [])),0):=by unfold sumG;by_cases h:200<l.length;{rw[if_pos h,if_pos h,if_pos (by decide)]};{rw[if_neg h,if_neg h]}
theorem Zhh {l:List Tm} {f:Bool} (h:∀x,x∈l→x.Ok) (hl:l.length≤1000000):(sumT f l).Ok:=cls_ok.sumT h hl
theorem ZcP (f:Bool) (l:List Tm):(sumT f l).size≤1+Zk l:=by
 match l with
 | []=>simp[sumT,Tm.size,Zk]
 | [x]=>simp only[sumT,Zk];omega
 |x::y::r=>simp only[sumT,Tm.size];omega
end Go.Vm
namespace Go.Vm.Seat
open Go.Proofs
theorem Zn:Tm.zero.cells=zcT:=by show[PV.int .i64 0,.str [],.int .i64 0,slV true 4 (Za [])]=_;rw[show slV true 4 (Za [])= .nils from Zi 4];rfl
theorem Yi (m:Nat) (H:Heap) (e:Int):frz3 m H (.tup [.agg zcT,.int .i64 e])=some (.tup [.agg zcT,.int .i64 e]):=rfl
theorem Zuj {l:List Tm} (hl:SmL l) (hs:Zk l≤100000) (b:Bool):∀H,CO 206 [slV b 4 (Za l)] H (.tup [.agg (sumG true l).1.cells,.int .i64 (sumG true l).2]) H:=by
 have hlen:=Yl l;have hR:=ZuW hl (by omega) b;rw[ZiI];generalize (if 200<l.length then(3:Int) else Xl l)=R at hR ⊢;by_cases hR0:R≠0
 ·rw[if_pos hR0];simp only[Zn];refine Jw tOk fe206.ok (Yi _ _ _) ?_;repeat' first|refine Jc (hR _) ?_|refine Jl ?_|refine Jb ?_ ?_|refine Jo ?_|intro hb
  all_goals first
   | rfl
   | (exfalso;simp_all;done)
 ·have hR0:R=0:=Classical.not_not.1 hR0;subst hR0;rw[if_neg (by simp)];have hP:SmL (ZS l []):=hl.sumL;have hPs:=UG l [];have hPl:=Xg l [];simp only[Zk,List.length_nil,Nat.zero_add]at hPs hPl;have hown:∀H,CO 221 [slV true 4 (Za (ZS l []))] H (slV false 4 (Za (ZdZ true (ZS l [])))) H:=ZvQ (Zk (ZS l [])+1) hP (by omega) (by omega) true;have hQl:(ZdZ true (ZS l [])).length≤1000000:=by rw[Zfq];omega
  have hV:∀H,CO 65 [.agg (sumT true (ZdZ true (ZS l []))).cells] H (.int .i64 (sumT true (ZdZ true (ZS l []))).valid) H:=c65 (Zhh (ZiA cls_ok true _ fun x hx=>(hP x hx).1) hQl) (by
   have:=ZcP true (ZdZ true (ZS l []))
   have e:Zk (ZdZ true (ZS l []))=Zk (ZS l []):=UR _
   omega)
  generalize hQ:ZdZ true (ZS l [])=Q at hown hV hQl ⊢;obtain⟨v,hv⟩:∃v,v=(sumT true Q).valid:=⟨_,rfl⟩;rw[← hv]at hV ⊢;clear hv;obtain⟨U,e,hUe,hU1,hU2⟩:∃(U:Tm) (e:Int),(if v≠0 then(Tm.zero,(3:Int)) else(sumT true Q,0))=(U,e)∧(v≠0→U= .zero∧e=3)∧(v=0→U=sumT true Q∧e=0):=by by_cases h:v≠0;{exact⟨_,_,by rw[if_pos h],fun _=>⟨rfl,rfl⟩,fun h'=>absurd h' h⟩};{exact⟨_,_,by rw[if_neg h],fun h'=>absurd h' h,fun _=>⟨rfl,rfl⟩⟩}
  rw[hUe];show ∀H,CO 206 _ H (.tup [.agg U.cells,.int .i64 e]) H;have hfr:=ZM 0 hNil U e;refine Jw tOk fe206.ok hfr ?_;repeat' first|refine Jc (hR _) ?_|refine KJ ?_|fail
  refine Wp.while (fun m tm H => ∃(i : Nat) (base : TM), i + m = l.length ∧
    tm=ovr base [(2,.ptr 0 4 0 0),(5,slV true 4 (Za (ZS (l.take i) []))),(15,slV b 4 (Za l)),(16,.int .i64 (l.length:Int)),(17,.int .i64 (i:Int))]∧H=⟨[.cells 4 [zcT]],0,[],0⟩)
   (fun m tm H hI=>Wp.drop ?_) l.length _ _ ⟨0,_,by omega,Ze ⟨rfl,(by simp only[List.take_zero,ZS,Za,Zi];rfl),rfl,Zg (by rw[Zb]),rfl,trivial⟩,rfl⟩
  obtain⟨i,base,hi,rfl,rfl⟩:=hI;clear hR;have h1:=Xg (l.take i) [];have h2:=ZA l i;simp only[List.length_nil]at h1;by_cases hlt:i<l.length
  ·obtain⟨t', ht'⟩ : ∃t', l[i]? = some t' := ⟨l[i], by simp⟩;have hm:t'∈l:=List.mem_of_getElem? ht';have hle:=Z4 hm;have hsn:=Ws [] ht';have h3:=UP t';have hc:=ZuQ (hl t' hm).1 (hl t' hm).2;have hp:=ZtU (hl.take i).sumL (SmL.sum (hl t' hm).1 (hl t' hm).2) (by omega) true true;rw[← hsn]at hp;clear hV hown hfr hQ hPs hPl hQl hU1 hU2 hUe;obtain⟨k',nm',s',b',kz'⟩:=t';have hj:=Zj ht';simp only[Tm.cells]at hc;(repeat' first|refine Jc (hc _) ?_|refine Jc (hp _) ?_|refine Jx ?_|refine Jz ?_ ?_|refine Jo ?_|intro hb);all_goals first
    | (exfalso;simp at hb<;>omega)
    | exact DropQ.go [(2, .ptr 0 4 0 0), (5, slV true 4 (Za (ZS (l.take (i + 1)) []))), (15, slV b 4 (Za l)), (16, .int .i64 (l.length : Int)), (17, .int .i64 ((i + 1 : Nat) : Int))] ⟨rfl, rfl, rfl, rfl, Zg (Zd (n := i + 1) (by omega)), trivial⟩
        (by simp[Zl,under]) rfl (by simp[Yy,zcT,ZO,under]) (LoopI.go (m-1) (by omega) ⟨i+1,_,by omega,rfl,rfl⟩)
  ·(have e:i=l.length:=by omega);subst e;rw[List.take_length];clear hi hlt h1 h2 hPs hPl hP hl hs hlen hQ;clear hfr hUe;match Q,hown,hV,hU2 with
   | [],hown,hV,hU2=>
    simp only[sumT,Tm.cells,Za,Zi,ZB]at hown hV hU2 ⊢;by_cases hv:v≠0
    ·obtain⟨rfl, rfl⟩ := hU1 hv;(repeat' first|refine Jc (hown _) ?_|refine Jc (hV _) ?_|refine Jt ?_|refine Jb ?_ ?_|refine Jz ?_ ?_|refine Jo ?_|intro hb);all_goals first
      | (exfalso;simp at hb;done)
      | (exfalso;simp_all;done)
      | (simp only[Zn];rfl)
    ·obtain⟨rfl, rfl⟩ := hU2 (Classical.not_not.1 hv);(repeat' first|refine Jc (hown _) ?_|refine Jc (hV _) ?_|refine Jt ?_|refine Jb ?_ ?_|refine Jz ?_ ?_|refine Jo ?_|intro hb);all_goals first
      | (exfalso;simp at hb;done)
      | (exfalso;simp_all;done)
      | (simp only[Tm.cells,Za,Zi];rfl)
   | [x],hown,hV,hU2=>
    simp only[sumT]at hV hU2;simp only[Za,Zp]at hown;have hfx:=fun m H=>ZM m H x 0;by_cases hv:v≠0
    ·obtain⟨rfl, rfl⟩ := hU1 hv;obtain⟨k',nm',s',b',kz'⟩:=x;simp only[Tm.cells]at hown hV;(repeat' first|refine Jc (hown _) ?_|refine Jc (hV _) ?_|refine Jt ?_|refine Jb ?_ ?_|refine Jz ?_ ?_|refine Jo ?_|intro hb);all_goals first
      | (exfalso;simp at hb;done)
      | (exfalso;simp_all;done)
      | (simp only[Zn];rfl)
    ·obtain⟨rfl, rfl⟩ := hU2 (Classical.not_not.1 hv);obtain⟨k',nm',s',b',kz'⟩:=U;simp only[Tm.cells]at hown hV hfx ⊢;(repeat' first|refine Jc (hown _) ?_|refine Jc (hV _) ?_|refine Jt ?_|refine Jb ?_ ?_|refine Jz ?_ ?_|refine Jo ?_|intro hb);all_goals first
      | (exfalso;simp at hb;done)
      | (exfalso;simp_all;done)
      | exact hfx _ _
   | x::y::r,hown,hV,hU2=>
    simp only[sumT,Tm.cells]at hV hU2;have e2:slV false 4 (Za (x::y::r))= .sl .none 4 (x.cells::y.cells::Za r):=Zp _ _ _ _;rw[e2]at hown hV;(have hx1:XM E0 .eql 3 (.int .i64 (Int.ofNat (x.cells::y.cells::Za r).length)) (.int .i64 0)=some (.bool false):=by show some (PV.bool (decide (_=_)))=_;rw[decide_eq_false (by simp;omega)]);(have hx2:XM E0 .eql 3 (.int .i64 (Int.ofNat (x.cells::y.cells::Za r).length)) (.int .i64 1)=some (.bool false):=by show some (PV.bool (decide (_=_)))=_;rw[decide_eq_false (by simp;omega)]);by_cases hv:v≠0
    ·obtain⟨rfl, rfl⟩ := hU1 hv;(repeat' first|refine Jc (hown _) ?_|refine Jc (hV _) ?_|refine Ji ?_|refine Jt ?_|refine Jb ?_ ?_|refine Jz ?_ ?_|refine Jo ?_|intro hb);all_goals first
      | (exfalso;simp at hb;done)
      | (exfalso;simp_all;done)
      | (simp only[Zn];rfl)
    ·obtain⟨rfl, rfl⟩ := hU2 (Classical.not_not.1 hv);(repeat' first|refine Jc (hown _) ?_|refine Jc (hV _) ?_|refine Ji ?_|refine Jt ?_|refine Jb ?_ ?_|refine Jz ?_ ?_|refine Jo ?_|intro hb);all_goals first
      | (exfalso;simp at hb;done)
      | (exfalso;simp_all;done)
      | (simp only[Tm.cells,e2];rfl)
end Go.Vm.Seat
namespace Go.Vm
def flX (kz:List Tm):Bool:=match kz.getLast? with
 |none=>true
 |some u=> !u.sumP.isEmpty
def Tm.sumFl:Tm→Bool
 | .mk k nm _ _ kz=>if k=3∧nm=VM∧kz= [] then true else if k=3∧nm=ZbZ then flX kz else true
theorem ZfT {l:List Tm} {i:Nat} {t:Tm} (h:l[i]? = some t):flX (l.take (i+1))= !t.sumP.isEmpty:=by
 have e:l.take (i+1)=l.take i++ [t]:=by rw[List.take_add_one,h];rfl
 unfold flX;rw[e];simp
end Go.Vm
namespace Go.Vm.Seat
variable {t:Tm}
open Go.Proofs
theorem Zqp {a:List Tm} (ha:SmL a) (hA:Asc a) (ht:t.Ok∧t.size≤100000) (hl:a.length+t.sumP.length≤100000) (ba bb:Bool):∀H,CO 233 [slV ba 4 (Za a),slV bb 4 (Za t.sumP)] H (slV (!t.sumP.isEmpty) 4 (Za (Yb a t.sumP))) H:=by have:=c233 ha (SmL.sum ht.1 ht.2) hl ba bb;rwa [ZdX _ _ hA (Zh8 t)]at this
theorem Zvj (ht:t.Ok):t.size≤100000→∀H,CO 234 [.agg t.cells] H (slV t.sumFl 4 (Za t.sumP)) H:=by
 induction ht with
 | @mk k nm s b kz hk hs hn hl hok ih=>
 intro hsz;simp only[Tm.size]at hsz;refine Yt (own:=fun _=>false) tOk fe234.ok (by simp[ZH,frzG,Tm.cells,XA]) (ZJ _ _ _ _ _) ?_;by_cases hx:k=3∧nm=ZbZ
 ·obtain⟨rfl,rfl⟩:=hx;rw[Tm.sumP,if_neg (fun h=>absurd h.2.1 (by decide)),if_pos ⟨rfl,rfl⟩,Tm.sumFl,if_neg (fun h=>absurd h.2.1 (by decide)),if_pos ⟨rfl,rfl⟩];simp only[Tm.cells,ZbZ];have hkl:=Yl kz;have hkid:SmL kz:=fun t ht=>⟨hok t ht,by have:=Z4 ht;omega⟩;refine Wp.seq ?_;repeat' first|refine Jk ?_|refine Ka ?_|fail
  refine Wp.while (fun m tm H => ∃(i : Nat) (base : TM), i + m = kz.length ∧
    tm=ovr base [(1,.ptr 0 4 0 0),(3,slV (flX (kz.take i)) 4 (Za (ZS (kz.take i) []))),(4,.int .i64 (i:Int))]∧H=⟨[.cells 4 [[.int .i64 3,.str [120,111,114],.int .i64 s,slV b 4 (Za kz)]]],0,[],0⟩)
   (fun m tm H hI=>?_) kz.length _ _ ⟨0,_,by omega,Ze ⟨rfl,(by rw[List.take_zero];simp only[ZS,Za,flX,List.getLast?_nil,Zi];rfl),rfl,trivial⟩,rfl⟩
  obtain⟨i,base,hi,rfl,rfl⟩:=hI;have h1:=Xg (kz.take i) [];have h2:=ZA kz i;simp only[List.length_nil]at h1;by_cases hlt:i<kz.length
  ·obtain⟨t', ht'⟩ : ∃t', kz[i]? = some t' := ⟨kz[i], by simp⟩;have hm:t'∈kz:=List.mem_of_getElem? ht';have hle:=Z4 hm;have hsn:=Ws [] ht';have hfl:=ZfT ht';have h3:=UP t';have h4:=ZA kz (i+1);(have h5:Zk (kz.take (i+1))=Zk (kz.take i)+t'.size:=by rw[List.take_add_one,ht',UB];simp[Zk]);have hc:=ih t' hm (by omega);have hp:=Zqp (hkid.take i).sumL (QL (kz.take i) [] trivial) (hkid t' hm) (by omega) (flX (kz.take i)) t'.sumFl;rw[← hsn, ← hfl]at hp;obtain⟨k',nm',s',b',kz'⟩:=t';have hj:=Zj ht';simp only[Tm.cells]at hc;clear ih;(repeat' first|refine Jc (hc _) ?_|refine Jc (hp _) ?_|refine Kx ?_|refine Jb ?_ ?_|refine Jo ?_|intro hb);all_goals first
    | (exfalso;simp at hb;done)
    | (exfalso;simp only[Zb,decide_eq_false_iff_not]at hb;omega)
    | exact LoopI.go (m-1) (by omega) ⟨i+1,_,by omega,Ze ⟨rfl,rfl,Zg (Zd (n:=i+1) (by omega)),trivial⟩,rfl⟩
  {(have e:i=kz.length:=by omega);subst e;clear ih;(repeat' first|refine Jl ?_|refine Jb ?_ ?_|refine Jo ?_|intro hb);{exfalso;rw[Zb]at hb;simp at hb};{rw[List.take_length];exact ZJ _ _ _ _ _}}
 ·rw[Tm.sumP,Tm.sumFl];by_cases hz:k=3∧nm=VM∧kz= []
  ·obtain⟨rfl, rfl, rfl⟩ := hz;rw[if_pos ⟨rfl,rfl,rfl⟩,if_pos ⟨rfl,rfl,rfl⟩];simp only[Tm.cells,VM];refine Wp.seq ?_;cases b;all_goals
    repeat' first|refine KJ ?_|fail
    simp only[Za,Zi]
    rfl
  ·rw[if_neg hz, if_neg hx, if_neg hz, if_neg hx];have e:slV true 4 (Za [.mk k nm s b kz])= .sl .none 4 [[.int .i64 k,.str nm,.int .i64 s,slV b 4 (Za kz)]]:=Zp _ _ _ _;rw[e];simp only[Tm.cells];refine Wp.seq ?_;clear ih;(repeat' first|refine Jk ?_|refine Js ?_|refine Kv ?_|refine Jb ?_ ?_|refine Jo ?_|intro hb);all_goals first
    | rfl
    | (exfalso;simp_all[ZbZ,VM,Zb])
theorem c232:∀H,CO 232 [] H (.agg (Tm.mk 3 VM 0 false []).cells) H:=by
 have ha:=c212 VM (l:=[]) (by decide) true;simp only[Tm.cells,Za,Zi,ZB,VM]at ha ⊢;refine Jw tOk fe232.ok rfl ?_;repeat' first|refine Jc (ha _) ?_|refine Jo ?_|fail
 all_goals rfl
theorem Zun {l:List Tm} (hlen:l.length≤1000000) (b:Bool):∀H,CO 235 [slV b 4 (Za l)] H (.agg (sumT false l).cells) H:=by
 have ha:=c212 VM (l:=[]) (by decide) true;match l,hlen with
 | [],_=>
  simp only[sumT,Tm.cells,Za,Zi,ZB,VM]at ha ⊢;cases b<;>simp only[Zi,ZB];all_goals
   refine Jw tOk fe235.ok rfl ?_
   repeat' first|refine Jc (ha _) ?_|refine Ka ?_|fail
   all_goals rfl
 | [x],_=>
  obtain⟨k',nm',s',b',kz'⟩:=x;simp only[sumT,Za,Zp,Tm.cells];refine Jw tOk fe235.ok (Z7 _ _ _ _ _ _ _) ?_;repeat' first|refine Ka ?_|fail
  all_goals exact Z7 _ _ _ _ _ _ _
 |x::y::r,hlen=>
  have hA0:ApV false 4 [] (.sl .full 4 []) [] 0:= .full [] _ _ rfl rfl;obtain⟨out',lv',nt',hap,hA', -⟩:=hA0.app YB (.slV b 4 (Za (x::y::r))) (Zr _) (ZR (by simp only[Zb,List.length_nil];omega) (by decide)) (Z0 _);rw[List.nil_append]at hA';have hco:=Zag hA' 3 ZbZ 0;have hfr:=fun m H=>Zig hA' m H 3 ZbZ 0;have hlE:(Za (x::y::r)).length=r.length+2:=by rw[Zb];rfl
  have hc1:XM E0 .eql 3 (.int .i64 ((Za (x::y::r)).length:Int)) (.int .i64 0)=some (.bool false):=by show some (PV.bool (decide (_=_)))=_;rw[decide_eq_false (by rw[hlE];omega)]
  have hc2:XM E0 .eql 3 (.int .i64 ((Za (x::y::r)).length:Int)) (.int .i64 1)=some (.bool false):=by show some (PV.bool (decide (_=_)))=_;rw[decide_eq_false (by rw[hlE];omega)]
  simp only[sumT,Tm.cells];generalize Za (x::y::r)=L at hap hA' hco hfr hlE hc1 hc2 ⊢;obtain⟨tl,rfl⟩:=Zgr hA';simp only[ZbZ]at hco hfr ⊢;refine Jw tOk fe235.ok (Z7 _ _ _ _ _ _ _) ?_;repeat' first|refine Kw ?_|refine Ks ?_|fail
  all_goals exact hfr _ _
end Go.Vm.Seat
namespace Go.Vm
def zeroT:Tm:= .mk 3 VM 0 false []
theorem Zew:zeroT.valid=0:=by decide
theorem Zky:zeroT.Ok:= .mk (by decide) (by decide) (by decide) (by decide) (fun x hx=>by simp at hx)
end Go.Vm
namespace Go.Vm.Seat
variable {l:List Tm}
open Go.Proofs
theorem Zai:zeroT.cells= [.int .i64 3,.str [122,101,114,111],.int .i64 0,.sl .none 4 []]:=by show[PV.int .i64 3,.str [122,101,114,111],.int .i64 0,slV false 4 (Za [])]=_;rw[show slV false 4 (Za [])= .sl .none 4 [] from ZB 4]
theorem Zve (hl:SmL l) (hlen:l.length≤1000000) (b:Bool):∀H,CO 231 [slV b 4 (Za l),.agg [.int .i64 3,.str [122,101,114,111],.int .i64 0,.sl .none 4 []]] H (.int .i64 (if 200<l.length then 3 else Xl l)) H:=by
 have hV:∀t,t∈l→∀H,CO 97 [.agg t.cells] H (.int .i64 t.valid) H:=fun t ht=>c97 (hl t ht).1 (by have:=(hl t ht).2;omega);have hZ:=c97 Zky (by decide);rw[Zai,Zew]at hZ;refine Jw tOk fe231.ok rfl ?_;by_cases h2:200<l.length
 ·rw[if_pos h2];repeat' first|refine Jl ?_|refine Jb ?_ ?_|refine Jo ?_|intro hb
  all_goals first
   | rfl
   | (exfalso;rw[Zb]at hb;simp only[decide_eq_false_iff_not]at hb;omega)
 ·rw[if_neg h2];repeat' first|refine Jl ?_|refine Jb ?_ ?_|refine Jo ?_|intro hb
  {exfalso;rw[Zb]at hb;simp only[decide_eq_true_eq]at hb;omega};refine Wp.while (fun m tm H => ∃(i : Nat) (base : TM), i + m = l.length ∧ Xl l = Xl (l.drop i) ∧
    tm=ovr base [(0,slV b 4 (Za l)),(3,.ptr 0 4 0 0),(5,.int .i64 (i:Int))]∧H=⟨[.cells 4 [[.int .i64 3,.str [122,101,114,111],.int .i64 0,.sl .none 4 []]]],0,[],0⟩)
   (fun m tm H hI=>?_) l.length _ _ ⟨0,_,by omega,by rw[List.drop_zero],Ze ⟨rfl,rfl,rfl,trivial⟩,rfl⟩
  obtain⟨i,base,hi,hgo,rfl,rfl⟩:=hI;rw[hgo];clear hb;by_cases hlt:i<l.length
  ·obtain⟨t,ht⟩:∃t,l[i]? = some t:=⟨l[i],by simp⟩;have hc:=hV t (List.mem_of_getElem? ht);have hd:=Q3 ht;generalize t.valid=v at hc hd;obtain⟨k',nm',s',f',kz'⟩:=t;have hj:=Zj ht;simp only[Tm.cells]at hc;by_cases hv:v=0
   ·subst hv;rw[if_neg (by simp)]at hd;(repeat' first|refine Jc (hc _) ?_|refine Kx ?_|refine Jt ?_|refine Jb ?_ ?_|refine Jo ?_|intro hb);all_goals first
     | (exfalso;simp at hb;done)
     | (exfalso;simp only[Zb,decide_eq_false_iff_not]at hb;omega)
     | exact LoopI.go (m-1) (by omega) ⟨i+1,_,by omega,by rw[hd],Ze ⟨rfl,rfl,Zg (Zd (n:=i+1) (by omega)),trivial⟩,rfl⟩
   ·rw[if_pos hv]at hd;(repeat' first|refine Jc (hc _) ?_|refine Kx ?_|refine Jb ?_ ?_|refine Jo ?_|intro hb);all_goals first
     | (exfalso;simp at hb;done)
     | (exfalso;simp only[Zb,decide_eq_false_iff_not]at hb;omega)
     | (exfalso;simp_all;done)
     | rw[hd]
  {(have e:i=l.length:=by omega);subst e;(repeat' first|refine Jc (hZ _) ?_|refine Jl ?_|refine Jb ?_ ?_|refine Jo ?_|intro hb);{exfalso;rw[Zb]at hb;simp at hb};{rw[List.drop_length];rfl}}
theorem ZvH (hl:∀t,t∈l→t.Ok∧t.size≤100000) (hs:Zk l≤90000) (b:Bool):∀H,CO 214 [slV b 4 (Za l)] H (.tup [.agg (sumG false l).1.cells,.int .i64 (sumG false l).2]) H:=by
 have hlen:=Yl l;have hlS:SmL l:=fun t ht=>⟨(hl t ht).1,by have:=(hl t ht).2;omega⟩;have hR:=Zve hlS (by omega) b;have hZ:=c232;have hZ:∀H,CO 232 [] H (.agg [.int .i64 3,.str [122,101,114,111],.int .i64 0,.sl .none 4 []]) H:=fun H=>by have:=hZ H;rwa [show(Tm.mk 3 VM 0 false []).cells=_ from Zai]at this
 rw[ZiI];generalize (if 200<l.length then(3:Int) else Xl l)=R at hR ⊢;by_cases hR0:R≠0
 ·rw[if_pos hR0];simp only[Zn];refine Jw tOk fe214.ok (Yi _ _ _) ?_;repeat' first|refine Jc (hZ _) ?_|refine Jc (hR _) ?_|refine Jb ?_ ?_|refine Jo ?_|intro hb
  all_goals first
   | rfl
   | (exfalso;simp_all;done)
 ·have hR0 : R = 0 := Classical.not_not.1 hR0;subst hR0;rw[if_neg (by simp)];have hP:SmL (ZS l []):=hlS.sumL;have hPs:=UG l [];have hPl:=Xg l [];simp only[Zk,List.length_nil,Nat.zero_add]at hPs hPl;have hQ:ZdZ false (ZS l [])=ZS l []:=rfl;rw[hQ];have hV:∀H,CO 97 [.agg (sumT false (ZS l [])).cells] H (.int .i64 (sumT false (ZS l [])).valid) H:=c97 (Zhh (fun x hx=>(hP x hx).1) (by omega)) (by
   have:=ZcP false (ZS l [])
   omega)
  have hT:=fun f=>Zun (l:=ZS l []) (by omega) f;generalize hU:sumT false (ZS l [])=U at hV hT ⊢;obtain⟨v,hv⟩:∃v,v=U.valid:=⟨_,rfl⟩;rw[← hv]at hV ⊢;clear hv hU;have hfr:=ZM 0 hNil (if v≠0 then(Tm.zero,(3:Int)) else(U,0)).1 (if v≠0 then(Tm.zero,(3:Int)) else(U,0)).2;refine Jw tOk fe214.ok hfr ?_;repeat' first|refine Jc (hZ _) ?_|refine Jc (hR _) ?_|refine Ka ?_|fail
  refine Wp.while (fun m tm H => ∃(i : Nat) (base : TM), i + m = l.length ∧
    tm=ovr base [(2,.ptr 0 4 0 0),(5,slV (flX (l.take i)) 4 (Za (ZS (l.take i) []))),(0,slV b 4 (Za l)),(6,.int .i64 (i:Int))]∧H=⟨[.cells 4 [zcT]],0,[],0⟩)
   (fun m tm H hI=>?_) l.length _ _ ⟨0,_,by omega,Ze ⟨rfl,(by rw[List.take_zero];simp only[ZS,Za,flX,List.getLast?_nil,Zi];rfl),rfl,rfl,trivial⟩,rfl⟩
  obtain⟨i,base,hi,rfl,rfl⟩:=hI;clear hR;have h1:=Xg (l.take i) [];have h2:=ZA l i;simp only[List.length_nil]at h1;by_cases hlt:i<l.length
  ·obtain⟨t', ht'⟩ : ∃t', l[i]? = some t' := ⟨l[i], by simp⟩;have hm:t'∈l:=List.mem_of_getElem? ht';have h4:=ZA l (i+1);(have h5:Zk (l.take (i+1))=Zk (l.take i)+t'.size:=by rw[List.take_add_one,ht',UB];simp[Zk]);have hle:=Z4 hm;have hsn:=Ws [] ht';have hfl:=ZfT ht';have h3:=UP t';have hc:=Zvj (hl t' hm).1 (hl t' hm).2;have hp:=Zqp (hlS.take i).sumL (QL (l.take i) [] trivial) (hlS t' hm) (by omega) (flX (l.take i)) t'.sumFl;rw[← hsn, ← hfl]at hp;clear hV hT hfr hPs hPl;obtain⟨k',nm',s',b',kz'⟩:=t';have hj:=Zj ht';simp only[Tm.cells]at hc;(repeat' first|refine Jc (hc _) ?_|refine Jc (hp _) ?_|refine Kx ?_|refine Jb ?_ ?_|refine Jo ?_|intro hb);all_goals first
    | (exfalso;simp at hb;done)
    | (exfalso;simp only[Zb,decide_eq_false_iff_not]at hb;omega)
    | exact LoopI.go (m-1) (by omega) ⟨i+1,_,by omega,Ze ⟨rfl,rfl,rfl,Zg (Zd (n:=i+1) (by omega)),trivial⟩,rfl⟩
  ·(have e:i=l.length:=by omega);subst e;rw[List.take_length];clear hi hlt h1 h2 hPs hPl hP hl hs hlen hfr;have hT:=hT (flX l);have hfx:=fun m H=>ZM m H U 0;by_cases hv:v≠0
   ·rw[if_pos hv];obtain⟨k',nm',s',b',kz'⟩:=U;simp only[Tm.cells]at hT hV;(repeat' first|refine Jc (hT _) ?_|refine Jc (hV _) ?_|refine Jl ?_|refine Jb ?_ ?_|refine Jo ?_|intro hb);all_goals first
     | (exfalso;simp only[Zb,decide_eq_true_eq]at hb;omega)
     | (exfalso;simp_all;done)
     | (simp only[Zn];rfl)
   ·rw[if_neg hv];obtain⟨k',nm',s',b',kz'⟩:=U;simp only[Tm.cells]at hT hV hfx ⊢;(repeat' first|refine Jc (hT _) ?_|refine Jc (hV _) ?_|refine Jl ?_|refine Jb ?_ ?_|refine Jo ?_|intro hb);all_goals first
     | (exfalso;simp only[Zb,decide_eq_true_eq]at hb;omega)
     | (exfalso;simp_all;done)
     | exact hfx _ _
end Go.Vm.Seat
namespace Go.Vm
end Go.Vm
namespace Go.Vm.Seat
variable {t:Tm}
open Go.Proofs
theorem Zuk (ht:t.Ok):t.size≤100000→t.ari=true→∀{l:List Pw} {n B:Int},VS l→PwB B l→0≤B→B+t.size≤1000000000→l.length+t.size≤100000→(n=1∨n= -1)→∀b H,CO 247 [slV b 5 (pwL l),.agg t.cells,.int .i64 n] H (slV (t.colFl b) 5 (pwL (t.colR n l))) H:=by
 induction ht with
 | @mk k nm s f kz hk hs hn hl hok ih=>
 intro hsz har l n B hA hP hB hBt hlen hn1 b;have hadd:=fun (h:(Tm.mk k nm s f kz).Ok)=>Zto (l:=l) (t:= .mk k nm s f kz) (n:=n) (hP.mono (by omega)) ⟨h,by omega⟩ (by omega) (by omega) b;simp only[Tm.size]at hsz hBt hlen;have hsp:=ZsC (.mk k nm s f kz);have hkl:=Yl kz;rw[Tm.ari]at har;rw[Tm.colR,Tm.colFl];simp only[Tm.sym,Tm.cells]at hsp ⊢;refine Jw tOk fe247.ok (ZJ _ _ _ _ _) ?_ (by simp only[ZH,Xx];simp[frzG,XA];rfl);by_cases he:ZbO k nm=true
 ·rw[if_pos he,if_pos he];rw[he]at hsp;rw[if_pos he]at har;have har:Ze1 kz=true:=by split at har;{exact har};{cases har}
  have hkar:=(Zb9 kz).1 har;obtain⟨n',hn'⟩:∃n',n'=if nm=VG then -n else n:=⟨_,rfl⟩
  rw[← hn'];have hn2:n'=1∨n'= -1:=by rw[hn'];split<;>omega
  have hw:IntKind.i64.wrap (0-n)= -n:=by rw[IntWalk.i64_in _ (by omega)];omega
  obtain⟨rfl,hnm⟩:=Wn he;clear hadd;rcases hnm with rfl|rfl|rfl;all_goals
   first
    | rw[if_pos rfl]at hn'
    | rw[if_neg (by decide)]at hn'
   simp only[Ug,VG,Um]at hsp ⊢
   repeat' first|refine Jc (hsp _) ?_|refine Ka ?_|fail
   refine Wp.while (fun m tm H => ∃(i : Nat) (base : TM), i + m = kz.length ∧
     tm=ovr base [(0,slV (Qi (kz.take i) b) 5 (pwL (UQ (kz.take i) n' l))),(2,.int .i64 n'),(4,.ptr 0 4 0 0),(7,.int .i64 (i:Int))]∧H=⟨[.cells 4 [[.int .i64 3,.str _,.int .i64 s,slV f 4 (Za kz)]]],0,[],0⟩)
    (fun m tm H hI=>?_) kz.length _ _ ⟨0,_,by omega,Ze ⟨rfl,Zg (by first|(rw[hn'];done)|(rw[hn'];exact hw)),rfl,rfl,trivial⟩,rfl⟩
   obtain⟨i,base,hi,rfl,rfl⟩:=hI
   have h2:=ZA kz i
   by_cases hlt:i<kz.length
   · obtain⟨t', ht'⟩ : ∃t', kz[i]? = some t' := ⟨kz[i], by simp⟩
     have hm:t'∈kz:=List.mem_of_getElem? ht'
     have h5:Zk (kz.take (i+1))=Zk (kz.take i)+t'.size:=by
      rw[List.take_add_one,ht',UB]
      simp[Zk]
     have h4:=ZA kz (i+1)
     obtain⟨f1,f2,f3⟩:=Ze4 (ts:=kz.take i) (n:=n') ((Zb9 _).2 fun x hx=>hkar x (List.mem_of_mem_take hx)) hA hn2 hB (fun x hx=>hok x (List.mem_of_mem_take hx)) (by omega) hP
     have hc:=ih t' hm (by omega) (hkar t' hm) f1 f2 (by omega) (by omega) (by omega) hn2 (Qi (kz.take i) b)
     rw[← Za7 n' l ht', ← Zaz b ht']at hc
     obtain⟨k',nm',s',b',kz'⟩:=t'
     have hj:=Zj ht'
     simp only[Tm.cells]at hc
     clear ih f1 f2 f3
     have hlx:=Zu (i:Int) ((Za kz).length:Int)
     rw[decide_eq_true (by rw[Zb];omega)]at hlx
     repeat' first|refine Jc (hc _) ?_|refine KK ?_|fail
     exact LoopI.go (m-1) (by omega) ⟨i+1,_,by omega,Ze ⟨rfl,rfl,rfl,Zg (Zd (n:=i+1) (by omega)),trivial⟩,rfl⟩
   · have e : i = kz.length := by omega
     subst e
     clear ih
     have hlx:=Zu (kz.length:Int) ((Za kz).length:Int)
     rw[decide_eq_false (by rw[Zb];omega)]at hlx
     rw[List.take_length]
     repeat' first|refine Ks ?_|fail
     exact ZJ _ _ _ _ _
 ·rw[if_neg he,if_neg he];rw[Bool.eq_false_iff.2 he]at hsp;have hadd:=hadd (.mk hk hs hn hl hok);simp only[Tm.cells]at hadd;clear ih;repeat' first|refine Jc (hsp _) ?_|refine Jc (hadd _) ?_|refine Ka ?_|fail
  all_goals exact ZJ _ _ _ _ _
theorem QV (m:Nat) (H:Heap) (b:Bool) (l:List (List PV)) (e:Int):frz3 m H (.tup [slV b 5 l,.int .i64 e])=some (.tup [slV b 5 l,.int .i64 e]):=by rw[Xu];simp only[Wu,Zfo];rfl
theorem ZpU (ht:t.Ok) (hs:t.size≤100000):∃b,∀H,CO 236 [.agg t.cells] H (.tup [slV b 5 (pwL (ofR t).1),.int .i64 (ofR t).2]) H:=by
 have hV:=c97 ht (by omega);have har:=ZuI ht (by omega);have hcol:=fun (h:t.ari=true)=>Zuk ht hs h (l:=[]) (n:=1) (B:=0) trivial (PwB.nil 0) (by omega) (by omega) (by simp;omega) (.inl rfl) true;have hnil:slV true 5 (pwL [])= .nils:=Zi 5;unfold ofR;by_cases h1:t.valid≠0
 ·rw[if_pos h1];refine⟨true,?_⟩;rw[hnil];generalize t.valid=v at hV h1 ⊢;clear har hcol;obtain⟨k,nm,s,f,kz⟩:=t;simp only[Tm.cells]at hV ⊢;refine Jw tOk fe236.ok rfl ?_;repeat' first|refine Jc (hV _) ?_|refine Jb ?_ ?_|refine Jo ?_|intro hb
  all_goals first
   | rfl
   | (exfalso;simp_all;done)
 ·rw[if_neg h1];have h1:=Classical.not_not.1 h1;rw[h1]at hV;cases h2:t.ari with
  | false=>rw[if_pos rfl];refine⟨true,?_⟩;rw[hnil];rw[h2]at har;clear hcol;obtain⟨k,nm,s,f,kz⟩:=t;simp only[Tm.cells]at hV har ⊢;refine Jw tOk fe236.ok rfl ?_;(repeat' first|refine Jc (hV _) ?_|refine Jc (har _) ?_|refine Ka ?_|fail);all_goals rfl
  | true=>
   rw[if_neg (by decide)];rw[h2]at har;have hcol:=hcol h2;rw[hnil]at hcol;generalize t.colR 1 []=L at hcol ⊢;generalize t.colFl true=F at hcol;have hlen:=ZT L;obtain⟨k,nm,s,f,kz⟩:=t;simp only[Tm.cells]at hV har hcol ⊢;by_cases h3:200<L.length
   ·rw[if_pos h3];refine⟨true,?_⟩;rw[hnil];refine Jw tOk fe236.ok rfl ?_;(repeat' first|(apply qCl;rfl;rfl;rfl;rfl;first|exact hV _|exact har _|exact hcol _)|refine Kv ?_|refine Jb ?_ ?_|refine Jo ?_|intro hb);all_goals first
     | rfl
     | (exfalso;rw[hlen]at hb;simp only[decide_eq_false_iff_not]at hb;omega)
   ·rw[if_neg h3];refine⟨F,?_⟩;refine Jw tOk fe236.ok (QV _ _ _ _ _) ?_;(repeat' first|(apply qCl;rfl;rfl;rfl;rfl;first|exact hV _|exact har _|exact hcol _)|refine Kv ?_|refine Jb ?_ ?_|refine Jo ?_|intro hb);all_goals first
     | exact QV _ _ _ _ _
     | (exfalso;rw[hlen]at hb;simp only[decide_eq_true_eq]at hb;omega)
