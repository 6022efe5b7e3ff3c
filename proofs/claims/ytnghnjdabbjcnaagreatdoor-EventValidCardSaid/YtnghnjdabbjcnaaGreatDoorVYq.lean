/-
  Parts of event.read: names, the copy of words, the shape of a word.
-/
import Derived.Test.YtnghnjdabbjcnaaGreatDoorVYi
set_option maxHeartbeats 0
set_option maxRecDepth 100000
namespace Go.Vm
variable {t:Tm}
theorem Zkx {s:Bs} (h:YA s=true):s.length≤24:=by
 cases s with
 |nil=>exact Nat.zero_le _
 |cons c r=>simp only[YA,Bool.and_eq_true,decide_eq_true_eq]at h;exact h.1
theorem ZjX {k:Int} {nm:Bs} {s:Int} {n:Nat} (h:Xj k nm s n=0):YA nm=true:=by unfold Xj at h;split at h;{cases h};split at h;{cases h};{rename_i h2;simpa using h2}
mutual
theorem ZqV:∀t:Tm,t.nodes=0→t.wr=true
 | .mk k nm s b kz, h => by
   rw[Tm.nodes]at h
   have h0:Xj k nm s kz.length=0:=by
    by_cases e:Xj k nm s kz.length=0
    · exact e
    · rw[if_pos e]at h;exact h
   rw[if_neg (by omega)]at h
   have hkids:=Zqf kz h
   rw[Tm.wr,decide_eq_true (Zkx (ZjX h0)),Bool.true_and]
   by_cases hk:k=3
   · rw[if_pos hk];exact hkids
   · rw[if_neg hk]
     have:¬ (¬ (k=1∨k=2∨k=3)∨s<0∨5<s∨(k=3∧s≠0)∨(k≠3∧0<kz.length)):=fun e=>by
      unfold Xj at h0
      rw[if_pos e]at h0
      cases h0
     simp only[not_or,Int.not_lt]at this
     rw[decide_eq_true (by omega),decide_eq_true this.2.1,decide_eq_true this.2.2.1];rfl
theorem Zqf:∀l:List Tm,Yk l=0→wrL l=true
 | [],_=>rfl
 | t :: r, h => by
   rw[Yk]at h
   have h0:t.nodes=0:=by
    by_cases e:t.nodes=0
    · exact e
    · rw[if_pos e]at h;exact h
   rw[if_neg (by omega)]at h
   rw[wrL,ZqV t h0,Zqf r h];rfl
end
structure Tm.TV (t:Tm):Prop where
 ok:t.Ok
 v:t.valid=0
theorem ZeF (h:t.TV):t.size≤400:=YT h.v
theorem ZpD (h:t.TV):t.wr=true:=ZqV t (V6 h.v)
theorem ZnS (h:t.TV):(wT t).length≤16000:=by have h1:=Zc9 t (ZpD h);have h2:=ZeF h;omega
end Go.Vm
namespace Go.Vm.Seat
open Go.Proofs
theorem c42 {t:Tm} (hf:t.TV):∀H,CO 42 [.agg t.cells] H (.tup [.str (wT t),.int .i64 0]) H:=by
 have ht:=hf.ok;have hV:=c65 ht (by have:=ZeF hf;omega);rw[hf.v]at hV;obtain⟨r,H',hw,rfl,bx',lv',nt',p',v',rfl,hb,hS, -⟩:=wrT ht (ZpD hf) (bx:=[.cells 4 [t.cells],.sp 49 [.nilp,.nils]]) (lv:=[]) (nt:=0) (id:=1) (s:=[]) rfl (.no _ _) (by have:=ZeF hf;simp only[List.length_nil];omega);rw[List.nil_append]at hS;obtain⟨lv2,hs⟩:=ZtK hb hS (by have:=ZnS hf;omega);generalize wT t=W at hs ⊢;clear hS hb;obtain⟨k,nm,s,b,kz⟩:=t;simp only[Tm.cells]at hV hw ⊢;refine Jw tOk fe42.ok rfl ?_;repeat' first|(apply qCl;rfl;rfl;rfl;rfl;first|exact hV _|exact hw|exact hs)|refine Ka ?_|fail
 all_goals rfl
end Go.Vm.Seat
namespace Go.Vm
variable {m:Mo}
def tfT (t:Tm):List Bs:=[[124],wT t]
theorem Zeb (a b:List Bs):ZD (a++b)=ZD a++ZD b:=by simp[ZD]
theorem Zf1 (l:List Bs):noB (ZD l)=true:=by simp only[noB,ZD,List.all_map,List.all_eq_true];intro x _;rfl
theorem Zob (l:List Bs):(ZD l).all (fun c=>c.all ZL)=true:=by simp only[ZD,List.all_map,List.all_eq_true];intro x _;rfl
theorem ZdI (N:Nat):∀l:List Bs,(∀x,x∈l→x.length≤N)→(WP [32] l).length≤(N+1)*l.length
 | [],_=>by simp[WP]
 | [x],h=>by have:=h x (by simp);simp only[WP,List.length_cons,List.length_nil];omega
 |x::y::r,h=>by have h1:=h x (by simp);have h2:=ZdI N (y::r) (fun z hz=>h z (List.mem_cons_of_mem _ hz));rw[WP];simp only[List.length_append,List.length_cons,List.length_nil]at h2 ⊢;rw[Nat.mul_add (N+1)];omega
theorem Zgd:∀(l:List Tm),(l.flatMap tfT).length=2*l.length
 | []=>rfl
 |t::r=>by rw[List.flatMap_cons,List.length_append,Zgd r];simp only[tfT,List.length_cons,List.length_nil];omega
def nmK (k:Int):ZY:=nmsL.getD k.toNat []
def Zcv (m:Mo):List ZY:=(if m.kind=6 then[] else[Lib.itoa m.num])++((if m.kind=1 then[Lib.itoa m.role] else[])++(if m.kind=4∨m.kind=5 then[Lib.itoa m.goal] else[]))
def Zkj (m:Mo):List ZY:=(nmK m.kind::Zcv m)++m.agents
def Xc (m:Mo):ZY:=WP [32] (Zkj m++m.terms.flatMap tfT)
structure Mo.Ln (m:Mo):Prop where
 k1:1≤m.kind
 k7:m.kind≤7
 n:0≤m.num∧m.num≤999999
 r:0≤m.role∧m.role≤999999
 g:0≤m.goal∧m.goal≤999999
 al:m.agents.length≤4
 ags:∀x,x∈m.agents→x.length≤30000
 tl:m.terms.length≤12
 ts:∀t,t∈m.terms→t.TV
theorem Ua {n:Int} (h0:0≤n) (h1:n≤999999):(Lib.itoa n).length≤20:=by obtain⟨u,rfl⟩:∃u:Nat,n=(u:Int):=⟨n.toNat,by omega⟩;rw[Lib.itoa_nonneg,Lib.decDigits_length];have:=Lib.nDigits_le20 u (by omega);omega
theorem ZhJ (h:m.Ln):(Zkj m).length≤8∧∀x,x∈Zkj m→x.length≤30000:=by
 have e1:=Ua h.n.1 h.n.2;have e2:=Ua h.r.1 h.r.2;have e3:=Ua h.g.1 h.g.2;have hal:=h.al;have hn:(Zcv m).length≤3∧∀x,x∈Zcv m→x.length≤20:=by unfold Zcv;constructor;{simp only[List.length_append];split<;>split<;>split<;>simp};{intro x hx;rcases List.mem_append.1 hx with hx|hx;{split at hx;{cases hx};{rw[List.mem_singleton]at hx;subst hx;exact e1}};{rcases List.mem_append.1 hx with hx|hx;{split at hx;{rw[List.mem_singleton]at hx;subst hx;exact e2};{cases hx}};{split at hx;{rw[List.mem_singleton]at hx;subst hx;exact e3};{cases hx}}}}
 have hk:(nmK m.kind).length≤7:=by obtain⟨kd,nu,ro,an,ag,go,tn,te⟩:=m;have h1:=h.k1;have h7:=h.k7;simp only at h1 h7;show(nmK kd).length≤7;rcases(show kd=1∨kd=2∨kd=3∨kd=4∨kd=5∨kd=6∨kd=7 by omega) with rfl|rfl|rfl|rfl|rfl|rfl|rfl<;>decide
 unfold Zkj;constructor;{simp only[List.length_append,List.length_cons];omega};{intro x hx;rcases List.mem_append.1 hx with hx|hx;{rcases List.mem_cons.1 hx with rfl|hx;{omega};{have:=hn.2 x hx;omega}};{have:=h.ags x hx;omega}}
theorem ZkB (h:m.Ln):(Xc m).length≤1000000:=by
 obtain⟨h1,h2⟩:=ZhJ h;have htl:=Zgd m.terms;have hmem:∀y,y∈Zkj m++m.terms.flatMap tfT→y.length≤30000:=fun y hy=>by rcases List.mem_append.1 hy with hy|hy;{exact h2 y hy};{obtain⟨t,ht,hy⟩:=List.mem_flatMap.1 hy;have:=ZnS (h.ts t ht);simp only[tfT,List.mem_cons,List.not_mem_nil,or_false]at hy;rcases hy with rfl|rfl;{simp};{omega}}
 have hjl:=ZdI 30000 _ hmem;rw[List.length_append,htl]at hjl;have h3:=h.tl;have:(30000+1)*((Zkj m).length+2*m.terms.length)≤(30000+1)*32:=Nat.mul_le_mul_left _ (by omega);unfold Xc;omega
end Go.Vm
namespace Go.Vm.Seat
variable {l:List Bs} {out:PV} {lv:List Nat} {nt:Nat}
open Go.Proofs
theorem ZmT:ApT E0 29 29 1 16:=⟨_,_,_,_,_,rfl,rfl,rfl,rfl,rfl,rfl,rfl,by decide,rfl⟩
theorem apF (h:ApV false 1 (ZD l) out lv nt) {x:PV} {r:List Bs} (hx:ElV 1 x (ZD r)) (hl:l.length+r.length≤100000):∃out' lv' nt',(∀bx ro,ZP E0 29 29 out x ⟨bx,ro,lv,nt⟩=some (out',⟨bx,ro,lv',nt'⟩))∧ApV false 1 (ZD (l++r)) out' lv' nt':=by obtain⟨out',lv',nt',hap,hA', -⟩:=h.app ZmT hx (Zob _) (ZR (by simp only[ZC];omega) (by decide)) (Zf1 _);rw[← Zeb]at hA';exact⟨out',lv',nt',hap,hA'⟩
theorem ZrA (hA:ApV false 1 (ZD l) out lv nt) (h1:l.length≤1000000) (h2:(WP [32] l).length≤1000000) (bx:List Box):CO 43 [out,.str [32]] ⟨bx,0,lv,nt⟩ (.str (WP [32] l)) ⟨bx,0,lv,nt⟩:=by
 refine(z43 [out,.str [32]] _ _ _ ?_).1;have gq:(Nat.ble l.length 1000000&&Nat.ble (WP [32] l).length 1000000)=true:=by rw[Nat.ble_eq_true_of_le h1,Nat.ble_eq_true_of_le h2];rfl
 generalize hL:ZD l=L at hA;cases hA with
 |nil _ _ h=>cases h
 |full=>subst hL;simp only[Zgx,Zd8,gq]
 |tok=>subst hL;simp only[Zgx,Zd8,gq]
theorem c19 {m:Mo} (hm:m.Ln):∀H,CO 19 [.agg m.cells] H (.str (Xc m)) H:=by
 have hsh:=WG;unfold shC at hsh;have hjl:=ZkB hm;have hPl:=(ZhJ hm).1;have hte:=hm.ts;have hl:=hm.tl;have hal:=hm.al;have hk1:=hm.k1;have hk7:=hm.k7;have hi1:=c41 hm.n.1 hm.n.2;have hi2:=c41 hm.r.1 hm.r.2;have hi3:=c41 hm.g.1 hm.g.2;have hcl:=Zb m.terms;unfold Xc at hjl ⊢;obtain⟨P0,hP0⟩:∃P0,P0=Zkj m:=⟨_,rfl⟩;rw[← hP0]at hjl hPl ⊢;unfold Zkj Zcv at hP0;clear hm;obtain⟨kd,nu,ro,an,ag,go,tn,te⟩:=m;simp only[Mo.cells]at hjl hte hl hal hk1 hk7 hi1 hi2 hi3 hcl hP0 ⊢;generalize Lib.itoa nu=w1 at hi1 hP0;generalize Lib.itoa ro=w2 at hi2 hP0;generalize Lib.itoa go=w3 at hi3 hP0;have hA1:∀x:Bs,ApV false 1 (ZD [x]) (.sl .full 1 [[.str x]]) [] 0:=fun x=> .full _ _ _ rfl (Zf1 [x]);rcases(show kd=6∨kd=2∨kd=3∨kd=7∨kd=1∨kd=4∨kd=5 by omega) with rfl|rfl|rfl|rfl|rfl|rfl|rfl;have hAQ:=hA1 (nmK 6);have hPQ:[nmK 6]++ag=P0:=by rw[hP0];rfl
 rotate_left;obtain⟨p0,lp0,np0,hq0,hAQ⟩:=apF (hA1 (nmK 2)) (x:= .sl .full 1 [[.str w1]]) (r:=[w1]) (.sl _ _ _) (by simp);have hPQ:[nmK 2]++ [w1]++ag=P0:=by rw[hP0];rfl
 rotate_left;obtain⟨p0,lp0,np0,hq0,hAQ⟩:=apF (hA1 (nmK 3)) (x:= .sl .full 1 [[.str w1]]) (r:=[w1]) (.sl _ _ _) (by simp);have hPQ:[nmK 3]++ [w1]++ag=P0:=by rw[hP0];rfl
 rotate_left;obtain⟨p0,lp0,np0,hq0,hAQ⟩:=apF (hA1 (nmK 7)) (x:= .sl .full 1 [[.str w1]]) (r:=[w1]) (.sl _ _ _) (by simp);have hPQ:[nmK 7]++ [w1]++ag=P0:=by rw[hP0];rfl
 rotate_left;obtain⟨p0,lp0,np0,hq0,hB0⟩:=apF (hA1 (nmK 1)) (x:= .sl .full 1 [[.str w1]]) (r:=[w1]) (.sl _ _ _) (by simp);obtain⟨p1,lp1,np1,hq1,hAQ⟩:=apF hB0 (x:= .sl .full 1 [[.str w2]]) (r:=[w2]) (.sl _ _ _) (by simp);have hPQ:[nmK 1]++ [w1]++ [w2]++ag=P0:=by rw[hP0];rfl
 rotate_left;obtain⟨p0,lp0,np0,hq0,hB0⟩:=apF (hA1 (nmK 4)) (x:= .sl .full 1 [[.str w1]]) (r:=[w1]) (.sl _ _ _) (by simp);obtain⟨p1,lp1,np1,hq1,hAQ⟩:=apF hB0 (x:= .sl .full 1 [[.str w3]]) (r:=[w3]) (.sl _ _ _) (by simp);have hPQ:[nmK 4]++ [w1]++ [w3]++ag=P0:=by rw[hP0];rfl
 rotate_left;obtain⟨p0,lp0,np0,hq0,hB0⟩:=apF (hA1 (nmK 5)) (x:= .sl .full 1 [[.str w1]]) (r:=[w1]) (.sl _ _ _) (by simp);obtain⟨p1,lp1,np1,hq1,hAQ⟩:=apF hB0 (x:= .sl .full 1 [[.str w3]]) (r:=[w3]) (.sl _ _ _) (by simp);have hPQ:[nmK 5]++ [w1]++ [w3]++ag=P0:=by rw[hP0];rfl
 rotate_left;all_goals
  obtain⟨o2,lv2,nt2,hap2,hAX⟩:=apF hAQ (x:=slV an 1 (ZD ag)) (r:=ag) (.slV _ _ _) (by simp only[List.length_append,List.length_cons,List.length_nil];omega)
  rw[hPQ]at hAX
  clear hAQ hPQ hP0
  refine Yt (own:=fun d=>Nat.beq d 30006) tOk fe19.ok (by simp only[ZH,frzG,Vn,ZX];rfl) rfl ?_
  refine Wp.seq ?_
  repeat' first|(apply qCl;rfl;rfl;rfl;rfl;first|exact hi1 _|exact hi2 _|exact hi3 _)|refine Kw ?_|refine KJ ?_|refine Jd (hsh _) ?_|(apply dAl;rfl;rfl;rfl;rfl;exact IsV.ptrM;exact IsH.mkN)|refine Jh ?_|(apply dWB tOk follows;rfl;kernel_rfl;rfl;exact IsH.mkN)|fail
  refine Wp.while (fun m tm H => ∃(i : Nat) (base : TM) (out : PV) (lv : List Nat) (nt : Nat), i + m = te.length ∧ ApV false 1 (ZD (P0 ++ (te.take i).flatMap tfT)) out lv nt ∧
    tm=ovr base [(4,out),(46,slV tn 4 (Za te)),(47,.int .i64 (te.length:Int)),(48,.int .i64 (i:Int))]∧H=⟨_,0,lv,nt⟩)
   (fun m tm H hI=>Wp.drop ?_) te.length _ _ ⟨0,_,_,_,_,by omega,by rw[List.take_zero,List.flatMap_nil,List.append_nil];exact hAX,Ze ⟨rfl,rfl,Zg (by rw[hcl]),rfl,trivial⟩,rfl⟩
  obtain⟨i,base,out,lv,nt,hi,hA,rfl,rfl⟩:=hI
  have hlx:=Zu (i:Int) (te.length:Int)
  by_cases hlt:i<te.length
  · obtain⟨x, hx⟩ : ∃x, te[i]? = some x := ⟨te[i], by simp⟩
    rw[decide_eq_true (by omega)]at hlx
    have hF:=c42 (hte x (List.mem_of_getElem? hx))
    have hsn:P0++(te.take (i+1)).flatMap tfT=(P0++(te.take i).flatMap tfT)++ [[124],wT x]:=by
     rw[List.take_add_one,hx,List.flatMap_append,List.append_assoc];rfl
    have htl:=Zgd (te.take i)
    rw[List.length_take]at htl
    obtain⟨o5,lv5,nt5,hap5,hA5⟩:=apF hA (x:= .sl .full 1 [[.str [124]],[.str (wT x)]]) (r:=[[124],wT x]) (.sl _ _ _) (by simp only[List.length_append,htl,List.length_cons,List.length_nil];omega)
    rw[← hsn]at hA5
    clear hAX hA hsn htl
    generalize wT x=w2 at hF hap5
    obtain⟨k',nm',s',b',kz'⟩:=x
    have hj:=Zj hx
    simp only[Tm.cells]at hF
    repeat' first|refine Jc (hF _) ?_|refine Kw ?_|refine KH ?_|fail
    refine DropQ.go [(4,o5),(46,slV tn 4 (Za te)),(47,.int .i64 (te.length:Int)),(48,.int .i64 ((i+1:Nat):Int))] ⟨rfl,rfl,rfl,Zg (Zd (n:=i+1) (by omega)),trivial⟩ ?_ rfl ?_ (LoopI.go (m-1) (by omega) ⟨i+1,_,o5,lv5,nt5,by omega,hA5,rfl,rfl⟩)
    · simp[Zl,under,hA5.under]
    · simp[Yy,ZO,Zl,under]
  · have e : i = te.length := by omega
    subst e
    rw[decide_eq_false (by omega)]at hlx
    rw[List.take_length]at hA
    have htl:=Zgd te
    have hJ:=fun bx=>ZrA hA (by rw[List.length_append,htl];omega) (by omega) bx
    clear hAX hA htl
    repeat' first|refine Jc (hJ _) ?_|refine Ki ?_|fail
    all_goals rfl
end Go.Vm.Seat
namespace Go.Vm
theorem Zrb (w:ZY):(ixW w nmsL 0<1∧kdP w 7=0)∨(1≤ixW w nmsL 0∧ixW w nmsL 0=kdP w 7):=by by_cases h0:w=nmsL.getD 0 [];{subst h0;exact .inl (by decide)};by_cases h1:w=nmsL.getD 1 [];{subst h1;exact .inr (by decide)};by_cases h2:w=nmsL.getD 2 [];{subst h2;exact .inr (by decide)};by_cases h3:w=nmsL.getD 3 [];{subst h3;exact .inr (by decide)};by_cases h4:w=nmsL.getD 4 [];{subst h4;exact .inr (by decide)};by_cases h5:w=nmsL.getD 5 [];{subst h5;exact .inr (by decide)};by_cases h6:w=nmsL.getD 6 [];{subst h6;exact .inr (by decide)};by_cases h7:w=nmsL.getD 7 [];{subst h7;exact .inr (by decide)};refine .inl ⟨?_,?_⟩;{simp only[nmsL,List.getD_cons_zero,List.getD_cons_succ]at h0 h1 h2 h3 h4 h5 h6 h7;simp only[nmsL,ixW,if_neg h0,if_neg h1,if_neg h2,if_neg h3,if_neg h4,if_neg h5,if_neg h6,if_neg h7];decide};{simp only[kdP,if_neg h1,if_neg h2,if_neg h3,if_neg h4,if_neg h5,if_neg h6,if_neg h7]}
end Go.Vm
namespace Go.Vm.Seat
variable {l:List Bs}
open Go.Proofs
theorem c57 {s:Bs} (hs:s.length≤maxLen):∀H,CO 57 [.str s] H (.bool (!YH s)) H:=by
 have hc:=c58 hs;generalize YH s=B at hc ⊢;cases B;all_goals
  refine Jw tOk fe57.ok rfl ?_
  repeat' first|refine Jc (hc _) ?_|refine Ka ?_|fail
  all_goals rfl
theorem ZvE (hl:∀s,s∈l→s.length≤maxLen) (hlen:l.length≤100000) (b:Bool):∀H,CO 91 [slV b 1 (ZD l),.fn 57 []] H (.int .i64 (ixN l 0)) H:=by
 have hsl:=ZC l;refine Jw tOk fe91.ok rfl ?_;repeat' first|refine KN ?_|fail
 refine Wp.while (fun m tm H=>∃(i:Nat) (base:TM),i+m=l.length∧ixN l 0=ixN (l.drop i) i∧tm=ovr base [(0,slV b 1 (ZD l)),(1,.fn 57 []),(7,.int .i64 (l.length:Int)),(8,.int .i64 (i:Int))]∧H=⟨[],0,[],0⟩)
  (fun m tm H hI=>?_) l.length _ _ ⟨0,_,by omega,by simp,Ze ⟨rfl,rfl,Zg (by rw[hsl]),rfl,trivial⟩,rfl⟩
 obtain⟨i,base,hi,hgo,rfl,rfl⟩:=hI;rw[hgo];by_cases hlt:i<l.length;{obtain⟨a,ha⟩:∃a,l[i]? = some a:=⟨l[i],by simp⟩;have hj:=Xf ha;have hc:=c57 (hl a (List.mem_of_getElem? ha));have hlx:=Zu (i:Int) (l.length:Int);rw[decide_eq_true (by omega)]at hlx;rw[ZfR ha];by_cases hd:YH a=false;{rw[if_pos hd];rw[hd]at hc;have hc:∀H,CO 57 [.str a] H (.bool true) H:=hc;(repeat' first|refine Jc (hc _) ?_|refine KH ?_|fail);all_goals rfl};{rw[if_neg hd];rw[show YH a=true by simpa using hd]at hc;have hc:∀H,CO 57 [.str a] H (.bool false) H:=hc;(repeat' first|refine Jc (hc _) ?_|refine KH ?_|fail);exact LoopI.go (m-1) (by omega) ⟨i+1,_,by omega,rfl,Ze ⟨rfl,rfl,rfl,Zg (Zd (n:=i+1) (by omega)),trivial⟩,rfl⟩}}
 ·have e:i=l.length:=by omega
  subst e;have hlx:=Zu (l.length:Int) (l.length:Int);rw[decide_eq_false (by omega)]at hlx;rw[List.drop_length];repeat' first|refine Ki ?_|fail
  all_goals rfl
theorem ZrF (hl:∀s,s∈l→s.length≤maxLen) (hlen:l.length≤100000) (b:Bool):∀H,CO 56 [slV b 1 (ZD l),.fn 57 []] H (.bool (l.any fun s=> !YH s)) H:=by
 have hc:=ZvE hl hlen b;rw[← Zeq l 0];have hge:=XY (ixN l 0) 0;generalize ixN l 0=x at hc hge ⊢;generalize decide (0≤x)=A at hge ⊢;refine Jw tOk fe56.ok rfl ?_;cases A;all_goals
  repeat' first|refine Jc (hc _) ?_|refine Kg ?_|fail
  all_goals rfl
theorem Zpt {l:List ZY} (hne:l≠ []) (hl:l.length≤100000) (b:Bool):∀H,CO 53 [slV b 1 (ZD l)] H (slV true 1 (ZD l)) H:=by
 refine Jw tOk fe53.ok (ZJ _ _ _ _ _) ?_;obtain⟨out',lv',nt',hap,hA, -⟩:=(ApV.full (es:=1) [] [] 0 (rfl:false=false) rfl).app ZoI (.slV b 1 (ZD l)) (Zlg l) (ZR (by simp[ZC];omega) (by decide)) (ZkC l);rw[Uy hne b]at hap ⊢;rw[Uy hne true];repeat' first|refine Kw ?_|refine Ka ?_|fail
 exact(hA.frz3 _ _).trans (by rw[List.nil_append,Uy hne false])
abbrev wB (w:ZY) (ws:List ZY):Box:= .cells 1 [[.sl .none 1 (ZD (w::ws))]]
abbrev cA:Box:= .cells 6 [Zod 0 0 0 0]
theorem Zuw (nm w:ZY) (ws:List ZY) (f1 f2 f3:Bool) (a b c d:Int):CO 51 [.agg [.str nm,.bool f1,.bool f2,.bool f3,.int .i64 a,.int .i64 b,.int .i64 c,.int .i64 d],.ptr 1 1 0 0] ⟨[cA,wB w ws],0,[],0⟩ (.bool (decide (nm=w))) ⟨[cA,wB w ws],0,[],0⟩:=by
 have he:=Zpu nm w;generalize decide (nm=w)=B at he ⊢;have key:CO 51 [.agg [.str nm,.bool f1,.bool f2,.bool f3,.int .i64 a,.int .i64 b,.int .i64 c,.int .i64 d],.ptr 1 1 0 0] ⟨[cA,wB w ws],0,[],0⟩ (.bool B) ⟨[cA,wB w ws,.cells 8 [[.str nm,.bool f1,.bool f2,.bool f3,.int .i64 a,.int .i64 b,.int .i64 c,.int .i64 d]]],0,[],0⟩:=by
  refine ZU (own:=fun _=>false) tOk fe51.ok ?_;refine Wp.seq ?_;repeat' first|refine Ka ?_|refine JD ?_|refine Kb ?_|fail
  all_goals exact RetE.ret rfl rfl rfl
 exact key.shed (by simp) (Nat.zero_le _) rfl rfl
theorem ZsA (w:ZY) (ws:List ZY):CO 50 [.sl .none 8 shC,.fn 51 [.ptr 1 1 0 0]] ⟨[cA,wB w ws],0,[],0⟩ (.int .i64 (ixW w nmsL 0)) ⟨[cA,wB w ws],0,[],0⟩:=by
 unfold shC;refine ZU (own:=fun _=>false) tOk fe50.ok ?_;refine Wp.seq ?_;repeat' first|refine Jo ?_|fail
 refine Wp.while (fun m tm H=>∃(i:Nat) (base:TM),i+m=8∧ixW w nmsL 0=ixW w (nmsL.drop i) i∧tm=ovr base [(0,.sl .none 8 [_,_,_,_,_,_,_,_]),(1,.fn 51 [.ptr 1 1 0 0]),(7,.int .i64 8),(8,.int .i64 (i:Int))]∧H=⟨[cA,wB w ws],0,[],0⟩)
  (fun m tm H hI=>?_) 8 _ _ ⟨0,_,by omega,rfl,Ze ⟨rfl,rfl,rfl,rfl,trivial⟩,rfl⟩
 obtain⟨i,base,hi,hx,rfl,rfl⟩:=hI;rw[hx];by_cases hi8:i=8
 ·subst hi8;repeat' first|refine KI ?_|fail
  all_goals exact RetE.ret rfl rfl rfl
 ·have hc:=Zuw (nmsL.getD i []) w ws;have hdr:ixW w (nmsL.drop i) i=if w=nmsL.getD i [] then(i:Int) else ixW w (nmsL.drop (i+1)) (i+1):=by rcases(show i=0∨i=1∨i=2∨i=3∨i=4∨i=5∨i=6∨i=7 by omega) with rfl|rfl|rfl|rfl|rfl|rfl|rfl|rfl<;>rfl
  obtain⟨j,hj⟩:∃j,j=i+1:=⟨_,rfl⟩;by_cases hb:w=nmsL.getD i []
  ·rw[hdr, if_pos hb];rw[decide_eq_true hb.symm]at hc;rcases(show i=0∨i=1∨i=2∨i=3∨i=4∨i=5∨i=6∨i=7 by omega) with rfl|rfl|rfl|rfl|rfl|rfl|rfl|rfl;all_goals
    simp only[nmsL,List.getD_cons_succ,List.getD_cons_zero]at hc
    repeat' first|refine Jc (hc _ _ _ _ _ _ _) ?_|refine Ke ?_|fail
    all_goals exact RetE.ret rfl rfl rfl
  ·rw[hdr, if_neg hb];rw[decide_eq_false (fun e=>hb e.symm)]at hc;rw[← hj];rcases(show i=0∨i=1∨i=2∨i=3∨i=4∨i=5∨i=6∨i=7 by omega) with rfl|rfl|rfl|rfl|rfl|rfl|rfl|rfl;all_goals
    simp only[nmsL,List.getD_cons_succ,List.getD_cons_zero]at hc
    repeat' first|refine Jc (hc _ _ _ _ _ _ _) ?_|refine Ke ?_|fail
    exact LoopI.go (m-1) (by omega) ⟨j,_,by omega,rfl,Ze ⟨rfl,rfl,rfl,by subst hj;rfl,trivial⟩,rfl⟩
