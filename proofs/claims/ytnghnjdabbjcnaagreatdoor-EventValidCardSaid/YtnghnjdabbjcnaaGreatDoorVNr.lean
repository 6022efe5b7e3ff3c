/-
  Sums: the error of a list, the sum of a list (the program's text).
-/
import Derived.Test.YtnghnjdabbjcnaaGreatDoorVNj
set_option maxHeartbeats 0
set_option maxRecDepth 100000
namespace Go.Vm.Seat
variable {a key t x:Tm} {b l:List Tm} {i:Nat}
open Go.Proofs
theorem Zpe (h:x.Ok∧x.size≤100000):(Tm.mk 3 pkN 0 true [x]).Ok∧(Tm.mk 3 pkN 0 true [x]).size≤200000:=⟨cls_ok.app (by decide) (by simp) rfl (fun y hy=>by
 rw[List.mem_singleton]at hy
 rw[hy]
 exact h.1),by
 simp only[Tm.size,Zk]
 have:=h.2
 omega⟩
theorem ZjC (ha:a.okA=true) (hk:key.okA=true) (ha':a.Ok∧a.size≤100000) (hk':key.Ok∧key.size≤100000) (b:Bool):∀H,CO 213 [.agg (Tm.mk 3 YG 0 b [a,key]).cells] H (.tup [.agg (Xw (.mk 3 YG 0 b [a,key])).cells,.bool (isA a VJ&&decide ((a.kd 1).cmp (.mk 3 pkN 0 true [key])=0))]) H:=by
 have hi:=isR a VJ;have hd:Xw (.mk 3 YG 0 b [a,key])=if(isA a VJ&&decide ((a.kd 1).cmp (.mk 3 pkN 0 true [key])=0))=true then a.kd 0 else .mk 3 YG 0 b [a,key]:=by rw[← Zfg (t:= .mk 3 YG 0 b [a,key]) (by simp only[Tm.okA,if_pos,Zhb,ha,hk];rfl)];unfold ZcC;simp[ZoP,Tm.nm,Tm.kd,V9,VW,VQ,YG,YN,Y1,pkN]
 rw[hd];cases hp:isA a VJ with
 |false=>
  rw[hp]at hi;rw[if_neg (by simp),Bool.false_and];obtain⟨k1,n1,s1,f1,l1⟩:=a;obtain⟨k2,n2,s2,f2,l2⟩:=key;simp only[Tm.cells,Vx,YG]at hi ⊢;refine Jw tOk fe213.ok rfl ?_;repeat' first|refine Jk ?_|refine Kr ?_|refine Jd (hi _) ?_|refine KA ?_|fail
  all_goals first
   | exact Yh _ _ _ _ _ _ _ _
   | rfl
   | (exfalso;simp at hb;done)
 |true=>
  rw[hp]at hi;obtain⟨b1,x,y,rfl⟩:=Xe ha hp rfl;have hs:=ZeR (up2 (VU ha' (x:=y) (by simp))) (Zpe hk');have hj:=Znu pkN key;show ∀H,CO 213 _ H (.tup [.agg (Tm.cells (if(true&&decide (y.cmp (.mk 3 pkN 0 true [key])=0))=true then x else _)),.bool (true&&decide (y.cmp (.mk 3 pkN 0 true [key])=0))]) H;rw[Bool.true_and];generalize decide (y.cmp (.mk 3 pkN 0 true [key])=0)=c at hs ⊢;obtain⟨k1,n1,s1,f1,l1⟩:=x;obtain⟨k2,n2,s2,f2,l2⟩:=y;obtain⟨k3,n3,s3,f3,l3⟩:=key;cases c
  ·rw[if_neg (by decide)];simp only[Tm.cells,Vx,ZaU,YG,VJ,pkN]at hi hj hs ⊢;refine Jw tOk fe213.ok rfl ?_;(repeat' first|refine Jk ?_|refine Kr ?_|(apply dCl;rfl;rfl;rfl;rfl;rfl;first|exact hi _|exact hj _|exact hs _)|refine JB ?_|refine KA ?_|fail);all_goals first
    | exact Yh _ _ _ _ _ _ _ _
    | rfl
    | (exfalso;simp at hb;done)
  ·rw[if_pos rfl];simp only[Tm.cells,Vx,ZaU,YG,VJ,pkN]at hi hj hs ⊢;refine Jw tOk fe213.ok (Yh _ _ _ _ _ _ _ _) ?_;(repeat' first|refine Jk ?_|refine Kr ?_|(apply dCl;rfl;rfl;rfl;rfl;rfl;first|exact hi _|exact hj _|exact hs _)|refine JB ?_|refine KA ?_|fail);all_goals first
    | exact Yh _ _ _ _ _ _ _ _
    | rfl
    | (exfalso;simp at hb;done)
theorem ZiU (ha:a.okA=true) (hk:key.okA=true) (ha':a.Ok∧a.size≤100000) (hk':key.Ok∧key.size≤100000) (b:Bool):∀H,CO 213 [.agg (Tm.mk 3 YN 0 b [a,key]).cells] H (.tup [.agg (Xw (.mk 3 YN 0 b [a,key])).cells,.bool (isA a Xp&&decide (key.cmp (.mk 3 pkN 0 true [a.kd 1])=0))]) H:=by
 have hi:=isR a Xp;have hd:Xw (.mk 3 YN 0 b [a,key])=if(isA a Xp&&decide (key.cmp (.mk 3 pkN 0 true [a.kd 1])=0))=true then a.kd 0 else .mk 3 YN 0 b [a,key]:=by rw[← Zfg (t:= .mk 3 YN 0 b [a,key]) (by simp only[Tm.okA,if_pos,Zhb,ha,hk];rfl)];unfold ZcC;simp[ZoP,Tm.nm,Tm.kd,V9,VW,VQ,YG,YN,Y1,pkN]
 rw[hd];cases hp:isA a Xp with
 |false=>
  rw[hp]at hi;rw[if_neg (by simp),Bool.false_and];obtain⟨k1,n1,s1,f1,l1⟩:=a;obtain⟨k2,n2,s2,f2,l2⟩:=key;simp only[Tm.cells,Vx,YN]at hi ⊢;refine Jw tOk fe213.ok rfl ?_;repeat' first|refine Jk ?_|refine Kr ?_|refine Jd (hi _) ?_|refine KA ?_|fail
  all_goals first
   | exact Yh _ _ _ _ _ _ _ _
   | rfl
   | (exfalso;simp at hb;done)
 |true=>
  rw[hp]at hi;obtain⟨b1,x,y,rfl⟩:=Xe ha hp rfl;have hs:=ZeR (up2 hk') (Zpe (VU ha' (x:=y) (by simp)));have hj:=Znu pkN y;show ∀H,CO 213 _ H (.tup [.agg (Tm.cells (if(true&&decide (key.cmp (.mk 3 pkN 0 true [y])=0))=true then x else _)),.bool (true&&decide (key.cmp (.mk 3 pkN 0 true [y])=0))]) H;rw[Bool.true_and];generalize decide (key.cmp (.mk 3 pkN 0 true [y])=0)=c at hs ⊢;obtain⟨k1,n1,s1,f1,l1⟩:=x;obtain⟨k2,n2,s2,f2,l2⟩:=y;obtain⟨k3,n3,s3,f3,l3⟩:=key;cases c
  ·rw[if_neg (by decide)];simp only[Tm.cells,Vx,ZaU,YN,Xp,pkN]at hi hj hs ⊢;refine Jw tOk fe213.ok rfl ?_;(repeat' first|refine Jk ?_|refine Kr ?_|(apply dCl;rfl;rfl;rfl;rfl;rfl;first|exact hi _|exact hj _|exact hs _)|refine JB ?_|refine KA ?_|fail);all_goals first
    | exact Yh _ _ _ _ _ _ _ _
    | rfl
    | (exfalso;simp at hb;done)
  ·rw[if_pos rfl];simp only[Tm.cells,Vx,ZaU,YN,Xp,pkN]at hi hj hs ⊢;refine Jw tOk fe213.ok (Yh _ _ _ _ _ _ _ _) ?_;(repeat' first|refine Jk ?_|refine Kr ?_|(apply dCl;rfl;rfl;rfl;rfl;rfl;first|exact hi _|exact hj _|exact hs _)|refine JB ?_|refine KA ?_|fail);all_goals first
    | exact Yh _ _ _ _ _ _ _ _
    | rfl
    | (exfalso;simp at hb;done)
theorem c213 {nm:Bs} {ks:List Tm} (h0:(YQ nm).kind=3) (h1:(YQ nm).least≤ks.length) (h2:(ks.length:Int)≤(YQ nm).most) (hA:∀x,x∈ks→x.okA=true) (hS:SmL ks) (b:Bool):∃f,∀H,CO 213 [.agg (Tm.mk 3 nm 0 b ks).cells] H (.tup [.agg (Xw (.mk 3 nm 0 b ks)).cells,.bool f]) H:=by rcases ZbU h0 with⟨hn,e1,e2⟩|⟨hn,e1,e2⟩;{rw[e1]at h1;rw[e2]at h2;obtain⟨a,rfl⟩:=Ztz (l:=ks) (by omega);have ha:=hA a (by simp);rcases hn with rfl|rfl|rfl;{exact⟨_,Zk2 ha b⟩};{exact⟨_,Zke ha b⟩};{exact⟨_,Zjh ha b⟩}};{rw[e1]at h1;rw[e2]at h2;obtain⟨a,key,rfl⟩:=ZqQ (l:=ks) (by omega);have ha:=hA a (by simp);have hk:=hA key (by simp);have ha':=hS a (by simp);have hk':=hS key (by simp);rcases hn with rfl|rfl|rfl;{exact⟨_,Zj7 ha ha' hk' b⟩};{exact⟨_,ZjC ha hk ha' hk' b⟩};{exact⟨_,ZiU ha hk ha' hk' b⟩}}
theorem Zhi (t:Tm) (h:l[i]? = some x):Ze5 (l.drop i) t=(decide (x.cmp t=0)||Ze5 (l.drop (i+1)) t):=by rw[Zw h];rfl
theorem Zu9 (hl:SmL l) (ht:t.Ok∧t.size≤100000) (hlen:l.length≤1000000) (b:Bool):∀H,CO 258 [slV b 4 (Za l),.agg t.cells] H (.bool (Ze5 l t)) H:=by
 have hcs:∀x,x∈l→∀H,CO 59 [.agg x.cells,.agg t.cells] H (.bool (decide (x.cmp t=0))) H:=fun x hx=>ZeR (up2 (hl x hx)) (up2 ht);obtain⟨k,nm,s,f,kz⟩:=t;simp only[Tm.cells]at hcs ⊢;refine Jw tOk fe258.ok rfl ?_ (by rw[show ZH [slV b 4 (Za l),.agg [.int .i64 k,.str nm,.int .i64 s,slV f 4 (Za kz)]]=some [slV b 4 (Za l),.agg [.int .i64 k,.str nm,.int .i64 s,slV f 4 (Za kz)]] from by simp only[ZH,Xx];simp only[frzG,XA]]);repeat' first|refine Ka ?_|fail
 refine Wp.while (fun m tm H => ∃(i : Nat) (base : TM), i + m = l.length ∧ Ze5 l (.mk k nm s f kz) = Ze5 (l.drop i) (.mk k nm s f kz) ∧
   tm=ovr base [(0,slV b 4 (Za l)),(3,.ptr 0 4 0 0),(5,.int .i64 (i:Int))]∧H=⟨[.cells 4 [[.int .i64 k,.str nm,.int .i64 s,slV f 4 (Za kz)]]],0,[],0⟩)
  (fun m tm H hI=>?_) l.length _ _ ⟨0,_,by omega,by rw[List.drop_zero],Ze ⟨rfl,rfl,rfl,trivial⟩,rfl⟩
 obtain⟨i,base,hi,hgo,rfl,rfl⟩:=hI;rw[hgo];by_cases hlt:i<l.length
 ·obtain⟨x,hx⟩:∃x,l[i]? = some x:=⟨l[i],by simp⟩;have hc:=hcs x (List.mem_of_getElem? hx);have hd:=Zhi (.mk k nm s f kz) hx;generalize decide (x.cmp (.mk k nm s f kz)=0)=c at hc hd;obtain⟨k',nm',s',f',kz'⟩:=x;have hj:=Zj hx;simp only[Tm.cells]at hc;cases c
  ·rw[Bool.false_or]at hd;(repeat' first|refine Kv ?_|refine Jb ?_ ?_|refine Jo ?_|refine Jd (hc _) ?_|refine JI ?_|refine Kb ?_|intro hb);all_goals first
    | exact LoopI.go (m-1) (by omega) ⟨i+1,_,by omega,by rw[hd],Ze ⟨rfl,rfl,Zg (Zd (n:=i+1) (by omega)),trivial⟩,rfl⟩
    | (exfalso;simp at hb;done)
    | (exfalso;simp only[Zb,decide_eq_false_iff_not]at hb;omega)
  ·rw[Bool.true_or]at hd;(repeat' first|refine Kv ?_|refine Jb ?_ ?_|refine Jo ?_|refine Jd (hc _) ?_|refine JI ?_|refine Kb ?_|intro hb);all_goals first
    | (exfalso;simp at hb;done)
    | (exfalso;simp only[Zb,decide_eq_false_iff_not]at hb;omega)
    | rw[hd]
 ·have e:i=l.length:=by omega
  subst e;repeat' first|refine Kv ?_|refine Jb ?_ ?_|refine Jo ?_|refine Kb ?_|intro hb
  {exfalso;rw[Zb]at hb;simp at hb};{rw[List.drop_length];rfl}
def Zmw (t:Tm) (l:List Tm):List Tm:=l.filter fun x=> !decide (x.cmp t=0)
theorem ZjZ (t:Tm) (h:l[i]? = some x):Zmw t (l.take (i+1))=Zmw t (l.take i)++if decide (x.cmp t=0)=true then[] else[x]:=by
 have e:l.take (i+1)=l.take i++ [x]:=by rw[List.take_add_one,h];rfl
 rw[e];unfold Zmw;rw[List.filter_append,List.filter_cons,List.filter_nil];cases decide (x.cmp t=0)<;>rfl
theorem Zkm (t:Tm) (l:List Tm):(Zmw t l).length≤l.length:=List.length_filter_le _ _
theorem ZtG (hl:SmL l) (ht:t.Ok∧t.size≤100000) (hlen:l.length≤100000) (b:Bool):∀H,CO 245 [slV b 4 (Za l),.agg t.cells] H (slV true 4 (Za (ZaD l t))) H:=by
 have hh:=Zu9 hl ht (by omega) b;have ha:=ZtN b hl ht.1 ht.2 hlen;have hcs:∀x,x∈l→∀H,CO 59 [.agg x.cells,.agg t.cells] H (.bool (decide (x.cmp t=0))) H:=fun x hx=>ZeR (up2 (hl x hx)) (up2 ht);have hns:=fun (i:Nat) (x:Tm) (h:l[i]? = some x)=>ZjZ t h;have hnl:=Zkm t;have ht8:ZaD l t=if Ze5 l t=true then Zmw t l else Qr l t:=rfl
 rw[ht8];generalize Ze5 l t=C at hh ⊢;generalize Qr l t=AL at ha ⊢;obtain⟨T,hT⟩:∃T,T=t:=⟨_,rfl⟩;rw[show Zmw t l=Zmw T l from by rw[hT]];rw[← hT]at hns hnl;obtain⟨k,nm,s,f,kz⟩:=t;simp only[Tm.cells]at hh ha hcs ⊢;refine Jw tOk fe245.ok (ZJ _ _ _ _ _) ?_ (by simp only[ZH,Xx];simp[frzG,XA]);cases C
 ·rw[if_neg (by decide)];repeat' first|refine Jc (hh _) ?_|refine Jc (ha _) ?_|refine Ka ?_|fail
  all_goals exact ZJ _ _ _ _ _
 ·rw[if_pos rfl];repeat' first|refine Jc (hh _) ?_|refine Ka ?_|fail
  refine Wp.while (fun m tm H => ∃(i : Nat) (base : TM) (out : PV) (lv : List Nat) (nt : Nat), i + m = l.length ∧ ApV true 4 (Za (Zmw T (l.take i))) out lv nt ∧
    tm=ovr base [(5,out),(0,slV b 4 (Za l)),(3,.ptr 0 4 0 0),(6,.int .i64 (i:Int))]∧H=⟨[.cells 4 [[.int .i64 k,.str nm,.int .i64 s,slV f 4 (Za kz)]]],0,lv,nt⟩)
   (fun m tm H hI=>?_) l.length _ _ ⟨0,_,_,_,_,by omega,.nil _ _ rfl,Ze ⟨rfl,rfl,rfl,rfl,trivial⟩,rfl⟩
  obtain⟨i,base,out,lv,nt,hi,hA,rfl,rfl⟩:=hI;by_cases hlt:i<l.length
  ·obtain⟨x,hx⟩:∃x,l[i]? = some x:=⟨l[i],by simp⟩;have hc:=hcs x (List.mem_of_getElem? hx);have hd:=hns i x hx;have hle:=hnl (l.take i);rw[List.length_take]at hle;obtain⟨o1,lv1,nt1,hap1,hA1⟩:=Zel hA x (by omega);rw[← hT]at hc;generalize decide (x.cmp T=0)=c at hc hd;obtain⟨k',nm',s',f',kz'⟩:=x;have hj:=Zj hx;simp only[Tm.cells]at hc hap1;cases c
   ·rw[if_neg (by decide)]at hd;rw[← hd]at hA1;(repeat' first|refine Kw ?_|refine Kx ?_|refine Jb ?_ ?_|refine Jo ?_|refine Jd (hc _) ?_|refine JI ?_|refine Ku ?_|intro hb);all_goals first
     | (exfalso;simp at hb;done)
     | (exfalso;simp only[Zb,decide_eq_false_iff_not]at hb;omega)
     | exact LoopI.go (m-1) (by omega) ⟨i+1,_,o1,lv1,nt1,by omega,hA1,Ze ⟨rfl,rfl,rfl,Zg (Zd (n:=i+1) (by omega)),trivial⟩,rfl⟩
   ·rw[if_pos rfl, List.append_nil]at hd;rw[← hd]at hA;(repeat' first|refine Jl ?_|refine Jb ?_ ?_|refine Jo ?_|refine Jd (hc _) ?_|refine JI ?_|refine Kl ?_|intro hb);all_goals first
     | (exfalso;simp at hb;done)
     | (exfalso;simp only[Zb,decide_eq_false_iff_not]at hb;omega)
     | exact LoopI.go (m-1) (by omega) ⟨i+1,_,out,lv,nt,by omega,hA,Ze ⟨rfl,rfl,rfl,Zg (Zd (n:=i+1) (by omega)),trivial⟩,rfl⟩
  {(have e:i=l.length:=by omega);subst e;rw[List.take_length]at hA;(repeat' first|refine Jl ?_|refine Jb ?_ ?_|refine Jo ?_|refine Kb ?_|intro hb);{exfalso;rw[Zb]at hb;simp at hb};{exact hA.frz3 _ _}}
theorem Znj (hl:SmL l) (ht:t.Ok∧t.size≤100000):SmL (ZaD l t):=fun x hx=>by
 unfold ZaD at hx
 split at hx
 · exact hl x (List.mem_filter.1 hx).1
 · rcases Zgj hx with h | h
   · exact hl x h
   · rw[h];exact ht
theorem Zkg (l:List Tm) (t:Tm):(ZaD l t).length≤l.length+1:=by unfold ZaD;split;{exact Nat.le_succ_of_le (List.length_filter_le _ _)};{exact Zgb l t}
theorem Zfj:∀(b a:List Tm),SmL a→SmL b→SmL (ZaQ a b)
 | [],_,ha,_=>ha
 |t::r,a,ha,hb=>Zfj r (ZaD a t) (Znj ha hb.head) hb.tail
theorem Zdo:∀(b a:List Tm),(ZaQ a b).length≤a.length+b.length
 | [],_=>Nat.le_refl _
 |t::r,a=>by have h1:=Zdo r (ZaD a t);have h2:=Zkg a t;rw[List.length_cons];exact Nat.le_trans h1 (by omega)
theorem ZgV (a:List Tm) (h:b[i]? = some x):ZaQ a (b.take (i+1))=ZaD (ZaQ a (b.take i)) x:=XS h
theorem c233 {a:List Tm} (ha:SmL a) (hb':SmL b) (hl:a.length+b.length≤100000) (ba bb:Bool):∀H,CO 233 [slV ba 4 (Za a),slV bb 4 (Za b)] H (slV (!b.isEmpty) 4 (Za (ZaQ a b))) H:=by
 have hA0:ApV false 4 [] (.sl .full 4 []) [] 0:= .full [] _ _ rfl rfl;obtain⟨out',lv',nt',hap,hA', -⟩:=hA0.app YB (.slV ba 4 (Za a)) (Zr _) (ZR (by simp only[Zb,List.length_nil];omega) (by decide)) (Z0 _);rw[List.nil_append]at hA';obtain⟨tl,rfl⟩:=Zgr hA';refine Jw tOk fe233.ok (ZJ _ _ _ _ _) ?_;repeat' first|refine Kw ?_|refine Jo ?_|fail
 refine Wp.while (fun m tm H => ∃(i : Nat) (base : TM) (V : PV), i + m = b.length ∧ (i = 0 ∧ V = .sl tl 4 (Za a) ∨ 0 < i ∧ V = slV true 4 (Za (ZaQ a (b.take i)))) ∧
   tm=ovr base [(5,V),(1,slV bb 4 (Za b)),(6,.int .i64 (i:Int))]∧H=⟨[],0,lv',nt'⟩)
  (fun m tm H hI=>?_) b.length _ _ ⟨0,_,_,by omega,.inl ⟨rfl,rfl⟩,Ze ⟨rfl,rfl,rfl,trivial⟩,rfl⟩
 obtain⟨i,base,V,hi,hV,rfl,rfl⟩:=hI;by_cases hlt:i<b.length
 ·obtain⟨x,hx⟩:∃x,b[i]? = some x:=⟨b[i],by simp⟩;have hxs:=hb' x (List.mem_of_getElem? hx);have hsn:=ZgV a hx;have h1:=Zdo (b.take i) a;rw[List.length_take]at h1;have hct:∀H,CO 245 [V,.agg x.cells] H (slV true 4 (Za (ZaQ a (b.take (i+1))))) H:=by rw[hsn];rcases hV with⟨h0,rfl⟩|⟨_,rfl⟩;{intro H;have:=ZtG (l:=a) ha hxs (by omega) false H;rw[h0,List.take_zero,show ZaQ a []=a from rfl];obtain⟨k',nm',s',f',kz'⟩:=x;simp only[Tm.cells,Z6]at this ⊢;exact Z2 this (by simp only[ZH,frzG,Vn,ZX];rfl)};{exact ZtG (Zfj _ _ ha fun t ht=>hb' t (List.mem_of_mem_take ht)) hxs (by omega) true}
  obtain⟨k',nm',s',f',kz'⟩:=x;have hj:=Zj hx;simp only[Tm.cells]at hct;repeat' first|refine Jc (hct _) ?_|refine Kx ?_|refine Jb ?_ ?_|refine Jo ?_|intro hb
  all_goals first
   | (exfalso;simp at hb;done)
   | (exfalso;simp only[Zb,decide_eq_false_iff_not]at hb;omega)
   | exact LoopI.go (m-1) (by omega) ⟨i+1,_,_,by omega,.inr ⟨by omega,rfl⟩,Ze ⟨rfl,rfl,Zg (Zd (n:=i+1) (by omega)),trivial⟩,rfl⟩
 ·have e:i=b.length:=by omega
  subst e;repeat' first|refine Jl ?_|refine Jb ?_ ?_|refine Jo ?_|intro hb
  {exfalso;rw[Zb]at hb;simp at hb}
  ·rcases hV with⟨h0,rfl⟩|⟨h0,rfl⟩;{have e0:=List.length_eq_zero_iff.1 h0;subst e0;show _=some (slV false 4 (Za a));rw[Z6];rfl}
   ·rw[List.take_length];cases b with
    | nil=>exact absurd h0 (by simp)
    | cons y r=>exact ZJ _ _ _ _ _
end Go.Vm.Seat
namespace Go.Vm
theorem Q3 {l:List Tm} {i:Nat} {t:Tm} (h:l[i]? = some t):Xl (l.drop i)=if t.valid≠0 then t.valid else Xl (l.drop (i+1)):=by rw[Zw h];rfl
theorem UB (a b:List Tm):Zk (a++b)=Zk a+Zk b:=by
 induction a with
 |nil=>simp[Zk]
 |cons x r ih=>simp only[List.cons_append,Zk,ih];omega
theorem Uu:∀a b:List Tm,Zk (Yb a b)≤Zk a+Zk b
 | [],b=>by rw[Yb,Zk];omega
 |x::a,[]=>by rw[Yb];omega
 |x::a,y::b=>by have h1:=Uu a (y::b);have h2:=Uu (x::a) b;have h3:=Uu a b;rw[Yb];simp only[Zk]at *;split;{rw[Zk];omega};{split;{rw[Zk];omega};{omega}}
termination_by a b=>a.length+b.length
mutual
theorem Zk0:∀t:Tm,Zk t.sumP≤t.size
 | .mk k nm s b kz=>by rw[Tm.sumP,Tm.size];split;{simp only[Zk];omega};{split;{have:=UG kz [];simp only[Zk]at this;omega};{simp only[Zk,Tm.size];omega}}
theorem UG:∀l o:List Tm,Zk (ZS l o)≤Zk o+Zk l
 | [],o=>by rw[ZS];omega
 |t::r,o=>by have h1:=UG r (Yb o t.sumP);have h2:=Uu o t.sumP;have h3:=Zk0 t;rw[ZS,Zk];omega
end
end Go.Vm
namespace Go.Vm.Seat
open Go.Proofs
theorem Zbr (b:Bool) (el:List (List PV)):slV b 4 el= .nils∨∃el',slV b 4 el= .sl .none 4 el':=by
 cases el with
 | nil => cases b with
   | true=>exact .inl (Zi 4)
   | false=>exact .inr ⟨[],ZB 4⟩
 |cons x r=>exact .inr ⟨x::r,Zp _ _ _ _⟩
theorem bs2 (b c:Bool) (l m:List (List PV)):Z1 E0 236 2 [(0,slV b 4 l),(1,slV c 4 m)]=some (1,[[slV b 4 l],[slV c 4 m]]):=by rcases Zbr b l with e|⟨el,e⟩<;>rcases Zbr c m with e'|⟨el',e'⟩<;>rw[e,e']<;>rfl
theorem ZvT (b:Bool) (l:List (List PV)):Z1 E0 236 2 [(0,slV b 4 l),(1,.nils)]=some (1,[[slV b 4 l],[.nils]]):=by have:=bs2 b true l [];rwa [show slV true 4 ([]:List (List PV))= .nils from Zi 4]at this
theorem ZuW {l:List Tm} (hl:SmL l) (hlen:l.length≤1000000) (b:Bool):∀H,CO 218 [slV b 4 (Za l),.nils] H (.int .i64 (if 200<l.length then 3 else Xl l)) H:=by
 have hcat:=Ztu (a:=l) (b:=[]) (by simpa using hlen) b true;rw[List.append_nil]at hcat;have hcat:∀H,CO 226 [.sl .full 1 [[slV b 4 (Za l)],[.nils]]] H (slV true 4 (Za l)) H:=fun H=>by have:=hcat H;rw[show slV true 4 (Za [])= .nils from Zi 4]at this;exact Z2 this rfl
 have hV:∀t,t∈l→∀H,CO 65 [.agg t.cells] H (.int .i64 t.valid) H:=fun t ht=>c65 (hl t ht).1 (by have:=(hl t ht).2;omega);refine Jw tOk fe218.ok rfl ?_;by_cases h2:200<l.length
 ·rw[if_pos h2];repeat' first|refine Jl ?_|refine Jb ?_ ?_|refine Jo ?_|intro hb
  all_goals first
   | rfl
   | (exfalso;rw[Zb]at hb;simp only[decide_eq_false_iff_not]at hb;omega)
 ·rw[if_neg h2];repeat' first|refine Jl ?_|refine Jb ?_ ?_|refine Jo ?_|intro hb
  {exfalso;rw[Zb]at hb;simp only[decide_eq_true_eq]at hb;omega};apply qBs;{rfl};{rfl};{rfl};{exact ZvT b (Za l)};{exact IsLL.n};{simp only[Yo,Vn,ZX];rfl};repeat' first|refine Jc (hcat _) ?_|refine KN ?_|fail
  refine Wp.while (fun m tm H => ∃(i : Nat) (base : TM), i + m = l.length ∧ Xl l = Xl (l.drop i) ∧
    tm=ovr base [(14,slV true 4 (Za l)),(15,.int .i64 (l.length:Int)),(16,.int .i64 (i:Int))]∧H=hNil)
   (fun m tm H hI=>Wp.drop ?_) l.length _ _ ⟨0,_,by omega,by rw[List.drop_zero],Ze ⟨rfl,Zg (by rw[Zb]),rfl,trivial⟩,rfl⟩
  obtain⟨i,base,hi,hgo,rfl,rfl⟩:=hI;rw[hgo];clear hb;by_cases hlt:i<l.length
  ·obtain⟨t,ht⟩:∃t,l[i]? = some t:=⟨l[i],by simp⟩;have hc:=hV t (List.mem_of_getElem? ht);have hd:=Q3 ht;generalize t.valid=v at hc hd;obtain⟨k',nm',s',f',kz'⟩:=t;have hj:=Zj ht;simp only[Tm.cells]at hc;by_cases hv:v=0
   ·subst hv;rw[if_neg (by simp)]at hd;(repeat' first|refine Jc (hc _) ?_|refine Jx ?_|refine Jt ?_|refine Jz ?_ ?_|refine Jo ?_|intro hb);all_goals first
     | (exfalso;simp at hb<;>omega)
     | exact DropQ.go [(14, slV true 4 (Za l)), (15, .int .i64 (l.length : Int)), (16, .int .i64 ((i + 1 : Nat) : Int))] ⟨rfl, rfl, Zg (Zd (n := i + 1) (by omega)), trivial⟩
         (by simp[Zl,under]) rfl rfl (LoopI.go (m-1) (by omega) ⟨i+1,_,by omega,by rw[hd],rfl,rfl⟩)
   ·rw[if_pos hv]at hd;(repeat' first|refine Jc (hc _) ?_|refine Jx ?_|refine Jb ?_ ?_|refine Jz ?_ ?_|refine Jo ?_|intro hb);all_goals first
     | (exfalso;simp at hb<;>omega)
     | (exfalso;simp_all;done)
     | rw[hd]
  {(have e:i=l.length:=by omega);subst e;(repeat' first|refine Jz ?_ ?_|refine Jo ?_|intro hb);{exfalso;simp at hb};{rw[List.drop_length];rfl}}
