/-
  Sums: the error of a list, the sum of a list (the program's text).
-/
import Derived.Test.YtnghnjdabbjcnaaGreatDoorOe
set_option maxHeartbeats 0
set_option maxRecDepth 100000
namespace Go.Vm
variable {l:List Pw} {t:Tm} {B n:Int}
theorem ZcP (n:Nat):arB Uk n= !decide (n<2):=by simp[arB,Uk,VM,Uz]
theorem ZcS (n:Nat):arB VM n=decide (n=1):=by simp[arB,Uk,VM,Uz]
theorem ZcL (n:Nat):arB Uz n=decide (n=0):=by simp[arB,Uk,VM,Uz]
theorem WA {k:Int} {nm:Bs} (h:Zbh k nm=true):k=3∧(nm=Uk∨nm=VM∨nm=Uz):=by simpa[Zbh] using h
theorem ZiA {l:List Tm} {i:Nat} (h:l[i]? = some t):ZeO (l.drop i)=(t.ari&&ZeO (l.drop (i+1))):=by rw[ZB h];rfl
theorem Zcp:∀l:List Tm,ZeO l=true↔∀x,x∈l→x.ari=true
 | []=>by simp[ZeO]
 |t::r=>by simp[ZeO,Zcp r]
mutual
def Tm.colFl:Tm→Bool→Bool
 | .mk k nm _ _ kz,b=>if Zbh k nm=true then QL kz b else true
def QL:List Tm→Bool→Bool
 | [],b=>b
 |t::r,b=>QL r (t.colFl b)
end
theorem ZaL:∀{l:List Tm} {i:Nat} {t:Tm} (b:Bool),l[i]? = some t→QL (l.take (i+1)) b=t.colFl (QL (l.take i) b)
 | [],i,t,b,h=>by simp at h
 |x::r,0,t,b,h=>by
  have e:x=t:=by simpa using h
  subst e;simp only[List.take_succ_cons,List.take_zero,QL]
 |x::r,i+1,t,b,h=>by simp only[List.take_succ_cons,QL];exact ZaL _ (by simpa using h)
theorem ZbB:∀{l:List Tm} {i:Nat} {t:Tm} (n:Int) (o:List Pw),l[i]? = some t→Qe (l.take (i+1)) n o=t.colR n (Qe (l.take i) n o)
 | [],i,t,n,o,h=>by simp at h
 |x::r,0,t,n,o,h=>by
  have e:x=t:=by simpa using h
  subst e;simp only[List.take_succ_cons,List.take_zero,Qe]
 |x::r,i+1,t,n,o,h=>by simp only[List.take_succ_cons,Qe];exact ZbB n _ (by simpa using h)
theorem sgn {p:Prop} [Decidable p] (h: -1≤n∧n≤1): -1≤(if p then -n else n)∧(if p then -n else n)≤1:=by split<;>omega
mutual
theorem ZnQ:∀(t:Tm) (n:Int) (l l':List Pw) (B:Int),0≤B→(-1≤n∧n≤1)→t.Ok→t.size≤100000→PwB B l→t.col n l=some l'→PwB (B+t.size) l'
 | .mk k nm s b kz,n,l,l',B,hB,hn,ht,hs,hl,h=>by rw[Tm.col]at h;rw[Tm.size]at hs ⊢;split at h;{split at h;{exact(ZkN kz _ l l' B hB (sgn hn) (fun x hx=>ht.kid hx) (by omega) hl h).mono (by omega)};{exact absurd h (by simp)}};{cases h;exact(hl.ins (c:=1) ⟨ht,by rw[Tm.size];exact hs⟩ hn hB (by omega)).mono (by omega)}
theorem ZkN:∀(ts:List Tm) (n:Int) (l l':List Pw) (B:Int),0≤B→(-1≤n∧n≤1)→(∀x,x∈ts→x.Ok)→Zm ts≤100000→PwB B l→colL ts n l=some l'→PwB (B+Zm ts) l'
 | [],n,l,l',B,_,_,_,_,hl,h=>by rw[colL]at h;cases h;rw[Zm];exact hl.mono (by omega)
 |t::r,n,l,l',B,hB,hn,ht,hs,hl,h=>by
  rw[colL]at h;rw[Zm]at hs ⊢;cases e:t.col n l with
  | none=>rw[e]at h;exact absurd h (by simp)
  | some m=>rw[e]at h;have h1:=ZnQ t n l m B hB hn (ht t List.mem_cons_self) (by omega) hl e;exact(ZkN r n m l' (B+t.size) (by omega) hn (fun x hx=>ht x (List.mem_cons_of_mem _ hx)) (by omega) h1 h).mono (by omega)
end
theorem ZeQ {ts:List Tm} (ha:ZeO ts=true) (hA:Uf l) (hn:n=1∨n= -1) (hB:0≤B) (ht:∀x,x∈ts→x.Ok) (hs:Zm ts≤100000) (hl:PwB B l):Uf (Qe ts n l)∧PwB (B+Zm ts) (Qe ts n l)∧(Qe ts n l).length≤l.length+Zm ts:=by obtain⟨h1,h2⟩:=(ZaH ts n l hA (by omega)).1 ha;exact⟨h2,ZkN ts n l _ B hB (by omega) ht hs hl h1,Zb8 ts n l _ h1⟩
theorem ZhA (ha:t.ari=true) (hA:Uf l) (hn:n=1∨n= -1) (hB:0≤B) (ht:t.Ok) (hs:t.size≤100000) (hl:PwB B l):Uf (t.colR n l)∧PwB (B+t.size) (t.colR n l)∧(t.colR n l).length≤l.length+t.size:=by obtain⟨h1,h2⟩:=(Zaf t n l hA (by omega)).1 ha;exact⟨h2,ZnQ t n l _ B hB (by omega) ht hs hl h1,ZeI t n l _ h1⟩
end Go.Vm
namespace Go.Vm.Seat
variable {a key t x:Tm} {b l:List Tm} {i:Nat}
open Go.Proofs
theorem Zwa (ht:t.Ok):t.size≤100000→∀H,CO 246 [.agg t.cells] H (.bool t.ari) H:=by
 induction ht with
 | @mk k nm s b kz hk hs hn hl hok ih=>
 intro hsz;simp only[Tm.size]at hsz;have hsp:=ZtZ (.mk k nm s b kz);have hkl:=Yz kz;rw[Tm.ari];simp only[Tm.sym,Tm.cells]at hsp ⊢;refine Jw tOk fe246.ok rfl ?_;by_cases he:Zbh k nm=true
 ·rw[if_pos he];rw[he]at hsp;have hlen:=Zb kz;have key:∀w:Bs,nm=w→arB nm kz.length=arB w kz.length:=fun w h=>by rw[h]
  obtain⟨rfl,hnm⟩:=WA he;by_cases har:arB nm kz.length=true
  ·rw[if_pos har];rcases hnm with rfl|rfl|rfl;all_goals
    simp only[ZcP,ZcS,ZcL,Bool.not_eq_true',decide_eq_false_iff_not,decide_eq_true_eq]at har
    simp only[Uk,VM,Uz]at hsp ⊢
    repeat' first|refine Jk ?_|refine Jc (hsp _) ?_|refine Ky ?_|refine Jb ?_ ?_|refine Jo ?_|intro hb
    all_goals try first
     | (exfalso;simp at hb<;>omega)
     | (exfalso;rw[hlen]at hb;revert hb;simp only[bne_iff_ne,ne_eq];omega)
    refine Wp.while (fun m tm H => ∃(i : Nat) (base : TM), i + m = kz.length ∧ ZeO kz = ZeO (kz.drop i) ∧
      tm=ovr base [(1,.ptr 0 4 0 0),(3,.int .i64 (kz.length:Int)),(4,.int .i64 (i:Int))]∧H=⟨[.cells 4 [[.int .i64 3,.str _,.int .i64 s,slV b 4 (Za kz)]]],0,[],0⟩)
     (fun m tm H hI=>?_) kz.length _ _ ⟨0,_,by omega,by rw[List.drop_zero],Zd ⟨rfl,Zg (by rw[Zb]),rfl,trivial⟩,rfl⟩
    obtain⟨i,base,hi,hgo,rfl,rfl⟩:=hI
    rw[hgo]
    by_cases hlt:i<kz.length
    · obtain⟨t', ht'⟩ : ∃t', kz[i]? = some t' := ⟨kz[i], by simp⟩
      have hm:t'∈kz:=List.mem_of_getElem? ht'
      have hle:=Ya hm
      have hc:=ih t' hm (by omega)
      have hd:=ZiA ht'
      generalize t'.ari=A at hc hd
      obtain⟨k',nm',s',b',kz'⟩:=t'
      have hj:=Zk ht'
      simp only[Tm.cells]at hc
      clear ih
      have hlx:=Zv (i:Int) (kz.length:Int)
      rw[decide_eq_true (by omega)]at hlx
      cases A
      · rw[Bool.false_and]at hd
        repeat' first|refine Jc (hc _) ?_|refine KH ?_|fail
        all_goals first
         | rw[hd]
         | (exfalso;simp at hb;done)
      · rw[Bool.true_and]at hd
        repeat' first|refine Jc (hc _) ?_|refine KH ?_|fail
        all_goals first
         | exact LoopI.go (m-1) (by omega) ⟨i+1,_,by omega,by rw[hd],Zd ⟨rfl,rfl,Zg (Ze (n:=i+1) (by omega)),trivial⟩,rfl⟩
         | (exfalso;simp at hb;done)
    · have e : i = kz.length := by omega
      subst e
      clear ih
      have hlx:=Zv (kz.length:Int) (kz.length:Int)
      rw[decide_eq_false (by omega)]at hlx
      repeat' first|refine Kd ?_|fail
      all_goals first
       | (rw[List.drop_length];rfl)
       | (exfalso;simp at hb;done)
  ·rw[if_neg har];clear ih;rcases hnm with rfl|rfl|rfl;all_goals
    simp only[ZcP,ZcS,ZcL,Bool.not_eq_true',decide_eq_false_iff_not,decide_eq_true_eq]at har
    simp only[Uk,VM,Uz]at hsp ⊢
    repeat' first|refine Jk ?_|refine Jc (hsp _) ?_|refine Ky ?_|refine Jb ?_ ?_|refine Jo ?_|intro hb
    all_goals first
     | rfl
     | (exfalso;simp at hb<;>omega)
     | (exfalso;rw[hlen]at hb;revert hb;simp only[bne_eq_false_iff_eq];omega)
 ·rw[if_neg he];rw[Bool.eq_false_iff.2 he]at hsp;clear ih;repeat' first|refine Jc (hsp _) ?_|refine Ka ?_|fail
  all_goals rfl
theorem Zha {es:Nat} {L:List (List PV)} {out:PV} {lv:List Nat} {nt:Nat} (h:ApV false es L out lv nt):∃tl,out= .sl tl es L:=by
 cases h with
 |nil _ _ h=>cases h
 |full=>exact⟨_,rfl⟩
 |tok=>exact⟨_,rfl⟩
theorem c212 (nm:Bs) (hlen:l.length≤10000) (b:Bool):∀H,CO 212 [.str nm,slV b 4 (Za l)] H (.agg (Tm.mk 3 nm 0 false l).cells) H:=by
 have hA0:ApV false 4 [] (.sl .full 4 []) [] 0:= .full [] _ _ rfl rfl;obtain⟨out',lv',nt',hap,hA', -⟩:=hA0.app YD (.slV b 4 (Za l)) (Zs _) (ZQ (by simp only[Zb,List.length_nil];omega) (by decide)) (Yd _);rw[List.nil_append]at hA';have hco:=ZaQ hA' 3 nm 0;have hfr:=fun m H=>Zi6 hA' m H 3 nm 0;simp only[Tm.cells];obtain⟨tl,rfl⟩:=Zha hA';refine Jw tOk fe212.ok (Yb _ _ _ _ _ _ _) ?_;repeat' first|refine Kv ?_|refine Jo ?_|fail
 exact hfr _ _
theorem Zo3 (nm:Bs) (x:Tm):∀H,CO 212 [.str nm,.sl .full 4 [x.cells]] H (.agg (Tm.mk 3 nm 0 true [x]).cells) H:=fun H=>by
 have:=c212 nm (l:=[x]) (by simp) true H
 simp only[Tm.cells,Za,Zr]at this ⊢
 exact ZX this rfl
theorem Zrv (h:x.Ok∧x.size≤100000):(Tm.mk 3 pkN 0 true [x]).Ok∧(Tm.mk 3 pkN 0 true [x]).size≤200000:=⟨cls_ok.app (by decide) (by simp) rfl (fun y hy=>by
 rw[List.mem_singleton]at hy
 rw[hy]
 exact h.1),by
 simp only[Tm.size,Zm]
 have:=h.2
 omega⟩
theorem ZiE (ha:a.okA=true) (hk:key.okA=true) (ha':a.Ok∧a.size≤100000) (hk':key.Ok∧key.size≤100000) (b:Bool):∀H,CO 213 [.agg (Tm.mk 3 YM 0 b [a,key]).cells] H (.tup [.agg (Xy (.mk 3 YM 0 b [a,key])).cells,.bool (isA a V5&&decide ((a.kd 1).cmp (.mk 3 pkN 0 true [key])=0))]) H:=by
 have hi:=isR a V5;have hd:Xy (.mk 3 YM 0 b [a,key])=if(isA a V5&&decide ((a.kd 1).cmp (.mk 3 pkN 0 true [key])=0))=true then a.kd 0 else .mk 3 YM 0 b [a,key]:=by rw[← Zhb (t:= .mk 3 YM 0 b [a,key]) (by simp only[Tm.okA,if_pos,ZhS,ha,hk];rfl)];unfold Zc7;simp[ZrA,Tm.nm,Tm.kd,UA,Uc,VZ,YM,YP,Y3,pkN]
 rw[hd];cases hp:isA a V5 with
 |false=>
  rw[hp]at hi;rw[if_neg (by simp),Bool.false_and];obtain⟨k1,n1,s1,f1,l1⟩:=a;obtain⟨k2,n2,s2,f2,l2⟩:=key;simp only[Tm.cells,VS,YM]at hi ⊢;refine Jw tOk fe213.ok rfl ?_;repeat' first|refine Jk ?_|refine Kt ?_|refine Jd (hi _) ?_|refine KC ?_|fail
  all_goals first
   | exact Yl _ _ _ _ _ _ _ _
   | rfl
   | (exfalso;simp at hb;done)
 |true=>
  rw[hp]at hi;obtain⟨b1,x,y,rfl⟩:=Xg ha hp rfl;have hs:=ZhF (up2 (Ub ha' (x:=y) (by simp))) (Zrv hk');have hj:=Zo3 pkN key;show ∀H,CO 213 _ H (.tup [.agg (Tm.cells (if(true&&decide (y.cmp (.mk 3 pkN 0 true [key])=0))=true then x else _)),.bool (true&&decide (y.cmp (.mk 3 pkN 0 true [key])=0))]) H;rw[Bool.true_and];generalize decide (y.cmp (.mk 3 pkN 0 true [key])=0)=c at hs ⊢;obtain⟨k1,n1,s1,f1,l1⟩:=x;obtain⟨k2,n2,s2,f2,l2⟩:=y;obtain⟨k3,n3,s3,f3,l3⟩:=key;cases c
  ·rw[if_neg (by decide)];simp only[Tm.cells,VS,ZbH,YM,V5,pkN]at hi hj hs ⊢;refine Jw tOk fe213.ok rfl ?_;(repeat' first|refine Jk ?_|refine Kt ?_|(apply dCl;rfl;rfl;rfl;rfl;rfl;first|exact hi _|exact hj _|exact hs _)|refine JB ?_|refine KC ?_|fail);all_goals first
    | exact Yl _ _ _ _ _ _ _ _
    | rfl
    | (exfalso;simp at hb;done)
  ·rw[if_pos rfl];simp only[Tm.cells,VS,ZbH,YM,V5,pkN]at hi hj hs ⊢;refine Jw tOk fe213.ok (Yl _ _ _ _ _ _ _ _) ?_;(repeat' first|refine Jk ?_|refine Kt ?_|(apply dCl;rfl;rfl;rfl;rfl;rfl;first|exact hi _|exact hj _|exact hs _)|refine JB ?_|refine KC ?_|fail);all_goals first
    | exact Yl _ _ _ _ _ _ _ _
    | rfl
    | (exfalso;simp at hb;done)
theorem Zji (ha:a.okA=true) (hk:key.okA=true) (ha':a.Ok∧a.size≤100000) (hk':key.Ok∧key.size≤100000) (b:Bool):∀H,CO 213 [.agg (Tm.mk 3 YP 0 b [a,key]).cells] H (.tup [.agg (Xy (.mk 3 YP 0 b [a,key])).cells,.bool (isA a Xs&&decide (key.cmp (.mk 3 pkN 0 true [a.kd 1])=0))]) H:=by
 have hi:=isR a Xs;have hd:Xy (.mk 3 YP 0 b [a,key])=if(isA a Xs&&decide (key.cmp (.mk 3 pkN 0 true [a.kd 1])=0))=true then a.kd 0 else .mk 3 YP 0 b [a,key]:=by rw[← Zhb (t:= .mk 3 YP 0 b [a,key]) (by simp only[Tm.okA,if_pos,ZhS,ha,hk];rfl)];unfold Zc7;simp[ZrA,Tm.nm,Tm.kd,UA,Uc,VZ,YM,YP,Y3,pkN]
 rw[hd];cases hp:isA a Xs with
 |false=>
  rw[hp]at hi;rw[if_neg (by simp),Bool.false_and];obtain⟨k1,n1,s1,f1,l1⟩:=a;obtain⟨k2,n2,s2,f2,l2⟩:=key;simp only[Tm.cells,VS,YP]at hi ⊢;refine Jw tOk fe213.ok rfl ?_;repeat' first|refine Jk ?_|refine Kt ?_|refine Jd (hi _) ?_|refine KC ?_|fail
  all_goals first
   | exact Yl _ _ _ _ _ _ _ _
   | rfl
   | (exfalso;simp at hb;done)
 |true=>
  rw[hp]at hi;obtain⟨b1,x,y,rfl⟩:=Xg ha hp rfl;have hs:=ZhF (up2 hk') (Zrv (Ub ha' (x:=y) (by simp)));have hj:=Zo3 pkN y;show ∀H,CO 213 _ H (.tup [.agg (Tm.cells (if(true&&decide (key.cmp (.mk 3 pkN 0 true [y])=0))=true then x else _)),.bool (true&&decide (key.cmp (.mk 3 pkN 0 true [y])=0))]) H;rw[Bool.true_and];generalize decide (key.cmp (.mk 3 pkN 0 true [y])=0)=c at hs ⊢;obtain⟨k1,n1,s1,f1,l1⟩:=x;obtain⟨k2,n2,s2,f2,l2⟩:=y;obtain⟨k3,n3,s3,f3,l3⟩:=key;cases c
  ·rw[if_neg (by decide)];simp only[Tm.cells,VS,ZbH,YP,Xs,pkN]at hi hj hs ⊢;refine Jw tOk fe213.ok rfl ?_;(repeat' first|refine Jk ?_|refine Kt ?_|(apply dCl;rfl;rfl;rfl;rfl;rfl;first|exact hi _|exact hj _|exact hs _)|refine JB ?_|refine KC ?_|fail);all_goals first
    | exact Yl _ _ _ _ _ _ _ _
    | rfl
    | (exfalso;simp at hb;done)
  ·rw[if_pos rfl];simp only[Tm.cells,VS,ZbH,YP,Xs,pkN]at hi hj hs ⊢;refine Jw tOk fe213.ok (Yl _ _ _ _ _ _ _ _) ?_;(repeat' first|refine Jk ?_|refine Kt ?_|(apply dCl;rfl;rfl;rfl;rfl;rfl;first|exact hi _|exact hj _|exact hs _)|refine JB ?_|refine KC ?_|fail);all_goals first
    | exact Yl _ _ _ _ _ _ _ _
    | rfl
    | (exfalso;simp at hb;done)
theorem c213 {nm:Bs} {ks:List Tm} (h0:(YI nm).kind=3) (h1:(YI nm).least≤ks.length) (h2:(ks.length:Int)≤(YI nm).most) (hA:∀x,x∈ks→x.okA=true) (hS:SmL ks) (b:Bool):∃f,∀H,CO 213 [.agg (Tm.mk 3 nm 0 b ks).cells] H (.tup [.agg (Xy (.mk 3 nm 0 b ks)).cells,.bool f]) H:=by rcases Zcj h0 with⟨hn,e1,e2⟩|⟨hn,e1,e2⟩;{rw[e1]at h1;rw[e2]at h2;obtain⟨a,rfl⟩:=Zuk (l:=ks) (by omega);have ha:=hA a (by simp);rcases hn with rfl|rfl|rfl;{exact⟨_,Zlj ha b⟩};{exact⟨_,Zlt ha b⟩};{exact⟨_,Zjd ha b⟩}};{rw[e1]at h1;rw[e2]at h2;obtain⟨a,key,rfl⟩:=ZrP (l:=ks) (by omega);have ha:=hA a (by simp);have hk:=hA key (by simp);have ha':=hS a (by simp);have hk':=hS key (by simp);rcases hn with rfl|rfl|rfl;{exact⟨_,ZlT ha ha' hk' b⟩};{exact⟨_,ZiE ha hk ha' hk' b⟩};{exact⟨_,Zji ha hk ha' hk' b⟩}}
theorem Zki (t:Tm) (h:l[i]? = some x):Zft (l.drop i) t=(decide (x.cmp t=0)||Zft (l.drop (i+1)) t):=by rw[ZB h];rfl
theorem ZwE (hl:SmL l) (ht:t.Ok∧t.size≤100000) (hlen:l.length≤1000000) (b:Bool):∀H,CO 258 [slV b 4 (Za l),.agg t.cells] H (.bool (Zft l t)) H:=by
 have hcs:∀x,x∈l→∀H,CO 59 [.agg x.cells,.agg t.cells] H (.bool (decide (x.cmp t=0))) H:=fun x hx=>ZhF (up2 (hl x hx)) (up2 ht);obtain⟨k,nm,s,f,kz⟩:=t;simp only[Tm.cells]at hcs ⊢;refine Jw tOk fe258.ok rfl ?_ (by rw[show ZG [slV b 4 (Za l),.agg [.int .i64 k,.str nm,.int .i64 s,slV f 4 (Za kz)]]=some [slV b 4 (Za l),.agg [.int .i64 k,.str nm,.int .i64 s,slV f 4 (Za kz)]] from by simp only[ZG,Xv];simp only[frzG,XK]]);repeat' first|refine Ka ?_|fail
 refine Wp.while (fun m tm H => ∃(i : Nat) (base : TM), i + m = l.length ∧ Zft l (.mk k nm s f kz) = Zft (l.drop i) (.mk k nm s f kz) ∧
   tm=ovr base [(0,slV b 4 (Za l)),(3,.ptr 0 4 0 0),(5,.int .i64 (i:Int))]∧H=⟨[.cells 4 [[.int .i64 k,.str nm,.int .i64 s,slV f 4 (Za kz)]]],0,[],0⟩)
  (fun m tm H hI=>?_) l.length _ _ ⟨0,_,by omega,by rw[List.drop_zero],Zd ⟨rfl,rfl,rfl,trivial⟩,rfl⟩
 obtain⟨i,base,hi,hgo,rfl,rfl⟩:=hI;rw[hgo];by_cases hlt:i<l.length
 ·obtain⟨x,hx⟩:∃x,l[i]? = some x:=⟨l[i],by simp⟩;have hc:=hcs x (List.mem_of_getElem? hx);have hd:=Zki (.mk k nm s f kz) hx;generalize decide (x.cmp (.mk k nm s f kz)=0)=c at hc hd;obtain⟨k',nm',s',f',kz'⟩:=x;have hj:=Zk hx;simp only[Tm.cells]at hc;cases c
  ·rw[Bool.false_or]at hd;(repeat' first|refine Ky ?_|refine Jb ?_ ?_|refine Jo ?_|refine Jd (hc _) ?_|refine JI ?_|refine Kb ?_|intro hb);all_goals first
    | exact LoopI.go (m-1) (by omega) ⟨i+1,_,by omega,by rw[hd],Zd ⟨rfl,rfl,Zg (Ze (n:=i+1) (by omega)),trivial⟩,rfl⟩
    | (exfalso;simp at hb;done)
    | (exfalso;simp only[Zb,decide_eq_false_iff_not]at hb;omega)
  ·rw[Bool.true_or]at hd;(repeat' first|refine Ky ?_|refine Jb ?_ ?_|refine Jo ?_|refine Jd (hc _) ?_|refine JI ?_|refine Kb ?_|intro hb);all_goals first
    | (exfalso;simp at hb;done)
    | (exfalso;simp only[Zb,decide_eq_false_iff_not]at hb;omega)
    | rw[hd]
 ·have e:i=l.length:=by omega
  subst e;repeat' first|refine Ky ?_|refine Jb ?_ ?_|refine Jo ?_|refine Kb ?_|intro hb
  {exfalso;rw[Zb]at hb;simp at hb};{rw[List.drop_length];rfl}
def Zno (t:Tm) (l:List Tm):List Tm:=l.filter fun x=> !decide (x.cmp t=0)
theorem Zkk (t:Tm) (h:l[i]? = some x):Zno t (l.take (i+1))=Zno t (l.take i)++if decide (x.cmp t=0)=true then[] else[x]:=by
 have e:l.take (i+1)=l.take i++ [x]:=by rw[List.take_add_one,h];rfl
 rw[e];unfold Zno;rw[List.filter_append,List.filter_cons,List.filter_nil];cases decide (x.cmp t=0)<;>rfl
theorem ZlK (t:Tm) (l:List Tm):(Zno t l).length≤l.length:=List.length_filter_le _ _
theorem ZuL (hl:SmL l) (ht:t.Ok∧t.size≤100000) (hlen:l.length≤100000) (b:Bool):∀H,CO 245 [slV b 4 (Za l),.agg t.cells] H (slV true 4 (Za (Za4 l t))) H:=by
 have hh:=ZwE hl ht (by omega) b;have ha:=Zus b hl ht.1 ht.2 hlen;have hcs:∀x,x∈l→∀H,CO 59 [.agg x.cells,.agg t.cells] H (.bool (decide (x.cmp t=0))) H:=fun x hx=>ZhF (up2 (hl x hx)) (up2 ht);have hns:=fun (i:Nat) (x:Tm) (h:l[i]? = some x)=>Zkk t h;have hnl:=ZlK t;have ht8:Za4 l t=if Zft l t=true then Zno t l else QI l t:=rfl
 rw[ht8];generalize Zft l t=C at hh ⊢;generalize QI l t=AL at ha ⊢;obtain⟨T,hT⟩:∃T,T=t:=⟨_,rfl⟩;rw[show Zno t l=Zno T l from by rw[hT]];rw[← hT]at hns hnl;obtain⟨k,nm,s,f,kz⟩:=t;simp only[Tm.cells]at hh ha hcs ⊢;refine Jw tOk fe245.ok (ZJ _ _ _ _ _) ?_ (by simp only[ZG,Xv];simp[frzG,XK]);cases C
 ·rw[if_neg (by decide)];repeat' first|refine Jc (hh _) ?_|refine Jc (ha _) ?_|refine Ka ?_|fail
  all_goals exact ZJ _ _ _ _ _
 ·rw[if_pos rfl];repeat' first|refine Jc (hh _) ?_|refine Ka ?_|fail
  refine Wp.while (fun m tm H => ∃(i : Nat) (base : TM) (out : PV) (lv : List Nat) (nt : Nat), i + m = l.length ∧ ApV true 4 (Za (Zno T (l.take i))) out lv nt ∧
    tm=ovr base [(5,out),(0,slV b 4 (Za l)),(3,.ptr 0 4 0 0),(6,.int .i64 (i:Int))]∧H=⟨[.cells 4 [[.int .i64 k,.str nm,.int .i64 s,slV f 4 (Za kz)]]],0,lv,nt⟩)
   (fun m tm H hI=>?_) l.length _ _ ⟨0,_,_,_,_,by omega,.nil _ _ rfl,Zd ⟨rfl,rfl,rfl,rfl,trivial⟩,rfl⟩
  obtain⟨i,base,out,lv,nt,hi,hA,rfl,rfl⟩:=hI;by_cases hlt:i<l.length
  ·obtain⟨x,hx⟩:∃x,l[i]? = some x:=⟨l[i],by simp⟩;have hc:=hcs x (List.mem_of_getElem? hx);have hd:=hns i x hx;have hle:=hnl (l.take i);rw[List.length_take]at hle;obtain⟨o1,lv1,nt1,hap1,hA1⟩:=ZeB hA x (by omega);rw[← hT]at hc;generalize decide (x.cmp T=0)=c at hc hd;obtain⟨k',nm',s',f',kz'⟩:=x;have hj:=Zk hx;simp only[Tm.cells]at hc hap1;cases c
   ·rw[if_neg (by decide)]at hd;rw[← hd]at hA1;(repeat' first|refine Kv ?_|refine Ku ?_|refine Jb ?_ ?_|refine Jo ?_|refine Jd (hc _) ?_|refine JI ?_|refine KV ?_|intro hb);all_goals first
     | (exfalso;simp at hb;done)
     | (exfalso;simp only[Zb,decide_eq_false_iff_not]at hb;omega)
     | exact LoopI.go (m-1) (by omega) ⟨i+1,_,o1,lv1,nt1,by omega,hA1,Zd ⟨rfl,rfl,rfl,Zg (Ze (n:=i+1) (by omega)),trivial⟩,rfl⟩
   ·rw[if_pos rfl, List.append_nil]at hd;rw[← hd]at hA;(repeat' first|refine Jl ?_|refine Jb ?_ ?_|refine Jo ?_|refine Jd (hc _) ?_|refine JI ?_|refine Kr ?_|intro hb);all_goals first
     | (exfalso;simp at hb;done)
     | (exfalso;simp only[Zb,decide_eq_false_iff_not]at hb;omega)
     | exact LoopI.go (m-1) (by omega) ⟨i+1,_,out,lv,nt,by omega,hA,Zd ⟨rfl,rfl,rfl,Zg (Ze (n:=i+1) (by omega)),trivial⟩,rfl⟩
  {(have e:i=l.length:=by omega);subst e;rw[List.take_length]at hA;(repeat' first|refine Jl ?_|refine Jb ?_ ?_|refine Jo ?_|refine Kb ?_|intro hb);{exfalso;rw[Zb]at hb;simp at hb};{exact hA.frz3 _ _}}
theorem Zpl (hl:SmL l) (ht:t.Ok∧t.size≤100000):SmL (Za4 l t):=fun x hx=>by
 unfold Za4 at hx
 split at hx
 · exact hl x (List.mem_filter.1 hx).1
 · rcases ZgM hx with h | h
   · exact hl x h
   · rw[h];exact ht
theorem Zl3 (l:List Tm) (t:Tm):(Za4 l t).length≤l.length+1:=by unfold Za4;split;{exact Nat.le_succ_of_le (List.length_filter_le _ _)};{exact Zgp l t}
theorem ZfO:∀(b a:List Tm),SmL a→SmL b→SmL (ZaK a b)
 | [],_,ha,_=>ha
 |t::r,a,ha,hb=>ZfO r (Za4 a t) (Zpl ha hb.head) hb.tail
theorem ZdJ:∀(b a:List Tm),(ZaK a b).length≤a.length+b.length
 | [],_=>Nat.le_refl _
 |t::r,a=>by have h1:=ZdJ r (Za4 a t);have h2:=Zl3 a t;rw[List.length_cons];exact Nat.le_trans h1 (by omega)
theorem Zhz (a:List Tm) (h:b[i]? = some x):ZaK a (b.take (i+1))=Za4 (ZaK a (b.take i)) x:=XW h
theorem c233 {a:List Tm} (ha:SmL a) (hb':SmL b) (hl:a.length+b.length≤100000) (ba bb:Bool):∀H,CO 233 [slV ba 4 (Za a),slV bb 4 (Za b)] H (slV (!b.isEmpty) 4 (Za (ZaK a b))) H:=by
 have hA0:ApV false 4 [] (.sl .full 4 []) [] 0:= .full [] _ _ rfl rfl;obtain⟨out',lv',nt',hap,hA', -⟩:=hA0.app YD (.slV ba 4 (Za a)) (Zs _) (ZQ (by simp only[Zb,List.length_nil];omega) (by decide)) (Yd _);rw[List.nil_append]at hA';obtain⟨tl,rfl⟩:=Zha hA';refine Jw tOk fe233.ok (ZJ _ _ _ _ _) ?_;repeat' first|refine Kv ?_|refine Jo ?_|fail
 refine Wp.while (fun m tm H => ∃(i : Nat) (base : TM) (V : PV), i + m = b.length ∧ (i = 0 ∧ V = .sl tl 4 (Za a) ∨ 0 < i ∧ V = slV true 4 (Za (ZaK a (b.take i)))) ∧
   tm=ovr base [(5,V),(1,slV bb 4 (Za b)),(6,.int .i64 (i:Int))]∧H=⟨[],0,lv',nt'⟩)
  (fun m tm H hI=>?_) b.length _ _ ⟨0,_,_,by omega,.inl ⟨rfl,rfl⟩,Zd ⟨rfl,rfl,rfl,trivial⟩,rfl⟩
 obtain⟨i,base,V,hi,hV,rfl,rfl⟩:=hI;by_cases hlt:i<b.length
 ·obtain⟨x,hx⟩:∃x,b[i]? = some x:=⟨b[i],by simp⟩;have hxs:=hb' x (List.mem_of_getElem? hx);have hsn:=Zhz a hx;have h1:=ZdJ (b.take i) a;rw[List.length_take]at h1;have hct:∀H,CO 245 [V,.agg x.cells] H (slV true 4 (Za (ZaK a (b.take (i+1))))) H:=by rw[hsn];rcases hV with⟨h0,rfl⟩|⟨_,rfl⟩;{intro H;have:=ZuL (l:=a) ha hxs (by omega) false H;rw[h0,List.take_zero,show ZaK a []=a from rfl];obtain⟨k',nm',s',f',kz'⟩:=x;simp only[Tm.cells,Yo]at this ⊢;exact ZX this (by simp only[ZG,frzG,Wm,ZM];rfl)};{exact ZuL (ZfO _ _ ha fun t ht=>hb' t (List.mem_of_mem_take ht)) hxs (by omega) true}
  obtain⟨k',nm',s',f',kz'⟩:=x;have hj:=Zk hx;simp only[Tm.cells]at hct;repeat' first|refine Jc (hct _) ?_|refine Ku ?_|refine Jb ?_ ?_|refine Jo ?_|intro hb
  all_goals first
   | (exfalso;simp at hb;done)
   | (exfalso;simp only[Zb,decide_eq_false_iff_not]at hb;omega)
   | exact LoopI.go (m-1) (by omega) ⟨i+1,_,_,by omega,.inr ⟨by omega,rfl⟩,Zd ⟨rfl,rfl,Zg (Ze (n:=i+1) (by omega)),trivial⟩,rfl⟩
 ·have e:i=b.length:=by omega
  subst e;repeat' first|refine Jl ?_|refine Jb ?_ ?_|refine Jo ?_|intro hb
  {exfalso;rw[Zb]at hb;simp at hb}
  ·rcases hV with⟨h0,rfl⟩|⟨h0,rfl⟩;{have e0:=List.length_eq_zero_iff.1 h0;subst e0;show _=some (slV false 4 (Za a));rw[Yo];rfl}
   ·rw[List.take_length];cases b with
    | nil=>exact absurd h0 (by simp)
    | cons y r=>exact ZJ _ _ _ _ _
end Go.Vm.Seat
namespace Go.Vm
theorem Zaw {l:List Tm} {i:Nat} {t:Tm} (h:l[i]? = some t):Xl (l.drop i)=if t.valid≠0 then t.valid else Xl (l.drop (i+1)):=by rw[ZB h];rfl
theorem UU (a b:List Tm):Zm (a++b)=Zm a+Zm b:=by
 induction a with
 |nil=>simp[Zm]
 |cons x r ih=>simp only[List.cons_append,Zm,ih];omega
theorem Qa:∀a b:List Tm,Zm (Yh a b)≤Zm a+Zm b
 | [],b=>by rw[Yh,Zm];omega
 |x::a,[]=>by rw[Yh];omega
 |x::a,y::b=>by have h1:=Qa a (y::b);have h2:=Qa (x::a) b;have h3:=Qa a b;rw[Yh];simp only[Zm]at *;split;{rw[Zm];omega};{split;{rw[Zm];omega};{omega}}
termination_by a b=>a.length+b.length
mutual
theorem ZlB:∀t:Tm,Zm t.sumP≤t.size
 | .mk k nm s b kz=>by rw[Tm.sumP,Tm.size];split;{simp only[Zm];omega};{split;{have:=UO kz [];simp only[Zm]at this;omega};{simp only[Zm,Tm.size];omega}}
theorem UO:∀l o:List Tm,Zm (ZT l o)≤Zm o+Zm l
 | [],o=>by rw[ZT];omega
 |t::r,o=>by have h1:=UO r (Yh o t.sumP);have h2:=Qa o t.sumP;have h3:=ZlB t;rw[ZT,Zm];omega
end
end Go.Vm
namespace Go.Vm.Seat
open Go.Proofs
theorem Zbz (b:Bool) (el:List (List PV)):slV b 4 el= .nils∨∃el',slV b 4 el= .sl .none 4 el':=by
 cases el with
 | nil => cases b with
   | true=>exact .inl (Zi 4)
   | false=>exact .inr ⟨[],ZE 4⟩
 |cons x r=>exact .inr ⟨x::r,Zr _ _ _ _⟩
theorem bs2 (b c:Bool) (l m:List (List PV)):Z6 E0 236 2 [(0,slV b 4 l),(1,slV c 4 m)]=some (1,[[slV b 4 l],[slV c 4 m]]):=by rcases Zbz b l with e|⟨el,e⟩<;>rcases Zbz c m with e'|⟨el',e'⟩<;>rw[e,e']<;>rfl
theorem ZuZ (b:Bool) (l:List (List PV)):Z6 E0 236 2 [(0,slV b 4 l),(1,.nils)]=some (1,[[slV b 4 l],[.nils]]):=by have:=bs2 b true l [];rwa [show slV true 4 ([]:List (List PV))= .nils from Zi 4]at this
theorem ZvC {l:List Tm} (hl:SmL l) (hlen:l.length≤1000000) (b:Bool):∀H,CO 218 [slV b 4 (Za l),.nils] H (.int .i64 (if 200<l.length then 3 else Xl l)) H:=by
 have hcat:=Zuq (a:=l) (b:=[]) (by simpa using hlen) b true;rw[List.append_nil]at hcat;have hcat:∀H,CO 226 [.sl .full 1 [[slV b 4 (Za l)],[.nils]]] H (slV true 4 (Za l)) H:=fun H=>by have:=hcat H;rw[show slV true 4 (Za [])= .nils from Zi 4]at this;exact ZX this rfl
 have hV:∀t,t∈l→∀H,CO 65 [.agg t.cells] H (.int .i64 t.valid) H:=fun t ht=>c65 (hl t ht).1 (by have:=(hl t ht).2;omega);refine Jw tOk fe218.ok rfl ?_;by_cases h2:200<l.length
 ·rw[if_pos h2];repeat' first|refine Jl ?_|refine Jb ?_ ?_|refine Jo ?_|intro hb
  all_goals first
   | rfl
   | (exfalso;rw[Zb]at hb;simp only[decide_eq_false_iff_not]at hb;omega)
 ·rw[if_neg h2];repeat' first|refine Jl ?_|refine Jb ?_ ?_|refine Jo ?_|intro hb
  {exfalso;rw[Zb]at hb;simp only[decide_eq_true_eq]at hb;omega};apply qBs;{rfl};{rfl};{rfl};{exact ZuZ b (Za l)};{exact IsLL.n};{simp only[Yt,Wm,ZM];rfl};repeat' first|refine Jc (hcat _) ?_|refine KS ?_|fail
  refine Wp.while (fun m tm H => ∃(i : Nat) (base : TM), i + m = l.length ∧ Xl l = Xl (l.drop i) ∧
    tm=ovr base [(14,slV true 4 (Za l)),(15,.int .i64 (l.length:Int)),(16,.int .i64 (i:Int))]∧H=hNil)
   (fun m tm H hI=>Wp.drop ?_) l.length _ _ ⟨0,_,by omega,by rw[List.drop_zero],Zd ⟨rfl,Zg (by rw[Zb]),rfl,trivial⟩,rfl⟩
  obtain⟨i,base,hi,hgo,rfl,rfl⟩:=hI;rw[hgo];clear hb;by_cases hlt:i<l.length
  ·obtain⟨t,ht⟩:∃t,l[i]? = some t:=⟨l[i],by simp⟩;have hc:=hV t (List.mem_of_getElem? ht);have hd:=Zaw ht;generalize t.valid=v at hc hd;obtain⟨k',nm',s',f',kz'⟩:=t;have hj:=Zk ht;simp only[Tm.cells]at hc;by_cases hv:v=0
   ·subst hv;rw[if_neg (by simp)]at hd;(repeat' first|refine Jc (hc _) ?_|refine Jx ?_|refine Jt ?_|refine Jz ?_ ?_|refine Jo ?_|intro hb);all_goals first
     | (exfalso;simp at hb<;>omega)
     | exact DropQ.go [(14, slV true 4 (Za l)), (15, .int .i64 (l.length : Int)), (16, .int .i64 ((i + 1 : Nat) : Int))] ⟨rfl, rfl, Zg (Ze (n := i + 1) (by omega)), trivial⟩
         (by simp[Zl,under]) rfl rfl (LoopI.go (m-1) (by omega) ⟨i+1,_,by omega,by rw[hd],rfl,rfl⟩)
   ·rw[if_pos hv]at hd;(repeat' first|refine Jc (hc _) ?_|refine Jx ?_|refine Jb ?_ ?_|refine Jz ?_ ?_|refine Jo ?_|intro hb);all_goals first
     | (exfalso;simp at hb<;>omega)
     | (exfalso;simp_all;done)
     | rw[hd]
  {(have e:i=l.length:=by omega);subst e;(repeat' first|refine Jz ?_ ?_|refine Jo ?_|intro hb);{exfalso;simp at hb};{rw[List.drop_length];rfl}}
