/-
  The powers of a term are gathered: exponent.collect.
-/
import Derived.Test.YtnghnjdabbjcnaaGreatDoorVOl
set_option maxHeartbeats 0
set_option maxRecDepth 100000
namespace Go.Vm.Seat
variable {f:FuncId} {args:List PV} {H H':Heap} {r v0:PV} {x y:Pw} {M l:List Pw} {n:Int} {i:Nat} {t:Tm} {L:List Box}
open Go.Proofs
noncomputable def E3:Env:={E0 with eff:=fun f=>E0.eff f||Nat.beq f 254}
theorem ZoB:TOk E3 Tryz.prog:=⟨fun _ _ h=>Zd4 h,ZhR rfl⟩
theorem ZqE (h:CO f args H r H'):CallOk E3 Tryz.prog f args H r H':=h.env rfl
theorem Zux (h:CallOk E3 Tryz.prog f args H r H'):CO f args H r H':=h.env rfl
theorem ZoF (y:Pw):(pwC y).all ZL=true:=by have:=ZaB [y];simpa[pwL] using this
theorem Zty {id:Nat} (hb:nth H.bx id=some (.cells 5 [pwC y])) {s:PV} (h1:Wi 5 s=5) (h2:Zkt s=true):XK E0 207 207 s (.own id 5 0 1) H=some (5,64,[pwC y]):=by
 have hy:Yo [pwC y]=some [pwC y]:=Y8 [y];have hok:[pwC y].all (fun c=>c.all ZL)=true:=ZaB [y];have hx:YK H (.own id 5 0 1)=some [pwC y]:=by simp only[YK,hb];show(if 5=5∧0+1≤1 then Yo [pwC y] else none)=_;rw[if_pos (by omega),hy]
 obtain⟨ti,ui,e,f,ei,q1,q2,q3,q4,q5,q6,q7,q8,q9⟩:=apT_pw.h;have q6':=q6;have q7':=q7;simp only[XK,q1,q3,q5];rw[if_pos ⟨q8,q9,by rw[q6'];exact h1,by rw[q6'];rfl⟩,hx];simp only[hok,h2,and_self,if_true,q6',q7']
theorem Zfx {id:Nat} (hb:nth H.bx id=some (.cells 5 (pwL M))):YK H (.own id 5 0 M.length)=some (pwL M):=by simp only[YK,hb];rw[if_pos ⟨trivial,by rw[ZT];omega⟩,List.drop_zero, ← ZT M,List.take_length,Y8]
theorem ZoO {id k n:Nat} (h:k≤n):Yf E0 207 (.own id 5 0 n) (some (.int .i64 (k:Int))) none none=some (.own id 5 (0+k) (n-k)):=by
 obtain⟨ti,e,et⟩:∃ti,E0.T 207=some ti∧ti.tk= .slice 227:=⟨_,rfl,rfl⟩;obtain⟨ei,e2,e3⟩:∃ei,E0.T 227=some ei∧ei.size=5:=⟨_,rfl,rfl⟩;have hn:nat? (.int .i64 (k:Int))=some k:=by simp[nat?]
 simp only[Yf,e,et,e2,e3,if_true,XP,hn,if_pos h]
theorem Zsq (P:Box):CO 254 [.nils,.int .i64 0,.own 1 5 0 1] ⟨[P,.cells 5 [pwC y]],0,[],0⟩ (.own 2 5 0 1) ⟨[P,.cells 5 [pwC y],.cells 5 [pwC y]],0,[],0⟩:=by
 have hap:ZK E0 207 207 .nils (.own 1 5 0 1) ⟨[P,.cells 5 [pwC y]],0,[],0⟩=some (.own 2 5 0 1,⟨[P,.cells 5 [pwC y],.cells 5 [pwC y]],0,[],0⟩):=by have he:=Zty (y:=y) (H:=⟨[P,.cells 5 [pwC y]],0,[],0⟩) (id:=1) rfl (s:= .nils) rfl rfl;simp only[ZK,he,YD];rfl
 refine ZU (own:=fun d=>Nat.beq d 25) tOk fe254.ok ?_;refine Wp.seq ?_;repeat' first|refine Ka ?_|fail
 refine ZrR rfl rfl rfl rfl rfl hap ?_;repeat' first|refine Jo ?_|fail
 all_goals exact RetE.ret rfl rfl rfl
theorem ZrY (P:Box) (hl:M.length≤1000):CO 254 [.own 0 5 0 M.length,.int .i64 (M.length:Int),.own 2 5 0 1] ⟨[.cells 5 (pwL M),P,.cells 5 [pwC y]],0,[],0⟩ (.own 3 5 0 (M.length+1)) ⟨[.dead,P,.cells 5 [pwC y],.cells 5 (pwL (M++ [y]))],0,[],0⟩:=by
 have hsl:=ZoO (id:=0) (k:=M.length) (n:=M.length) (Nat.le_refl _);have heq:=Z8 (M.length:Int) (M.length:Int);rw[decide_eq_true rfl]at heq;have hs:=Zfx (H:=⟨[.cells 5 (pwL M),P,.cells 5 [pwC y]],0,[],0⟩) (id:=0) (M:=M) rfl;have he:=Zty (y:=y) (H:=⟨[.cells 5 (pwL M),P,.cells 5 [pwC y]],0,[],0⟩) (id:=2) rfl (s:= .own 0 5 0 M.length) rfl rfl;have hap:ZK E0 207 207 (.own 0 5 0 M.length) (.own 2 5 0 1) ⟨[.cells 5 (pwL M),P,.cells 5 [pwC y]],0,[],0⟩=some (.own 3 5 0 (M.length+1),⟨[.dead,P,.cells 5 [pwC y],.cells 5 (pwL (M++ [y]))],0,[],0⟩):=by simp only[ZK,he,YD,WH,hs];rw[if_pos ⟨trivial,Nat.zero_le _,ZT M,ZR (by rw[ZT];simp;omega) (by decide)⟩,Ze2,ZT];rfl
 clear hs he;generalize pwL M=L at hap ⊢;generalize pwL (M++ [y])=L2 at hap ⊢;generalize M.length+1=n1 at hap ⊢;generalize M.length=n at hap hsl heq ⊢;refine ZU (own:=fun d=>Nat.beq d 25) tOk fe254.ok ?_;refine Wp.seq ?_;repeat' first|refine JS ?_|refine Kg ?_|fail
 refine ZrR rfl rfl rfl rfl rfl hap ?_;repeat' first|refine Jo ?_|fail
 all_goals exact RetE.ret rfl rfl rfl
theorem ZrG (P:Box) (hi:i<M.length) (hl:M.length≤1000):CO 254 [.own 0 5 0 M.length,.int .i64 (i:Int),.own 2 5 0 1] ⟨[.cells 5 (pwL M),P,.cells 5 [pwC y]],0,[],0⟩ (.own 3 5 0 (M.length+1)) ⟨[.dead,P,.cells 5 [pwC y],.cells 5 (pwL (M.take i++ [y]++M.drop i))],0,[],0⟩:=by
 have h:=Zoi (H:=⟨[.cells 5 (pwL M),P,.cells 5 [pwC y]],0,[],0⟩) (id:=0) (id2:=2) (n:=M.length) (i:=i) (el:=pwL M) (y:=pwC y) rfl rfl (Nat.zero_le _) (by decide) (ZT M) hi hl (ZaB M) (ZoF y);have e:VO (pwL M) i (pwC y)=pwL (M.take i++ [y]++M.drop i):=by simp only[VO,pwL,List.map_append,List.map_take,List.map_drop,List.map_cons,List.map_nil]
 rw[e]at h;exact h
theorem Zks (t:Tm) (n:Int):Zav E3 227 [(0,.agg t.cells),(1,.int .i64 n)]=some (.agg (pwC (t,n))):=by obtain⟨k,nm,s,b,kz⟩:=t;rfl
theorem Zue (y:Pw):∃a c d e f,pwC y= [a,c,d,e,f]:=by obtain⟨⟨k,nm,s,b,kz⟩,n⟩:=y;exact⟨_,_,_,_,_,rfl⟩
def ZlT (l:List Pw) (r:PV) (H:Heap):Prop:=Out 5 H r (pwL l)
theorem UM {j n:Nat} (hn:n=l.length) (h:H.bx[j]? = some (.cells 5 (pwL l))):ZlT l (.own j 5 0 n) H:=by have:=Out.own (es:=5) (H1:=H) j (pwL l) [] (by rw[List.append_nil];exact h) (Y8 l);rw[ZT, ← hn]at this;exact this
theorem Zp0 (hP:PlaceE l t i) (hf:∀x,l[i]? = some x→x.1.cmp t≠0) (ht:t.Ok∧t.size≤100000) (hlen:l.length≤1000) (hM:Mut0 5 v0 L (pwL l)) (hB:CO 252 [v0,.agg t.cells,.fn 253 []] ⟨L++ [.cells 5 [pwC (t,n)]],0,[],0⟩ (.tup [.int .i64 (i:Int),.bool false]) ⟨L++ [.cells 5 [pwC (t,n)]],0,[],0⟩):∃r H1,CallOk E3 Tryz.prog 241 [v0,.agg (pwC (t,n))] ⟨L,0,[],0⟩ r H1∧ZlT (WV l t n) r H1:=by
 have hcl:=fun H=>ZqE (Zsw ht.1 ht.2 H);obtain⟨y,hy⟩:∃y:Pw,y=(t,n):=⟨_,rfl⟩;have hbd:=Zks t n;rw[← hy]at hbd;obtain⟨a,c,d,e,f,hce⟩:=Zue y;rw[Zgc hP hf];have hB:=ZqE hB;rcases X3 hM with⟨rfl,rfl,h⟩|⟨rfl,rfl⟩
 ·obtain rfl:=Zcs h;obtain rfl:i=0:=by have:=hP.le;simpa using this
  have k3:=ZqE (Zsq (.cells 5 [pwC (t,n)]) (y:=y));have hfin:ZlT ([].take 0++ [(t,n)]++ [].drop 0) (.own 2 5 0 1) ⟨[.cells 5 [pwC (t,n)],.cells 5 [pwC y],.cells 5 [pwC y]],0,[],0⟩:=UM rfl (by rw[hy];rfl);rw[hce]at hbd k3 hfin;clear hce hy;generalize ([].take 0++ [(t,n)]++ [].drop 0:List Pw)=R at hfin ⊢;obtain⟨k,nm,s,b,kz⟩:=t;simp only[pwC,Tm.cells,List.cons_append,List.nil_append]at hcl hbd hB k3 hfin ⊢;refine Zt (own:=fun d=>Nat.beq d 24) ZoB fe241.ok ?_;refine Wp.seq ?_;repeat' first|refine Jc hB ?_|refine Ka ?_|refine Jd (hcl _) ?_|refine KL ?_|refine Jh ?_|(apply Wp.drawS ZoB follows;kernel_rfl;rfl)|fail
  refine Zsz rfl rfl rfl rfl ?_;refine dCe rfl rfl rfl rfl rfl k3 (Nat.le_of_ble_eq_true rfl) ?_;repeat' first|refine Jh ?_|refine Jo ?_|fail
  all_goals exact RetR.ret rfl hfin
 {rw[ZT]at hB ⊢;by_cases hil:i<l.length;{have k3:=ZqE (ZrG (.cells 5 [pwC (t,n)]) hil hlen (y:=y));have hfin:ZlT (l.take i++ [(t,n)]++l.drop i) (.own 3 5 0 (l.length+1)) ⟨[.dead,.cells 5 [pwC (t,n)],.cells 5 [pwC y],.cells 5 (pwL (l.take i++ [y]++l.drop i))],0,[],0⟩:=UM (by simp only[List.length_append,List.length_take,List.length_drop,List.length_singleton];omega) (by rw[hy];rfl);(have hR:l.take i++ [y]++l.drop i=l.take i++ [(t,n)]++l.drop i:=by rw[hy]);rw[hR]at k3 hfin;rw[hce]at hbd k3 hfin;clear hce hy hR;generalize l.take i++ [(t,n)]++l.drop i=R at hfin k3 ⊢;generalize pwL l=PL at hB k3 ⊢;generalize l.length=ln at hB k3 hfin ⊢;obtain⟨k,nm,s,b,kz⟩:=t;simp only[pwC,Tm.cells,List.cons_append,List.nil_append]at hcl hbd hB k3 hfin ⊢;refine Zt (own:=fun d=>Nat.beq d 24) ZoB fe241.ok ?_;refine Wp.seq ?_;(repeat' first|refine Jc hB ?_|refine Ka ?_|refine Jd (hcl _) ?_|refine KL ?_|refine Jh ?_|(apply Wp.drawS ZoB follows;kernel_rfl;rfl)|fail);refine Zsz rfl rfl rfl rfl ?_;refine dCe rfl rfl rfl rfl rfl k3 (Nat.le_of_ble_eq_true rfl) ?_;(repeat' first|refine Jh ?_|refine Jo ?_|fail);all_goals exact RetR.ret rfl hfin};{(have hin:i=l.length:=by have:=hP.le;omega);(have hR:l.take i++ [(t,n)]++l.drop i=l++ [(t,n)]:=by rw[hin,List.take_length,List.drop_length,List.append_nil]);rw[hR];rw[hin]at hB;have k3:=ZqE (ZrY (.cells 5 [pwC (t,n)]) hlen (y:=y));have hfin:ZlT (l++ [(t,n)]) (.own 3 5 0 (l.length+1)) ⟨[.dead,.cells 5 [pwC (t,n)],.cells 5 [pwC y],.cells 5 (pwL (l++ [y]))],0,[],0⟩:=UM (by simp) (by rw[hy];rfl);(have hR2:l++ [y]=l++ [(t,n)]:=by rw[hy]);rw[hR2]at k3 hfin;rw[hce]at hbd k3 hfin;clear hce hy hR hR2;generalize l++ [(t,n)]=R at hfin k3 ⊢;generalize pwL l=PL at hB k3 ⊢;generalize l.length=ln at hB k3 hfin ⊢;obtain⟨k,nm,s,b,kz⟩:=t;simp only[pwC,Tm.cells,List.cons_append,List.nil_append]at hcl hbd hB k3 hfin ⊢;refine Zt (own:=fun d=>Nat.beq d 24) ZoB fe241.ok ?_;refine Wp.seq ?_;(repeat' first|refine Jc hB ?_|refine Ka ?_|refine Jd (hcl _) ?_|refine KL ?_|refine Jh ?_|(apply Wp.drawS ZoB follows;kernel_rfl;rfl)|fail);refine Zsz rfl rfl rfl rfl ?_;refine dCe rfl rfl rfl rfl rfl k3 (Nat.le_of_ble_eq_true rfl) ?_;(repeat' first|refine Jh ?_|refine Jo ?_|fail);all_goals exact RetR.ret rfl hfin}}
theorem ZnA (l:List Pw) (i:Nat) (y:Pw):(pwL l).set i (pwC y)=pwL (l.set i y):=by simp only[pwL,List.map_set]
theorem ZlO (h:l[i]? = some x):nth (pwL l) i=some (pwC x):=(Zm _ _).trans (Xb h)
theorem Zml (hb:nth H.bx 0=some (.cells 5 (pwL l))) (h:l[i]? = some x):ZZ E0 3 (.ptr 0 5 (0+i) 4) H=some (.int .i64 x.2):=by
 rw[Nat.zero_add];exact Zfd (ti:=⟨.int .i64,1,8,.int .i64 0⟩) rfl rfl hb (ZlO h) (by
  obtain⟨⟨k,nm,s,b,kz⟩,m⟩:=x
  rfl)
theorem ZpP (h:l[i]? = some x) (m:Int) (B:Box):Heap.wr ⟨[.cells 5 (pwL l),B],0,[],0⟩ (.ptr 0 5 (0+i) 4) [.int .i64 m]=some ⟨[.cells 5 (pwL (l.set i (x.1,m))),B],0,[],0⟩:=by
 rw[Nat.zero_add,U6 (H:=⟨[.cells 5 (pwL l),B],0,[],0⟩) rfl (ZlO h) (by rw[Zeu];exact Nat.le_refl 5) (Nat.zero_le _)];have e:(pwC x).take 4++([PV.int .i64 m]++(pwC x).drop (4+ [PV.int .i64 m].length))=pwC (x.1,m):=by obtain⟨⟨k,nm,s,b,kz⟩,xn⟩:=x;rfl
 rw[e,ZnA];rfl
theorem Zlx (hP:PlaceE l t i) (hx:l[i]? = some x) (h00:x.1.cmp t=0) (hxb: -1000000≤x.2∧x.2≤1000000) (hn: -1000000≤n∧n≤1000000) (hlen:l.length≤1000) (hB:CO 252 [.own 0 5 0 l.length,.agg t.cells,.fn 253 []] ⟨[.cells 5 (pwL l),.cells 5 [pwC (t,n)]],0,[],0⟩ (.tup [.int .i64 (i:Int),.bool true]) ⟨[.cells 5 (pwL l),.cells 5 [pwC (t,n)]],0,[],0⟩):∃r H1,CO 241 [.own 0 5 0 l.length,.agg (pwC (t,n))] ⟨[.cells 5 (pwL l)],0,[],0⟩ r H1∧ZlT (WV l t n) r H1:=by
 rw[Zbl hP hx h00];have hil:=Zz hx;have hia:=ZkL (id:=0) (ix:=0) hil;have hld1:=Zml (H:=⟨[.cells 5 (pwL l),.cells 5 [pwC (t,n)]],0,[],0⟩) rfl hx;have hadd:=ZaJ (a:=x.2) (b:=n) (by omega) (by omega);have hwr:=ZpP hx (x.2+n) (.cells 5 [pwC (t,n)]);have hx2:(l.set i (x.1,x.2+n))[i]? = some (x.1,x.2+n):=by rw[List.getElem?_set_self hil]
 have hld2:=Zml (H:=⟨[.cells 5 (pwL (l.set i (x.1,x.2+n))),.cells 5 [pwC (t,n)]],0,[],0⟩) rfl hx2;have heq:=Z8 (x.2+n) 0;have hi1:XM E0 .add 3 (.int .i64 (i:Int)) (.int .i64 1)=some (.int .i64 ((i+1:Nat):Int)):=by rw[ZaJ (by omega) (by omega)];congr 2
 have hl2:(l.set i (x.1,x.2+n)).length=l.length:=List.length_set;have hdel:=ZmH (H:=⟨[.cells 5 (pwL (l.set i (x.1,x.2+n))),.cells 5 [pwC (t,n)]],0,[],0⟩) (id:=0) (n:=l.length) (i:=i) (el:=pwL (l.set i (x.1,x.2+n))) rfl (Nat.zero_le _) (by rw[ZT,hl2]) hil hlen (ZaB _);have he:(pwL (l.set i (x.1,x.2+n))).take i++(pwL (l.set i (x.1,x.2+n))).drop (i+1)=pwL (l.take i++l.drop (i+1)):=by simp only[pwL,List.map_append,List.map_take,List.map_drop,List.map_set];rw[List.take_set_of_le (Nat.le_refl _),List.drop_set_of_lt (by omega)]
 rw[he]at hdel;have hfin1:ZlT (l.take i++l.drop (i+1)) (.own 0 5 0 (l.length-1)) ⟨[.cells 5 (pwL (l.take i++l.drop (i+1))),.cells 5 [pwC (t,n)]],0,[],0⟩:=UM (by simp only[List.length_append,List.length_take,List.length_drop];omega) rfl;have hfin2:ZlT (l.set i (x.1,x.2+n)) (.own 0 5 0 l.length) ⟨[.cells 5 (pwL (l.set i (x.1,x.2+n))),.cells 5 [pwC (t,n)]],0,[],0⟩:=UM hl2.symm rfl;have hdel:CO 255 [.own 0 5 0 l.length,.int .i64 (i:Int),.int .i64 ((i+1:Nat):Int)] ⟨[.cells 5 (pwL (l.set i (x.1,x.2+n))),.cells 5 [pwC (t,n)]],0,[],0⟩ (.own 0 5 0 (l.length-1)) ⟨[.cells 5 (pwL (l.take i++l.drop (i+1))),.cells 5 [pwC (t,n)]],0,[],0⟩:=hdel;by_cases hz:x.2+n=0
 ·rw[if_pos hz];rw[decide_eq_true hz]at heq;generalize l.take i++l.drop (i+1)=R at hdel hfin1 ⊢;generalize l.set i (x.1,x.2+n)=S at hwr hld2 hdel;clear hx2 hfin2 he hl2;generalize x.2+n=m at hadd hwr hld2 heq;obtain⟨k,nm,s,b,kz⟩:=t;simp only[pwC,Tm.cells,List.cons_append,List.nil_append]at hB hld1 hwr hld2 hdel hfin1 ⊢;refine Zt (own:=fun _=>false) tOk fe241.ok ?_;refine Wp.seq ?_;repeat' first|refine Jc hB ?_|refine Jc hdel ?_|refine KG ?_|refine Kf ?_|refine Ka ?_|refine JD ?_|refine JK ?_|(apply dLd;rfl;rfl;rfl;assumption;exact IsV.any _;(first|rfl|(show Nat.blt _ _=true;first|assumption|(simp[Nat.blt];done))))|refine Ky ?_|fail
  all_goals exact RetR.ret rfl hfin1
 ·rw[if_neg hz];rw[decide_eq_false hz]at heq;generalize l.set i (x.1,x.2+n)=S at hwr hld2 hfin2 ⊢;clear hx2 hfin1 he hl2 hdel;generalize x.2+n=m at hadd hwr hld2 heq;obtain⟨k,nm,s,b,kz⟩:=t;simp only[pwC,Tm.cells,List.cons_append,List.nil_append]at hB hld1 hwr hld2 hfin2 ⊢;refine Zt (own:=fun _=>false) tOk fe241.ok ?_;refine Wp.seq ?_;repeat' first|refine Jc hB ?_|refine KG ?_|refine Kf ?_|refine Ka ?_|refine JD ?_|refine JK ?_|(apply dLd;rfl;rfl;rfl;assumption;exact IsV.any _;(first|rfl|(show Nat.blt _ _=true;first|assumption|(simp[Nat.blt];done))))|refine Ky ?_|fail
  all_goals exact RetR.ret rfl hfin2
theorem Zub (hA:VS l) (hl:PwB 1000000 l) (ht:t.Ok∧t.size≤100000) (hn: -1000000≤n∧n≤1000000) (hlen:l.length≤1000) (hM:Mut0 5 v0 L (pwL l)):∃r H1,CO 241 [v0,.agg (pwC (t,n))] ⟨L,0,[],0⟩ r H1∧Out 5 H1 r (pwL (WV l t n)):=by
 obtain⟨i,fd,hP,hiff,hB⟩:=ZuS hA (fun x hx=>(hl x hx).1) ht hlen hM [.cells 5 [pwC (t,n)]];cases fd with
 |false=>obtain⟨r,H1,h1,h2⟩:=Zp0 hP (fun x hx h=>by have:=hiff.2 ⟨x,hx,h⟩;cases this) ht hlen hM hB;exact⟨r,H1,Zux h1,h2⟩
 |true=>obtain⟨x,hx,h00⟩:=hiff.1 rfl;rcases X3 hM with⟨rfl,rfl,h⟩|⟨rfl,rfl⟩;{obtain rfl:=Zcs h;simp at hx};{rw[ZT]at hB ⊢;exact Zlx hP hx h00 (hl x (List.mem_of_getElem? hx)).2 hn hlen hB}
theorem Zjc (hA : VS l) (hl : PwB 1000000 l) (ht : t.Ok ∧ t.size ≤ 100000) (hn : -1000000 ≤ n ∧ n ≤ 1000000) (hlen : l.length ≤ 1000) {v : PV} (hro : H.ro = 0) (hv : Mut 5 H.bx v (pwL l)) :
  ∃v' B,CO 241 [v,.agg (pwC (t,n))] H v' {H with bx:=Vh v H.bx++ [B]}∧Mut 5 (Vh v H.bx++ [B]) v' (pwL (WV l t n))∧(v'= .nils∨∃m,v'= .own H.bx.length 5 0 m):=
 CallOk.mut hro hv (Y8 l) (by
  obtain⟨k,nm,s,b,kz⟩:=t
  simp only[pwC,Tm.cells,List.cons_append,List.nil_append,ZH,frzG,Vn,ZX]
  rfl) fun v0 L hM=>Zub hA hl ht hn hlen hM
end Go.Vm.Seat
namespace Go.Vm
theorem ZmF {t:Tm} {n:Int} {l l':List Pw} (h:VS l) (hn:n≠0) (e:t.col n l=some l'):VS l':=by
 obtain⟨h1,h2⟩:=QR t n l h hn;cases ha:t.ari with
 |true=>obtain⟨e1,e2⟩:=h1 ha;rw[e]at e1;cases e1;exact e2
 |false=>rw[h2 ha]at e;cases e
theorem Zjz {kz : List Tm} {i : Nat} {x : Tm} (n : Int) (l : List Pw) (h : kz[i]? = some x) : colL (kz.drop i) n l = match x.col n l with
  | some l'=>colL (kz.drop (i+1)) n l'
  | none=>none:=by rw[Zw h];rfl
end Go.Vm
namespace Go.Vm.Seat
variable {es:Nat} {v:PV} {el:List (List PV)} {bx ext:List Box} {t:Tm}
open Go.Proofs
theorem Zi3 {H:Heap} (hf:Yo el=some el) (h:Mut es H.bx v el):Out es H v el:=by
 cases h with
 |nil=>exact .nil
 |own k _ h=>exact .own k el [] (by rw[List.append_nil];exact h) hf
theorem Zi7 {v0:PV} {L:List Box} (h:Mut0 es v0 L el):Mut es (L++ext) v0 el:=by
 cases h with
 |nil=>exact .nil
 |own=>exact .own 0 el rfl
theorem QM (h:Mut es bx v el):Mut es (bx++ext) v el:=by
 cases h with
 |nil=>exact .nil
 |own k _ h=>exact .own k el (by rw[List.getElem?_append_left (Zz h)];exact h)
def Zuf (c:Option (List Pw)) (r:PV) (H:Heap):Prop:=(∃l' v,c=some l'∧r= .tup [v,.bool true]∧Out 5 H v (pwL l'))∨(c=none∧r= .tup [.nils,.bool false])
def ZtB (t:Tm):Prop:=∀{l:List Pw} {n B:Int},VS l→PwB B l→0≤B→B+t.size≤1000000→l.length+t.size≤900→(n=1∨n= -1)→∀{v0:PV} {L:List Box},Mut0 5 v0 L (pwL l)→
 ∃r H1,CO 222 [v0,.agg t.cells,.int .i64 n] ⟨L,0,[],0⟩ r H1∧Zuf (t.col n l) r H1
theorem Zja (t:Tm) (n:Int):ZH [.agg t.cells,.int .i64 n]=some [.agg t.cells,.int .i64 n]:=by obtain⟨k,nm,s,b,kz⟩:=t;simp only[Tm.cells,ZH,frzG,Vn,ZX];rfl
theorem Ztw (hw:ZtB t) {l:List Pw} {n B:Int} (hA:VS l) (hl:PwB B l) (hB:0≤B) (hBt:B+t.size≤1000000) (hlen:l.length+t.size≤900) (hn:n=1∨n= -1) (hv:Mut 5 bx v (pwL l)):(∃l',t.col n l=some l'∧∃v' bx',CO 222 [v,.agg t.cells,.int .i64 n] ⟨bx,0,[],0⟩ (.tup [v',.bool true]) ⟨bx',0,[],0⟩∧Mut 5 bx' v' (pwL l')∧bx.length≤bx'.length)∨(t.col n l=none∧∃bx',CO 222 [v,.agg t.cells,.int .i64 n] ⟨bx,0,[],0⟩ (.tup [.nils,.bool false]) ⟨bx',0,[],0⟩∧bx.length≤bx'.length):=by
 cases hc:t.col n l with
 |some l'=>
  refine .inl ⟨l',rfl,?_⟩;obtain⟨v',B',h1,h2, -⟩:=CallOk.mutT (E:=E0) (P:=Tryz.prog) (f:=222) (q:= .bool true) rfl (H:=⟨bx,0,[],0⟩) (el':=pwL l') rfl hv (Y8 l) (Zja t n) fun v0 L hM=>by obtain⟨r,H1,h1,h2⟩:=hw hA hl hB hBt hlen hn hM;rw[hc]at h2;rcases h2 with⟨l2,v2,e,rfl,ho⟩|⟨e,_⟩;{cases e;exact⟨v2,H1,h1,ho⟩};{cases e}
  exact⟨v',_,h1,h2,by simp[Wx]⟩
 |none=>
  refine .inr ⟨rfl,?_⟩;have h1:=CallOk.mutF (E:=E0) (P:=Tryz.prog) (f:=222) (cs:=[.nils,.bool false]) rfl (H:=⟨bx,0,[],0⟩) rfl hv (Y8 l) (Zja t n) fun v0 L hM=>by obtain⟨r,H1,h1,h2⟩:=hw hA hl hB hBt hlen hn hM;rw[hc]at h2;rcases h2 with⟨l2,v2,e,_⟩|⟨_,rfl⟩;{cases e};{exact⟨H1,h1⟩}
  exact⟨_,h1,by simp[Wx]⟩
theorem XJ (bx:List Box) (B:Box):nth (bx++ [B]) bx.length=some B:=by rw[Zm];simp
theorem Zoj (bx:List Box) (x:Tm):Heap.wr ⟨bx++ [.cells 4 [zcT]],0,[],0⟩ (.ptr bx.length 4 0 0) x.cells=some ⟨bx++ [.cells 4 [x.cells]],0,[],0⟩:=by obtain⟨k',nm',s',b',kz'⟩:=x;have h:=U6 (H:=⟨bx++ [.cells 4 [zcT]],0,[],0⟩) (id:=bx.length) (es:=4) (ix:=0) (off:=0) (el:=[zcT]) (cs:=(Tm.mk k' nm' s' b' kz').cells) (old:=zcT) (XJ _ _) rfl (Nat.le_refl 4) (Nat.zero_le _);rw[h];simp[Tm.cells,zcT]
theorem Zok (bx:List Box) (x:Tm):ZZ E0 39 (.ptr bx.length 4 0 0) ⟨bx++ [.cells 4 [x.cells]],0,[],0⟩=some (.agg x.cells):=by obtain⟨k',nm',s',b',kz'⟩:=x;exact WT rfl rfl (el:=[(Tm.mk k' nm' s' b' kz').cells]) (XJ _ _) rfl rfl
theorem ZdD (t:Tm) (n:Int):Zav E0 227 [(0,.agg t.cells),(1,.int .i64 n)]=some (.agg (pwC (t,n))):=by obtain⟨k,nm,s,b,kz⟩:=t;rfl
theorem Zus (ht:t.Ok):t.size≤400→ZtB t:=by
 induction ht with
 | @mk k nm s f kz hk hs hn hl hok ih=>
 intro hsz l n B hA hP hB hBt hlen hn1 v0 L hM;have hins:=fun (h:(Tm.mk k nm s f kz).Ok) (bx:List Box) (hv:Mut 5 bx v0 (pwL l))=>Zjc (H:=⟨bx,0,[],0⟩) (n:=n) hA (hP.mono (by omega)) ⟨h,by omega⟩ (by omega) (by omega) rfl hv;have hsp:=Ztf (.mk k nm s f kz);have hbd:=ZdD (.mk k nm s f kz) n;simp only[Tm.size]at hsz hBt hlen;have hkl:=Yl kz;rw[Tm.col];simp only[Tm.sym,Tm.cells]at hsp hbd ⊢;by_cases he:ZbO k nm=true
 ·rw[if_pos he];rw[he]at hsp;clear hins hbd;obtain⟨n',hn'⟩:∃n',n'=if nm=VG then -n else n:=⟨_,rfl⟩
  have hn2:n'=1∨n'= -1:=by rw[hn'];split<;>omega
  have hw:IntKind.i64.wrap (0-n)= -n:=by rw[IntWalk.i64_in _ (by omega)];omega
  have hlenK:=Zb kz;obtain⟨rfl,hnm⟩:=Wn he;rw[← hn'];by_cases har:arB nm kz.length=true
  ·rw[if_pos har];obtain⟨C,hC⟩:∃C,C=colL kz n' l:=⟨_,rfl⟩;rw[← hC];have hmu:=Zi7 (ext:=[.cells 4 [[.int .i64 3,.str nm,.int .i64 s,slV f 4 (Za kz)]]]) hM;rcases X3 hM with⟨rfl,rfl,hpn⟩|⟨rfl,rfl⟩;all_goals
    rcases hnm with rfl|rfl|rfl
    all_goals
     first
      | rw[if_pos rfl]at hn'
      | rw[if_neg (by decide)]at hn'
     simp only[Zb7,ZbV,Zcn,Bool.not_eq_true',decide_eq_false_iff_not,decide_eq_true_eq]at har
     simp only[Ug,VG,Um]at hsp hmu ⊢
     refine Zt (own:=fun _=>false) tOk fe222.ok ?_
     refine Wp.seq ?_
     repeat' first|refine Jk ?_|refine Jc (hsp _) ?_|refine Kv ?_|refine Jb ?_ ?_|refine Jo ?_|intro hb
     all_goals try first
      | (exfalso;simp at hb<;>omega)
      | (exfalso;rw[hlenK]at hb;revert hb;simp only[bne_iff_ne,ne_eq];omega)
     refine Wp.while (fun m tm H => ∃(i : Nat) (base : TM) (v : PV) (bx : List Box) (li : List Pw), i + m = kz.length ∧ VS li ∧ PwB (B + Zk (kz.take i)) li ∧ li.length ≤ l.length + Zk (kz.take i) ∧ colL (kz.drop i) n' li = C ∧ Mut 5 bx v (pwL li) ∧
       tm=ovr base [(0,v),(2,.int .i64 n'),(52,slV f 4 (Za kz)),(53,.int .i64 (kz.length:Int)),(54,.int .i64 (i:Int))]∧H=⟨bx,0,[],0⟩)
      (fun m tm H hI=>?_) kz.length _ _ ⟨0,_,_,_,l,by omega,hA,by simpa[Zk] using hP,by simp[Zk],by rw[List.drop_zero,hC],hmu,Ze ⟨rfl,Zg (by first|(rw[hn'];done)|(rw[hn'];exact hw)),rfl,Zg (by rw[Zb]),rfl,trivial⟩,rfl⟩
     clear hmu hC hA hP hn1
     obtain⟨i,base,v,bx,li,hi,fA,fP,fL,fC,fM,rfl,rfl⟩:=hI
     have h4:=ZA kz i
     by_cases hlt:i<kz.length
     · obtain⟨x, hx⟩ : ∃x, kz[i]? = some x := ⟨kz[i], by simp⟩
       have hm:x∈kz:=List.mem_of_getElem? hx
       have hle:=Z4 hm
       have h5:Zk (kz.take (i+1))=Zk (kz.take i)+x.size:=by
        rw[List.take_add_one,hx,UB]
        simp[Zk]
       have h6:=ZA kz (i+1)
       rw[Zjz n' li hx]at fC
       have hn3: -1≤n'∧n'≤1:=by omega
       have hn4:n'≠0:=by omega
       have hs3:x.size≤100000:=by omega
       have hB3:0≤B+(Zk (kz.take i):Int):=by omega
       have fP':∀l',x.col n' li=some l'→PwB (B+Zk (kz.take i)+x.size) l':=fun l' e=>Zm3 x n' li l' (B+Zk (kz.take i)) hB3 hn3 (hok x hm) hs3 fP e
       have fL':∀l',x.col n' li=some l'→l'.length≤li.length+x.size:=fun l' e=>ZeY x n' li l' e
       have fA':∀l',x.col n' li=some l'→VS l':=fun l' e=>ZmF fA hn4 e
       have hv2:Mut 5 (bx++ [.cells 4 [x.cells]]) v (pwL li):=QM fM
       have hcol:=Ztw (ih x hm (by omega)) fA fP (by omega) (by omega) (by omega) hn2 hv2
       have hal:∀ρ,aOp E0 false ρ (.alloc 39) ⟨bx,0,[],0⟩=some (.ptr bx.length 4 0 0,⟨bx++ [.cells 4 [zcT]],0,[],0⟩):=fun ρ=>rfl
       have hwr:=Zoj bx x
       have hld:=Zok bx x
       have hlx:=Zu (i:Int) (kz.length:Int)
       rw[decide_eq_true (by omega)]at hlx
       clear ih hv2
       rcases hcol with⟨l',e,v',bx',hc,hM', -⟩|⟨e,bx',hc, -⟩
       · have p1 := fP' l' e
         have p2:=fL' l' e
         have p3:=fA' l' e
         rw[e]at fC
         obtain⟨k',nm',s',b',kz'⟩:=x
         have hj:=Zj hx
         simp only[Tm.cells]at hc hld hwr
         clear fP' fL' fA' fM
         repeat' first|refine Jc hc ?_|refine KC ?_|refine Kf ?_|refine Kk ?_|fail
         exact LoopI.go (m-1) (by omega) ⟨i+1,_,v',bx',l',by omega,p3,by rw[h5];exact p1.mono (by push_cast;omega),by omega,fC,hM',Ze ⟨rfl,rfl,rfl,rfl,Zg (Zd (n:=i+1) (by omega)),trivial⟩,rfl⟩
       · rw[e]at fC
         obtain⟨k',nm',s',b',kz'⟩:=x
         have hj:=Zj hx
         simp only[Tm.cells]at hc hld hwr
         clear fP' fL' fA' fM
         repeat' first|refine Jc hc ?_|refine KC ?_|refine Kf ?_|refine Kk ?_|fail
         exact RetR.ret rfl (.inr ⟨fC.symm,rfl⟩)
     · have e : i = kz.length := by omega
       subst e
       rw[List.drop_length,colL]at fC
       clear ih
       have hlx:=Zu (kz.length:Int) (kz.length:Int)
       rw[decide_eq_false (by omega)]at hlx
       repeat' first|refine Kg ?_|fail
       exact RetR.ret rfl (.inl ⟨li,v,fC.symm,rfl,Zi3 (H:=⟨bx,0,[],0⟩) (Y8 li) fM⟩)
  ·rw[if_neg har];clear ih;rcases X3 hM with⟨rfl,rfl,hpn⟩|⟨rfl,rfl⟩;all_goals
    rcases hnm with rfl|rfl|rfl
    all_goals
     simp only[Zb7,ZbV,Zcn,Bool.not_eq_true',decide_eq_false_iff_not,decide_eq_true_eq]at har
     simp only[Ug,VG,Um]at hsp ⊢
     refine Zt (own:=fun _=>false) tOk fe222.ok ?_
     refine Wp.seq ?_
     repeat' first|refine Jk ?_|refine Jc (hsp _) ?_|refine Kv ?_|refine Jb ?_ ?_|refine Jo ?_|intro hb
     all_goals first
      | (exfalso;simp at hb<;>omega)
      | (exfalso;rw[hlenK]at hb;revert hb;simp only[bne_eq_false_iff_eq];omega)
      | exact RetR.ret rfl (.inr ⟨rfl,rfl⟩)
 ·rw[if_neg he];rw[Bool.eq_false_iff.2 he]at hsp;have hmu:=Zi7 (ext:=[.cells 4 [[.int .i64 k,.str nm,.int .i64 s,slV f 4 (Za kz)]]]) hM;obtain⟨v',B',hc,hM', -⟩:=hins (.mk hk hs hn hl hok) _ hmu;have hfin:=Zi3 (H:=⟨_,0,[],0⟩) (Y8 _) hM';clear ih hins;simp only[pwC,Tm.cells,List.cons_append,List.nil_append]at hbd hc;rcases X3 hM with⟨rfl,rfl,hpn⟩|⟨rfl,rfl⟩;all_goals
   refine Zt (own:=fun _=>false) tOk fe222.ok ?_
   refine Wp.seq ?_
   repeat' first|refine Jc (hsp _) ?_|refine Jc hc ?_|(apply qBd;rfl;rfl;rfl;assumption;exact IsV.aggN)|refine Ka ?_|fail
   all_goals exact RetR.ret rfl (.inl ⟨_,v',rfl,rfl,hfin⟩)
