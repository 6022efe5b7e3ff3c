/-
  Destructors: all of them at once (the program's text).
-/
import Derived.Test.YtnghnjdabbjcnaaGreatDoorVx
set_option maxHeartbeats 0
set_option maxRecDepth 100000
namespace Go.Vm.Seat
variable {j k n:Nat} {H:Heap} {L:List Tm} {a key t u:Tm} {nm:Bs} {α:Type}
open Go.Proofs
theorem ZpE {id:Nat} (h:k≤n):Z1 E0 30 (.own id 4 0 n) (some (.int .i64 (k:Int))) none none=some (.own id 4 (0+k) (n-k)):=by
 obtain⟨ti,e,et⟩:∃ti,E0.T 30=some ti∧ti.tk= .slice 39:=⟨_,rfl,rfl⟩;obtain⟨ei,e2,e3⟩:∃ei,E0.T 39=some ei∧ei.size=4:=⟨_,rfl,rfl⟩;have hn:nat? (.int .i64 (k:Int))=some k:=by simp[nat?]
 simp only[Z1,e,et,e2,e3,if_true,XS,hn,if_pos h]
theorem ZsB {id:Nat} (h:k≤n):Z1 E0 30 (.own id 4 0 n) none (some (.int .i64 (k:Int))) none=some (.own id 4 0 k):=by
 obtain⟨ti,e,et⟩:∃ti,E0.T 30=some ti∧ti.tk= .slice 39:=⟨_,rfl,rfl⟩;obtain⟨ei,e2,e3⟩:∃ei,E0.T 39=some ei∧ei.size=4:=⟨_,rfl,rfl⟩;have hn:nat? (.int .i64 (k:Int))=some k:=by simp[nat?]
 simp only[Z1,e,et,e2,e3,if_true,XS,hn,if_pos h,Nat.sub_zero]
theorem Zfv {id ix len:Nat} (hj:j<len):Zz E0 30 (.own id 4 ix len) (.int .i64 (j:Int))=some (.ptr id 4 (ix+j) 0):=Zbl rfl rfl rfl rfl hj
theorem ZiW {id:Nat} (hb:nth H.bx id=some (.cells 4 (Za L))) (hj:L[j]? = some t):Z2 E0 39 (.ptr id 4 j 0) H=some (.agg t.cells):=by obtain⟨k,nm,s,b,kz⟩:=t;exact Vc rfl rfl hb ((Zj _ _).trans (Zk hj)) rfl
theorem ZbT (L:List Tm) (j:Nat) (t:Tm):(Za L).set j t.cells=Za (L.set j t):=by simp only[Yv,List.map_set]
theorem Zqp {id:Nat} (hb:nth H.bx id=some (.cells 4 (Za L))) (hj:L[j]? = some u) (hro:H.ro≤id):H.wr (.ptr id 4 j 0) t.cells=some {H with bx:=H.bx.set id (.cells 4 (Za (L.set j t)))}:=by obtain⟨k,nm,s,b,kz⟩:=t;obtain⟨k',nm',s',b',kz'⟩:=u;rw[Qq hb ((Zj _ _).trans (Zk hj)) (by simp[Tm.cells]) hro];rw[← ZbT];simp[Tm.cells]
theorem ZuY (ht:t.Ok) (hu:u.Ok) (h1:t.size<4611686018427387904) (h2:u.size<4611686018427387904):∀H,CO 203 [.agg t.cells,.agg u.cells] H (.bool (decide (t.cmp u=0))) H:=by
 have hc:=fun H=>Zpz (d35 ht hu h1 h2 H);generalize t.cmp u=c at hc ⊢;obtain⟨k,nm,s,b,kz⟩:=t;obtain⟨k',nm',s',b',kz'⟩:=u;refine Jw tOk fe203.ok rfl ?_;repeat' first|refine Jc (hc _) ?_|refine Jt ?_|refine Jb ?_ ?_|refine Jo ?_|intro hb
 all_goals (refine ifq ?_;simp at hb;simp[hb])
def Zrn (id:Nat) (bx:List Box) (L:List Tm) (r:PV) (H:Heap):Prop:=∃(M:List Tm) (D:List (List PV)),r= .own id 4 0 M.length∧H=⟨bx.set id (.cells 4 (Za M++D)),0,[],0⟩∧M.length≤L.length∧(L≠ []→M≠ [])∧∀x,x∈M→x∈L
theorem Zhq (M:List Tm) (k:Nat):(Za M).take k=Za (M.take k):=by simp only[Yv,List.map_take]
theorem Zhn {id:Nat} {bx:List Box} (hid:bx[id]? = some (.cells 4 (Za L))) (hok:∀x,x∈L→x.Ok∧x.size≤100000) (hlen:L.length≤100000):∃r H',CO 36 [.own id 4 0 L.length,.fn 203 []] ⟨bx,0,[],0⟩ r H'∧Zrn id bx L r H':=by
 have hlt:=Zy hid;have hself:bx.set id (.cells 4 (Za L))=bx:=by
  refine List.ext_getElem? fun k=>?_;rw[List.getElem?_set];split
  ·rename_i e;subst e;first
    | exact hid.symm
    | (rw[if_pos hlt];exact hid.symm)
  {rfl}
 have hcmp:∀x y,x∈L→y∈L→∀H,CO 203 [.agg x.cells,.agg y.cells] H (.bool (decide (x.cmp y=0))) H:=fun x y hx hy=>ZuY (hok x hx).1 (hok y hy).1 (by have:=(hok x hx).2;omega) (by have:=(hok y hy).2;omega);refine Zw (own:=fun _=>false) tOk fe36.ok ?_;refine Wp.seq ?_;have hblt:∀b:Box,Nat.blt id (bx.set id b).length=true:=fun b=>by rw[List.length_set];exact Nat.ble_eq_true_of_le hlt
 have hsame:Zrn id bx L (.own id 4 0 L.length) ⟨bx,0,[],0⟩:=⟨L,[],rfl,by rw[List.append_nil,hself],Nat.le_refl _,fun h=>h,fun _ h=>h⟩;repeat' first|refine Jb ?_ ?_|refine Jo ?_|intro hb
 {exact RetR.ret rfl hsame};have h2:2≤L.length:=by simp at hb;omega
 refine Wp.while (fun m tm H=>∃(k:Nat) (base:TM),k+m=L.length∧1≤k∧tm=ovr base [(0,.own id 4 0 L.length),(1,.fn 203 []),(5,.int .i64 (k:Int))]∧H=⟨bx,0,[],0⟩)
  (fun m tm H hI=>?_) (L.length-1) _ _ ⟨1,_,by omega,by omega,Zd ⟨rfl,rfl,rfl,trivial⟩,rfl⟩
 obtain⟨k,base,hi,hk1,rfl,rfl⟩:=hI;by_cases hklt:k<L.length
 ·obtain⟨x,hx⟩:∃x,L[k]? = some x:=⟨L[k],by simp⟩;obtain⟨y,hy⟩:∃y,L[k-1]? = some y:=⟨L[k-1]'(by omega),by simp⟩;have hnb:nth bx id=some (.cells 4 (Za L)):=(Zj _ _).trans hid;have hwr:IntKind.i64.wrap ((k:Int)-1)=((k-1:Nat):Int):=by rw[show(k:Int)-1=((k-1:Nat):Int) by omega];exact IntWalk.i64_in _ (by omega)
  have hi1:=Zfv (id:=id) (ix:=0) (len:=L.length) hklt;have hi2:Zz E0 30 (.own id 4 0 L.length) (.int .i64 (IntKind.i64.wrap ((k:Int)-1)))=some (.ptr id 4 (0+(k-1)) 0):=by rw[hwr];exact Zfv (by omega)
  have hl1:Z2 E0 39 (.ptr id 4 (0+k) 0) ⟨bx,0,[],0⟩=some (.agg x.cells):=by rw[Nat.zero_add];exact ZiW hnb hx
  have hl2:Z2 E0 39 (.ptr id 4 (0+(k-1)) 0) ⟨bx,0,[],0⟩=some (.agg y.cells):=by rw[Nat.zero_add];exact ZiW hnb hy
  have hc:=hcmp x y (List.mem_of_getElem? hx) (List.mem_of_getElem? hy);generalize decide (x.cmp y=0)=B at hc;have hsl:=ZpE (id:=id) (Nat.le_of_lt hklt);have hblt0:Nat.blt id bx.length=true:=by have:=hblt (.cells 4 (Za L));rwa [hself]at this
  cases B with
  | false=>(repeat' first|refine Jb ?_ ?_|refine Jo ?_|refine Jd (hc _) ?_|refine JK ?_|(apply dLd;rfl;rfl;rfl;assumption;exact IsV.any _;(first|rfl|(show Nat.blt _ _=true;first|assumption|(simp[Nat.blt];done))))|refine Kb ?_|intro hb);{exact LoopI.go (m-1) (by omega) ⟨k+1,_,by omega,by omega,Zd ⟨rfl,rfl,Zg (Ze (n:=k+1) (by omega)),trivial⟩,rfl⟩};{exfalso;simp at hb;omega}
  | true=>
   (repeat' first|refine JS ?_|refine Jb ?_ ?_|refine Jo ?_|refine Jd (hc _) ?_|refine JK ?_|(apply dLd;rfl;rfl;rfl;assumption;exact IsV.any _;(first|rfl|(show Nat.blt _ _=true;first|assumption|(simp[Nat.blt];done))))|refine Kb ?_|intro hb);rotate_left;{exfalso;simp at hb;omega};clear hc hl1 hl2 hi1 hi2 hx hy hwr;refine Wp.while (fun m2 tm H => ∃(kk k2 : Nat) (M : List Tm) (base : TM), k + k2 + m2 = L.length ∧ k ≤ kk ∧ kk < k + k2 ∧ M.length = L.length ∧ (∀x, x ∈ M → x ∈ L) ∧
     tm=ovr base [(0,.own id 4 0 L.length),(1,.fn 203 []),(5,.int .i64 (kk:Int)),(6,.own id 4 (0+k) (L.length-k)),(7,.int .i64 (k2:Int))]∧H=⟨bx.set id (.cells 4 (Za M)),0,[],0⟩)
    (fun m2 tm H hI=>?_) (L.length-k-1) _ _ ⟨k,1,L,_,by omega,by omega,by omega,rfl,fun _ h=>h,Zd ⟨rfl,rfl,rfl,rfl,rfl,trivial⟩,by rw[hself]⟩
   obtain⟨kk,k2,M,base2,hi2,hk2,hk3,hM,hMm,rfl,rfl⟩:=hI;(have hnb:nth (bx.set id (.cells 4 (Za M))) id=some (.cells 4 (Za M)):=by rw[Zj];simp[hlt]);by_cases hlt2:k2<L.length-k;{obtain⟨x,hx⟩:∃x,M[k+k2]? = some x:=⟨M[k+k2]'(by omega),by simp⟩;obtain⟨y,hy⟩:∃y,M[k+(k2-1)]? = some y:=⟨M[k+(k2-1)]'(by omega),by simp⟩;obtain⟨u,hu⟩:∃u,M[kk]? = some u:=⟨M[kk]'(by omega),by simp⟩;(have hwr:IntKind.i64.wrap ((k2:Int)-1)=((k2-1:Nat):Int):=by rw[show(k2:Int)-1=((k2-1:Nat):Int) by omega];exact IntWalk.i64_in _ (by omega));have hi1:=Zfv (id:=id) (ix:=0+k) hlt2;(have hi2:Zz E0 30 (.own id 4 (0+k) (L.length-k)) (.int .i64 (IntKind.i64.wrap ((k2:Int)-1)))=some (.ptr id 4 (0+k+(k2-1)) 0):=by rw[hwr];exact Zfv (by omega));have hi3:=Zfv (id:=id) (ix:=0) (len:=L.length) (j:=kk) (by omega);(have hl1:Z2 E0 39 (.ptr id 4 (0+k+k2) 0) ⟨bx.set id (.cells 4 (Za M)),0,[],0⟩=some (.agg x.cells):=by rw[Nat.zero_add];exact ZiW hnb hx);(have hl2:Z2 E0 39 (.ptr id 4 (0+k+(k2-1)) 0) ⟨bx.set id (.cells 4 (Za M)),0,[],0⟩=some (.agg y.cells):=by rw[Nat.zero_add];exact ZiW hnb hy);have hc:=hcmp x y (hMm x (List.mem_of_getElem? hx)) (hMm y (List.mem_of_getElem? hy));generalize decide (x.cmp y=0)=B at hc;(have hst:Heap.wr ⟨bx.set id (.cells 4 (Za M)),0,[],0⟩ (.ptr id 4 (0+kk) 0) x.cells=some ⟨bx.set id (.cells 4 (Za (M.set kk x))),0,[],0⟩:=by rw[Nat.zero_add,Zqp hnb hu (Nat.zero_le _),List.set_set]);have hblt2:=hblt (.cells 4 (Za M));(have hset:∀z,z∈M.set kk x→z∈L:=fun z hz=>by rcases List.mem_or_eq_of_mem_set hz with h|h;{exact hMm z h};{rw[h];exact hMm x (List.mem_of_getElem? hx)});obtain⟨k',nm',s',b',kz'⟩:=x;simp only[Tm.cells]at hst hl1;(repeat' first|refine JJ ?_|refine Ki ?_|refine Jb ?_ ?_|refine Jo ?_|refine Jd (hc _) ?_|refine JK ?_|(apply dLd;rfl;rfl;rfl;assumption;exact IsV.any _;(first|rfl|(show Nat.blt _ _=true;first|assumption|(simp[Nat.blt];done))))|(apply dB (ty:=4);rfl;rfl;rfl;rfl)|refine Kb ?_|intro hb);{exact LoopI.go (m2-1) (by omega) ⟨kk+1,k2+1,_,_,by omega,by omega,by omega,by rw[List.length_set];exact hM,hset,Zd ⟨rfl,rfl,Zg (Ze (n:=kk+1) (by omega)),rfl,Zg (Ze (n:=k2+1) (by omega)),trivial⟩,rfl⟩};{exact LoopI.go (m2-1) (by omega) ⟨kk,k2+1,M,_,by omega,by omega,by omega,hM,hMm,Zd ⟨rfl,rfl,rfl,rfl,Zg (Ze (n:=k2+1) (by omega)),trivial⟩,rfl⟩};{exfalso;simp at hb;omega}};{(have e2:k2=L.length-k:=by omega);subst e2;have hsl2:=ZpE (id:=id) (k:=kk) (n:=L.length) (by omega);have hsl3:=ZsB (id:=id) (k:=kk) (n:=L.length) (by omega);(have hclr:∃D,ZaT E0 30 (.own id 4 (0+kk) (L.length-kk)) ⟨bx.set id (.cells 4 (Za M)),0,[],0⟩=some (.tup [],⟨bx.set id (.cells 4 (Za (M.take kk)++D)),0,[],0⟩):=by have h:=ZlU (E:=E0) (t:=30) (e:=39) (es:=4) (el:=Za M) (ix:=0+kk) (len:=L.length-kk) (H:=⟨bx.set id (.cells 4 (Za M)),0,[],0⟩) rfl rfl rfl rfl rfl (by decide) rfl hnb (Nat.zero_le _) (by rw[Zb];omega);rw[List.set_set,Nat.zero_add,Zhq]at h;rw[Nat.zero_add];exact⟨_,h⟩);obtain⟨D,hclr⟩:=hclr;(have hlt3:(M.take kk).length=kk:=by rw[List.length_take];omega);(repeat' first|refine JS ?_|(apply Zw6;rfl;rfl;assumption)|refine Jb ?_ ?_|refine Jo ?_|refine Kb ?_|intro hb);{exfalso;simp at hb};{refine RetR.ret rfl ⟨M.take kk,D,by rw[hlt3];rfl,rfl,by omega,fun _ h=>?_,fun x hx=>hMm x (List.mem_of_mem_take hx)⟩;rw[h]at hlt3;simp at hlt3;omega}}
 ·have e:k=L.length:=by omega
  subst e;repeat' first|refine Jb ?_ ?_|refine Jo ?_|refine Kb ?_|intro hb
  {exfalso;simp at hb};{exact RetR.ret rfl hsame}
theorem Zls (t:Tm) (w:Bs):∀H,CO 217 [.agg t.cells,.str w] H (.bool (isA t w)) H:=by
 obtain⟨k,nm,s,b,kz⟩:=t;simp only[Tm.cells];refine Jw tOk fe217.ok rfl ?_ (by simp[ZG,frzG,XK,frz1]);repeat' first|refine Jk ?_|refine Jt ?_|refine Jb ?_ ?_|refine Jo ?_|intro hb
 all_goals simp_all[isA]
theorem ZuJ (t:Tm):∀H,CO 240 [.agg t.cells] H (.bool t.sym) H:=by
 obtain⟨k,nm,s,b,kz⟩:=t;simp only[Tm.cells,Tm.sym];refine Jw tOk fe240.ok rfl ?_;repeat' first|refine Jk ?_|refine Jt ?_|refine Jb ?_ ?_|refine Jo ?_|intro hb
 all_goals simp_all[Zbh,Uk,VM,Uz]
theorem ZtZ (t:Tm):∀H,CO 259 [.agg t.cells] H (.bool t.sym) H:=by
 obtain⟨k,nm,s,b,kz⟩:=t;simp only[Tm.cells,Tm.sym];refine Jw tOk fe259.ok rfl ?_;repeat' first|refine Jk ?_|refine Jt ?_|refine Jb ?_ ?_|refine Jo ?_|intro hb
 all_goals simp_all[Zbh,Uk,VM,Uz]
theorem ZrN (ht:t.Ok∧t.size≤100000) (hu:u.Ok∧u.size≤100000):∀H,CO 162 [.agg t.cells,.agg u.cells] H (.bool (decide (t.cmp u=0))) H:=by
 have hc:=ZrO ht hu;generalize t.cmp u=c at hc ⊢;obtain⟨k,nm,s,b,kz⟩:=t;obtain⟨k',nm',s',b',kz'⟩:=u;simp only[Tm.cells]at hc ⊢;refine Jw tOk fe162.ok rfl ?_;repeat' first|refine Jc (hc _) ?_|refine Jt ?_|refine Jb ?_ ?_|refine Jo ?_|intro hb
 all_goals simp_all
theorem ZdY (b:Bool) (el:List (List PV)):slV b 4 el= .nils∨∃el',slV b 4 el= .sl .none 4 el':=by
 cases el with
 | nil => cases b with
   | true=>exact .inl (Zi 4)
   | false=>exact .inr ⟨[],ZE 4⟩
 |cons x r=>exact .inr ⟨x::r,Zr _ _ _ _⟩
theorem ZwD (nm:Bs) (l:List Tm) (b:Bool):∀H,CO 228 [.str nm,slV b 4 (Za l)] H (.agg (Tm.mk 3 nm 0 b l).cells) H:=by
 simp only[Tm.cells];rcases ZdY b (Za l) with e|⟨el,e⟩;all_goals
  rw[e]
  refine Jw tOk fe228.ok rfl ?_
  repeat' first|refine Jo ?_|fail
  rfl
theorem Zsa (nm:Bs) (l:List Tm) (b:Bool):∀H,CO 225 [.str nm,slV b 4 (Za l)] H (.agg (Tm.mk 3 nm 0 b l).cells) H:=by
 simp only[Tm.cells];rcases ZdY b (Za l) with e|⟨el,e⟩;all_goals
  rw[e]
  refine Jw tOk fe225.ok rfl ?_
  repeat' first|refine Jo ?_|fail
  rfl
def pwC (x:Pw):List PV:=x.1.cells++ [.int .i64 x.2]
theorem ZwC {x:Pw} (ht:x.1.Ok∧x.1.size≤100000) (hu:u.Ok∧u.size≤100000):∀H,CO 253 [.agg (pwC x),.agg u.cells] H (.int .i64 (x.1.cmp u)) H:=by
 have hc:=ZrO ht hu;obtain⟨t,n⟩:=x;simp only at hc ⊢;generalize t.cmp u=c at hc ⊢;obtain⟨k,nm,s,b,kz⟩:=t;obtain⟨k',nm',s',b',kz'⟩:=u;simp only[Tm.cells,pwC,List.cons_append,List.nil_append]at hc ⊢;refine Jw tOk fe253.ok rfl ?_;repeat' first|refine Jc (hc _) ?_|refine Jo ?_|fail
 all_goals rfl
theorem Xg (h:a.okA=true) (hp:isA a nm=true) (hn:((nm==XE)||(nm==Zfz)||(nm==V5)||(nm==Xs)||(nm==YN))=true):∃b x y,a= .mk 3 nm 0 b [x,y]:=by
 obtain⟨k,nm',s,b,kz⟩:=a;simp only[isA,Bool.and_eq_true,decide_eq_true_eq,beq_iff_eq]at hp;obtain⟨rfl,rfl⟩:=hp;simp only[Tm.okA,if_pos,Bool.and_eq_true,decide_eq_true_eq]at h;obtain⟨⟨rfl,h1⟩,_⟩:=h;simp only[ZoG,Bool.and_eq_true,hn,if_true,decide_eq_true_eq]at h1;match kz,h1.1 with
 | [x,y],_=>exact⟨b,x,y,rfl⟩
theorem VS (b:Bool) (x y:Tm):slV b 4 (Za [x,y])= .sl .none 4 [x.cells,y.cells]:=Zr _ _ _ _
theorem ZbH (b:Bool) (x:Tm):slV b 4 (Za [x])= .sl .none 4 [x.cells]:=Zr _ _ _ _
theorem ZoL (ha:a.okA=true) (b:Bool):∀H,CO 205 [.agg (Tm.mk 3 UA 0 b [a]).cells] H (.agg (Xy (.mk 3 UA 0 b [a])).cells) H:=by
 have hi:=Zls a XE;have hd:Xy (.mk 3 UA 0 b [a])=if isA a XE=true then a.kd 0 else .mk 3 UA 0 b [a]:=by unfold Xy Zc7;simp[Zey,Tm.nm,Tm.kd,UA,Uc,VZ,YM,YP,Y3]
 rw[hd];cases hp:isA a XE with
 |true=>
  rw[hp]at hi;obtain⟨b1,x,y,rfl⟩:=Xg ha hp rfl;rw[if_pos rfl];show ∀H,CO 205 _ H (.agg (Tm.cells x)) H;obtain⟨k1,n1,s1,f1,l1⟩:=x;obtain⟨k2,n2,s2,f2,l2⟩:=y;simp only[Tm.cells,VS,ZbH,UA,XE]at hi ⊢;refine Jw tOk fe205.ok (Yb _ _ _ _ _ _ _) ?_;repeat' first|refine Jc (hi _) ?_|refine Ka ?_|fail
  all_goals first
   | exact Yb _ _ _ _ _ _ _
   | (exfalso;simp at hb;done)
 |false=>
  rw[hp]at hi;rw[if_neg (by decide)];obtain⟨k1,n1,s1,f1,l1⟩:=a;simp only[Tm.cells,ZbH,UA]at hi ⊢;refine Jw tOk fe205.ok rfl ?_;repeat' first|refine Jc (hi _) ?_|refine Ka ?_|fail
  all_goals first
   | rfl
   | (exfalso;simp at hb;done)
theorem Zpf (ha:a.okA=true) (b:Bool):∀H,CO 205 [.agg (Tm.mk 3 Uc 0 b [a]).cells] H (.agg (Xy (.mk 3 Uc 0 b [a])).cells) H:=by
 have hi:=Zls a XE;have hd:Xy (.mk 3 Uc 0 b [a])=if isA a XE=true then a.kd 1 else .mk 3 Uc 0 b [a]:=by unfold Xy Zc7;simp[Zey,Tm.nm,Tm.kd,UA,Uc,VZ,YM,YP,Y3]
 rw[hd];cases hp:isA a XE with
 |true=>
  rw[hp]at hi;obtain⟨b1,x,y,rfl⟩:=Xg ha hp rfl;rw[if_pos rfl];show ∀H,CO 205 _ H (.agg (Tm.cells y)) H;obtain⟨k1,n1,s1,f1,l1⟩:=x;obtain⟨k2,n2,s2,f2,l2⟩:=y;simp only[Tm.cells,VS,ZbH,Uc,XE]at hi ⊢;refine Jw tOk fe205.ok (Yb _ _ _ _ _ _ _) ?_;repeat' first|refine Jc (hi _) ?_|refine Ka ?_|fail
  all_goals first
   | exact Yb _ _ _ _ _ _ _
   | (exfalso;simp at hb;done)
 |false=>
  rw[hp]at hi;rw[if_neg (by decide)];obtain⟨k1,n1,s1,f1,l1⟩:=a;simp only[Tm.cells,ZbH,Uc]at hi ⊢;refine Jw tOk fe205.ok rfl ?_;repeat' first|refine Jc (hi _) ?_|refine Ka ?_|fail
  all_goals first
   | rfl
   | (exfalso;simp at hb;done)
theorem Zmg (ha:a.okA=true) (b:Bool):∀H,CO 205 [.agg (Tm.mk 3 Y3 0 b [a]).cells] H (.agg (Xy (.mk 3 Y3 0 b [a])).cells) H:=by
 have hi:=Zls a Xs;have hd:Xy (.mk 3 Y3 0 b [a])=if isA a Xs=true then a.kd 0 else .mk 3 Y3 0 b [a]:=by unfold Xy Zc7;simp[Zey,Tm.nm,Tm.kd,UA,Uc,VZ,YM,YP,Y3]
 rw[hd];cases hp:isA a Xs with
 |true=>
  rw[hp]at hi;obtain⟨b1,x,y,rfl⟩:=Xg ha hp rfl;rw[if_pos rfl];show ∀H,CO 205 _ H (.agg (Tm.cells x)) H;obtain⟨k1,n1,s1,f1,l1⟩:=x;obtain⟨k2,n2,s2,f2,l2⟩:=y;simp only[Tm.cells,VS,ZbH,Y3,Xs]at hi ⊢;refine Jw tOk fe205.ok (Yb _ _ _ _ _ _ _) ?_;repeat' first|refine Jc (hi _) ?_|refine Ka ?_|fail
  all_goals first
   | exact Yb _ _ _ _ _ _ _
   | (exfalso;simp at hb;done)
 |false=>
  rw[hp]at hi;rw[if_neg (by decide)];obtain⟨k1,n1,s1,f1,l1⟩:=a;simp only[Tm.cells,ZbH,Y3]at hi ⊢;refine Jw tOk fe205.ok rfl ?_;repeat' first|refine Jc (hi _) ?_|refine Ka ?_|fail
  all_goals first
   | rfl
   | (exfalso;simp at hb;done)
theorem Ub {k:Int} {s:Int} {b:Bool} {kz:List Tm} (h:(Tm.mk k nm s b kz).Ok∧(Tm.mk k nm s b kz).size≤100000) {x:Tm} (hx:x∈kz):x.Ok∧x.size≤100000:=⟨h.1.kid hx,by
 have h1:=Ya hx
 have h2:=h.2
 rw[Tm.size]at h2
 omega⟩
theorem Zor (ha:a.okA=true) (hk:key.okA=true) (ha':a.Ok∧a.size≤100000) (hk':key.Ok∧key.size≤100000) (b:Bool):∀H,CO 205 [.agg (Tm.mk 3 VZ 0 b [a,key]).cells] H (.agg (Xy (.mk 3 VZ 0 b [a,key])).cells) H:=by
 have hi:=Zls a Zfz;have hd:Xy (.mk 3 VZ 0 b [a,key])=if(isA a Zfz&&decide ((a.kd 1).cmp key=0))=true then a.kd 0 else .mk 3 VZ 0 b [a,key]:=by unfold Xy Zc7;simp[Zey,Tm.nm,Tm.kd,UA,Uc,VZ,YM,YP,Y3]
 rw[hd];cases hp:isA a Zfz with
 |false=>
  rw[hp]at hi;rw[if_neg (by simp)];obtain⟨k1,n1,s1,f1,l1⟩:=a;obtain⟨k2,n2,s2,f2,l2⟩:=key;simp only[Tm.cells,VS,VZ]at hi ⊢;refine Jw tOk fe205.ok rfl ?_;repeat' first|refine Kt ?_|refine Jd (hi _) ?_|refine Kr ?_|fail
  all_goals first
   | exact Yb _ _ _ _ _ _ _
   | rfl
   | (exfalso;simp at hb;done)
 |true=>
  rw[hp]at hi;obtain⟨b1,x,y,rfl⟩:=Xg ha hp rfl;have hs:=ZrN (Ub ha' (x:=y) (by simp)) hk';show ∀H,CO 205 _ H (.agg (Tm.cells (if(true&&decide (y.cmp key=0))=true then x else _))) H;rw[Bool.true_and];generalize decide (y.cmp key=0)=c at hs ⊢;obtain⟨k1,n1,s1,f1,l1⟩:=x;obtain⟨k2,n2,s2,f2,l2⟩:=y;obtain⟨k3,n3,s3,f3,l3⟩:=key;cases c
  ·rw[if_neg (by decide)];simp only[Tm.cells,VS,VZ,Zfz]at hi hs ⊢;refine Jw tOk fe205.ok rfl ?_;(repeat' first|refine Ka ?_|refine Jd (hi _) ?_|refine Jd (hs _) ?_|refine KC ?_|fail);all_goals first
    | exact Yb _ _ _ _ _ _ _
    | rfl
    | (exfalso;simp at hb;done)
  ·rw[if_pos rfl];simp only[Tm.cells,VS,VZ,Zfz]at hi hs ⊢;refine Jw tOk fe205.ok (Yb _ _ _ _ _ _ _) ?_;(repeat' first|refine Ka ?_|refine Jd (hi _) ?_|refine Jd (hs _) ?_|refine KV ?_|fail);all_goals first
    | exact Yb _ _ _ _ _ _ _
    | rfl
    | (exfalso;simp at hb;done)
theorem Zmr (ha:a.okA=true) (hk:key.okA=true) (ha':a.Ok∧a.size≤100000) (hk':key.Ok∧key.size≤100000) (b:Bool):∀H,CO 205 [.agg (Tm.mk 3 YM 0 b [a,key]).cells] H (.agg (Xy (.mk 3 YM 0 b [a,key])).cells) H:=by
 have hi:=Zls a V5;have hd:Xy (.mk 3 YM 0 b [a,key])=if(isA a V5&&isA (a.kd 1) pkN&&decide (((a.kd 1).kd 0).cmp key=0))=true then a.kd 0 else .mk 3 YM 0 b [a,key]:=by unfold Xy Zc7;simp[Zey,Tm.nm,Tm.kd,UA,Uc,VZ,YM,YP,Y3]
 rw[hd];cases hp:isA a V5 with
 |false=>
  rw[hp]at hi;rw[if_neg (by simp)];obtain⟨k1,n1,s1,f1,l1⟩:=a;obtain⟨k2,n2,s2,f2,l2⟩:=key;simp only[Tm.cells,VS,YM]at hi ⊢;refine Jw tOk fe205.ok rfl ?_;repeat' first|refine Kt ?_|refine Jd (hi _) ?_|refine Kr ?_|fail
  all_goals first
   | exact Yb _ _ _ _ _ _ _
   | rfl
   | (exfalso;simp at hb;done)
 |true=>
  rw[hp]at hi;obtain⟨b1,x,y,rfl⟩:=Xg ha hp rfl;have hy:=Ub ha' (x:=y) (by simp);have hyA:=UT ha y (by simp);have hj:=Zls y pkN;show ∀H,CO 205 _ H (.agg (Tm.cells (if(true&&isA y pkN&&decide ((y.kd 0).cmp key=0))=true then x else _))) H;rw[Bool.true_and];cases hq:isA y pkN with
  | false=>
   rw[hq]at hj;rw[if_neg (by simp)];obtain⟨k1,n1,s1,f1,l1⟩:=x;obtain⟨k2,n2,s2,f2,l2⟩:=y;obtain⟨k3,n3,s3,f3,l3⟩:=key;simp only[Tm.cells,VS,YM,V5]at hi hj ⊢;refine Jw tOk fe205.ok rfl ?_;(repeat' first|refine Kt ?_|refine Jd (hi _) ?_|refine Jd (hj _) ?_|refine KC ?_|fail);all_goals first
    | exact Yb _ _ _ _ _ _ _
    | rfl
    | (exfalso;simp at hb;done)
  | true=>
   rw[hq]at hj;obtain⟨b2,z,rfl⟩:=Zku hyA hq;have hs:=ZrN (Ub hy (x:=z) (by simp)) hk';rw[Bool.true_and];show ∀H,CO 205 _ H (.agg (Tm.cells (if decide (z.cmp key=0)=true then x else _))) H;generalize decide (z.cmp key=0)=c at hs ⊢;obtain⟨k1,n1,s1,f1,l1⟩:=x;obtain⟨k2,n2,s2,f2,l2⟩:=z;obtain⟨k3,n3,s3,f3,l3⟩:=key;cases c
   ·rw[if_neg (by decide)];simp only[Tm.cells,VS,ZbH,YM,V5,pkN]at hi hj hs ⊢;refine Jw tOk fe205.ok rfl ?_;(repeat' first|refine Ka ?_|(apply dCl;rfl;rfl;rfl;rfl;rfl;first|exact hi _|exact hj _|exact hs _)|refine KC ?_|fail);all_goals first
     | exact Yb _ _ _ _ _ _ _
     | rfl
     | (exfalso;simp at hb;done)
   ·rw[if_pos rfl];simp only[Tm.cells,VS,ZbH,YM,V5,pkN]at hi hj hs ⊢;refine Jw tOk fe205.ok (Yb _ _ _ _ _ _ _) ?_;(repeat' first|refine Ka ?_|(apply dCl;rfl;rfl;rfl;rfl;rfl;first|exact hi _|exact hj _|exact hs _)|refine KV ?_|fail);all_goals first
     | exact Yb _ _ _ _ _ _ _
     | rfl
     | (exfalso;simp at hb;done)
theorem Zlf (ha:a.okA=true) (hk:key.okA=true) (ha':a.Ok∧a.size≤100000) (hk':key.Ok∧key.size≤100000) (b:Bool):∀H,CO 205 [.agg (Tm.mk 3 YP 0 b [a,key]).cells] H (.agg (Xy (.mk 3 YP 0 b [a,key])).cells) H:=by
 have hi:=Zls a Xs;have hd:Xy (.mk 3 YP 0 b [a,key])=if(isA a Xs&&isA key pkN&&decide ((a.kd 1).cmp (key.kd 0)=0))=true then a.kd 0 else .mk 3 YP 0 b [a,key]:=by unfold Xy Zc7;simp[Zey,Tm.nm,Tm.kd,UA,Uc,VZ,YM,YP,Y3]
 rw[hd];cases hp:isA a Xs with
 |false=>
  rw[hp]at hi;rw[if_neg (by simp)];obtain⟨k1,n1,s1,f1,l1⟩:=a;obtain⟨k2,n2,s2,f2,l2⟩:=key;simp only[Tm.cells,VS,YP]at hi ⊢;refine Jw tOk fe205.ok rfl ?_;repeat' first|refine Kt ?_|refine Jd (hi _) ?_|refine Kr ?_|fail
  all_goals first
   | exact Yb _ _ _ _ _ _ _
   | rfl
   | (exfalso;simp at hb;done)
 |true=>
  rw[hp]at hi;obtain⟨b1,x,y,rfl⟩:=Xg ha hp rfl;have hj:=Zls key pkN;show ∀H,CO 205 _ H (.agg (Tm.cells (if(true&&isA key pkN&&decide (y.cmp (key.kd 0)=0))=true then x else _))) H;rw[Bool.true_and];cases hq:isA key pkN with
  | false=>
   rw[hq]at hj;rw[if_neg (by simp)];obtain⟨k1,n1,s1,f1,l1⟩:=x;obtain⟨k2,n2,s2,f2,l2⟩:=y;obtain⟨k3,n3,s3,f3,l3⟩:=key;simp only[Tm.cells,VS,YP,Xs]at hi hj ⊢;refine Jw tOk fe205.ok rfl ?_;(repeat' first|refine Kt ?_|refine Jd (hi _) ?_|refine Jd (hj _) ?_|refine KC ?_|fail);all_goals first
    | exact Yb _ _ _ _ _ _ _
    | rfl
    | (exfalso;simp at hb;done)
  | true=>
   rw[hq]at hj;obtain⟨b2,z,rfl⟩:=Zku hk hq;have hs:=ZrN (Ub ha' (x:=y) (by simp)) (Ub hk' (x:=z) (by simp));rw[Bool.true_and];show ∀H,CO 205 _ H (.agg (Tm.cells (if decide (y.cmp z=0)=true then x else _))) H;generalize decide (y.cmp z=0)=c at hs ⊢;obtain⟨k1,n1,s1,f1,l1⟩:=x;obtain⟨k2,n2,s2,f2,l2⟩:=y;obtain⟨k3,n3,s3,f3,l3⟩:=z;cases c
   ·rw[if_neg (by decide)];simp only[Tm.cells,VS,ZbH,YP,Xs,pkN]at hi hj hs ⊢;refine Jw tOk fe205.ok rfl ?_;(repeat' first|refine Ka ?_|(apply dCl;rfl;rfl;rfl;rfl;rfl;first|exact hi _|exact hj _|exact hs _)|refine KC ?_|fail);all_goals first
     | exact Yb _ _ _ _ _ _ _
     | rfl
     | (exfalso;simp at hb;done)
   ·rw[if_pos rfl];simp only[Tm.cells,VS,ZbH,YP,Xs,pkN]at hi hj hs ⊢;refine Jw tOk fe205.ok (Yb _ _ _ _ _ _ _) ?_;(repeat' first|refine Ka ?_|(apply dCl;rfl;rfl;rfl;rfl;rfl;first|exact hi _|exact hj _|exact hs _)|refine KV ?_|fail);all_goals first
     | exact Yb _ _ _ _ _ _ _
     | rfl
     | (exfalso;simp at hb;done)
theorem Zuk {l:List α} (h:l.length=1):∃a,l= [a]:=by
 match l,h with
 | [a],_=>exact⟨a,rfl⟩
theorem ZrP {l:List α} (h:l.length=2):∃a b,l= [a,b]:=by
 match l,h with
 | [a,b],_=>exact⟨a,b,rfl⟩
theorem Zcj (h:(YI nm).kind=3):((nm=UA∨nm=Uc∨nm=Y3)∧(YI nm).least=1∧(YI nm).most=1)∨((nm=VZ∨nm=YM∨nm=YP)∧(YI nm).least=2∧(YI nm).most=2):=by rcases Zav nm with e|⟨e1,e2⟩;{rw[e]at h;exact absurd h (by decide)};{rw[← e2];rw[e2];revert h;have e3:=e2;generalize YI nm=s at e1 e2 e3 ⊢;simp only[Zbj,List.mem_cons,List.not_mem_nil,or_false]at e1;rcases e1 with rfl|rfl|rfl|rfl|rfl|rfl|rfl|rfl|rfl|rfl|rfl|rfl|rfl|rfl|rfl|rfl|rfl|rfl|rfl|rfl|rfl<;>intro h<;>first|exact absurd h (by decide)|(subst e2;first|exact .inl ⟨.inl rfl,rfl,rfl⟩|exact .inl ⟨.inr (.inl rfl),rfl,rfl⟩|exact .inl ⟨.inr (.inr rfl),rfl,rfl⟩|exact .inr ⟨.inl rfl,rfl,rfl⟩|exact .inr ⟨.inr (.inl rfl),rfl,rfl⟩|exact .inr ⟨.inr (.inr rfl),rfl,rfl⟩)}
theorem ZwO {ks:List Tm} (h0:(YI nm).kind=3) (h1:(YI nm).least≤ks.length) (h2:(ks.length:Int)≤(YI nm).most) (hA:∀x,x∈ks→x.okA=true) (hS:SmL ks) (b:Bool):∀H,CO 205 [.agg (Tm.mk 3 nm 0 b ks).cells] H (.agg (Xy (.mk 3 nm 0 b ks)).cells) H:=by rcases Zcj h0 with⟨hn,e1,e2⟩|⟨hn,e1,e2⟩;{rw[e1]at h1;rw[e2]at h2;obtain⟨a,rfl⟩:=Zuk (l:=ks) (by omega);have ha:=hA a (by simp);rcases hn with rfl|rfl|rfl;{exact ZoL ha b};{exact Zpf ha b};{exact Zmg ha b}};{rw[e1]at h1;rw[e2]at h2;obtain⟨a,key,rfl⟩:=ZrP (l:=ks) (by omega);have ha:=hA a (by simp);have hk:=hA key (by simp);have ha':=hS a (by simp);have hk':=hS key (by simp);rcases hn with rfl|rfl|rfl;{exact Zor ha hk ha' hk' b};{exact Zmr ha hk ha' hk' b};{exact Zlf ha hk ha' hk' b}}
