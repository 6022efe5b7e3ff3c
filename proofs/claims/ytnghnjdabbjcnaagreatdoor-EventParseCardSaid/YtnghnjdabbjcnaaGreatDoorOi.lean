/-
  slices.Insert at powers, one power ahead of others: both roads.
-/
import Derived.Test.YtnghnjdabbjcnaaGreatDoorTv
import Derived.Shelf.Spec.SlicesInsertGrow
set_option maxHeartbeats 0
set_option maxRecDepth 100000
namespace Go.Vm.Seat
variable {d e k lvl s:Int} {nm:List UInt8} {i n:Nat} {b:Bool} {kz l:List Tm} {t:Tm} {A:Box}
open Go.Proofs
theorem Zkv (h:¬ (k=1∨k=2∨k=3)∨s<0∨5<s∨(k=3∧s≠0)∨(k≠3∧0<n)):YW k nm s n=1:=if_pos h
theorem ZjY (h:¬ (¬ (k=1∨k=2∨k=3)∨s<0∨5<s∨(k=3∧s≠0)∨(k≠3∧0<n))) (h2:Z5 nm=false):YW k nm s n=2:=by unfold YW;rw[if_neg h,if_pos h2]
theorem ZiY (h:¬ (¬ (k=1∨k=2∨k=3)∨s<0∨5<s∨(k=3∧s≠0)∨(k≠3∧0<n))) (h2:Z5 nm=true) (h3:8<n):YW k nm s n=3:=by unfold YW;rw[if_neg h,if_neg (by simp[h2]),if_pos h3]
theorem ZiZ (h:¬ (¬ (k=1∨k=2∨k=3)∨s<0∨5<s∨(k=3∧s≠0)∨(k≠3∧0<n))) (h2:Z5 nm=true) (h3:¬ 8<n):YW k nm s n=0:=by unfold YW;rw[if_neg h,if_neg (by simp[h2]),if_neg h3]
theorem Zaq {n:Int} (h:YW k nm s kz.length=e) (he:e≠0):(Tm.mk k nm s b kz).check lvl n d=(e,n+1,if d<lvl then lvl else d):=by simp only[Tm.check];rw[h,if_pos he]
theorem ZkY {n:Int} (h:YW k nm s kz.length=0):(Tm.mk k nm s b kz).check lvl n d=Xm kz (lvl+1) (n+1) (if d<lvl then lvl else d):=by simp only[Tm.check];rw[h,if_neg (by simp)]
theorem ZeX {n n' d':Int} (h:l[i]? = some t) (hc:t.check lvl n d=(e,n',d')):Xm (l.drop i) lvl n d=if e≠0 then(e,n',d') else Xm (l.drop (i+1)) lvl n' d':=by rw[ZB h];simp only[Xm,hc]
theorem ZhJ (h:l[i]? = some t):Zm (l.drop i)=t.size+Zm (l.drop (i+1)):=by rw[ZB h];simp only[Zm]
mutual
theorem Qo {n m:Nat} (h:n≤m):∀{p:PV},under n p=true→under m p=true
 | .ptr id _ _ _,hp=>by simp only[under,Nat.blt_eq]at *;omega
 | .own id _ _ _,hp=>by simp only[under,Nat.blt_eq]at *;omega
 | .map id,hp=>by simp only[under,Nat.blt_eq]at *;omega
 | .agg cs,hp=>by simp only[under]at *;exact Xt h hp
 | .tup cs,hp=>by simp only[under]at *;exact Xt h hp
 | .fn _ cs,hp=>by simp only[under]at *;exact Xt h hp
 | .undef,_| .bool _,_| .int _ _,_| .str _,_| .sl _ _ _,_| .fptr _ _,_| .nilp,_| .nils,_| .nilm,_| .nilf,_| .nili,_| .ifc,_=>rfl
theorem Xt {n m:Nat} (h:n≤m):∀{l:List PV},ZC n l=true→ZC m l=true
 | [],_=>rfl
 |p::r,hl=>by simp only[ZC,Bool.and_eq_true]at *;exact⟨Qo h hl.1,Xt h hl.2⟩
end
theorem ZdG {m:Nat} (h:n≤m) {b:Box} (hb:Ys n b=true):Ys m b=true:=by
 cases b with
 |cells es el=>exact List.all_eq_true.2 fun x hx=>Xt h (List.all_eq_true.1 hb x hx)
 |map es=>refine List.all_eq_true.2 fun x hx=>?_;have:=List.all_eq_true.1 hb x hx;simp only[Bool.and_eq_true]at this ⊢;exact⟨Qo h this.1,Qo h this.2⟩
 |sp t cs=>exact Xt h hb
 |dead=>rfl
theorem ZbU (hA:Ys n A=true) (k k':IntKind) (x y:Int):[A,.cells 1 [[.int k x]],.cells 1 [[.int k' y]]].all (Ys n)=true:=by simp only[List.all_cons,hA];rfl
theorem ZpP {B:Box} (hA:Ys n A=true) (k k':IntKind) (x y:Int) (hB:Ys n B=true):[A,.cells 1 [[.int k x]],.cells 1 [[.int k' y]],B].all (Ys n)=true:=by simp only[List.all_cons,hA,hB];rfl
theorem c98 (ht:t.Ok):∀{A:Box},Ys 3 A=true→∀{lvl n d:Int},0≤lvl→lvl+t.size<4611686018427387904→0≤n→n+t.size<4611686018427387904→0≤d→d<4611686018427387904→CO 98 [.agg t.cells,.int .i64 lvl,.ptr 1 1 0 0,.ptr 2 1 0 0] ⟨[A,.cells 1 [[.int .i64 n]],.cells 1 [[.int .i64 d]]],0,[],0⟩ (.int .i64 (t.check lvl n d).1) ⟨[A,.cells 1 [[.int .i64 (t.check lvl n d).2.1]],.cells 1 [[.int .i64 (t.check lvl n d).2.2]]],0,[],0⟩:=by
 induction ht with
 | @mk k nm s b kz hk hs hn hl hok ih=>
 intro A hA lvl n d hl0 hl1 hn0 hn1 hd0 hd1;simp only[Tm.size]at hl1 hn1;obtain⟨e,n',d',hchk⟩:∃e n' d',(Tm.mk k nm s b kz).check lvl n d=(e,n',d'):=⟨_,_,_,rfl⟩;rw[hchk];have hw:IntKind.i64.wrap (n+1)=n+1:=IntWalk.i64_in _ (by omega);have hw2:IntKind.i64.wrap (lvl+1)=lvl+1:=IntWalk.i64_in _ (by omega);have hc:=c145 nm hn;obtain⟨N,hN⟩:∃N,N=Z5 nm:=⟨_,rfl⟩;rw[← hN]at hc;refine ZhP (own:=fun _=>false) tOk fe98.ok ?_;refine Wp.seq ?_;repeat' first|refine Jk ?_|refine Jc (hc _) ?_|refine Ky ?_|refine Jb ?_ ?_|refine Jo ?_|intro hb
 all_goals first
  | (have h0 := Zkv (k := k) (nm := nm) (s := s) (n := kz.length) (by clear ih hok hc hchk; simp only[Zb, beq_iff_eq, bne_iff_ne, decide_eq_true_eq, decide_eq_false_iff_not, beq_eq_false_iff_ne, bne_eq_false_iff_eq]at *; omega)
     cases hchk.symm.trans (Zaq h0 (by decide))
     exact DropF.ret [(8,.int .i64 1)] ⟨rfl,trivial⟩ rfl rfl (ZbU hA _ _ _ _) (RetE.ret rfl rfl (by rw[hw];rfl)))
  | (have h0 := ZjY (k := k) (nm := nm) (s := s) (n := kz.length) (by clear ih hok hc hchk; simp only[Zb, beq_iff_eq, decide_eq_true_eq, decide_eq_false_iff_not, beq_eq_false_iff_ne, bne_eq_false_iff_eq]at *; omega) (by rw[← hN]; simpa using hb)
     cases hchk.symm.trans (Zaq h0 (by decide))
     exact DropF.ret [(8,.int .i64 2)] ⟨rfl,trivial⟩ rfl rfl (ZbU hA _ _ _ _) (RetE.ret rfl rfl (by rw[hw];rfl)))
  | (have h0 := ZiY (k := k) (nm := nm) (s := s) (n := kz.length) (by clear ih hok hc hchk; simp only[Zb, beq_iff_eq, decide_eq_true_eq, decide_eq_false_iff_not, beq_eq_false_iff_ne, bne_eq_false_iff_eq]at *; omega) (by rw[← hN]; simpa using ‹(!N) = false›) (by simp[Zb]at hb; omega)
     cases hchk.symm.trans (Zaq h0 (by decide))
     exact DropF.ret [(8,.int .i64 3)] ⟨rfl,trivial⟩ rfl rfl (ZbU hA _ _ _ _) (RetE.ret rfl rfl (by rw[hw];rfl)))
  | skip
 all_goals
  have h0:YW k nm s kz.length=0:=ZiZ (by clear ih hok hc hchk;simp only[Zb,beq_iff_eq,decide_eq_false_iff_not,beq_eq_false_iff_ne,bne_eq_false_iff_eq]at *;omega) (by rw[← hN];simpa using ‹(!N)=false›) (by simp[Zb]at hb;omega)
  have hgo:=hchk.symm.trans (ZkY h0)
  clear hchk hc h0
  refine Wp.while (fun m tm H=>∃(i:Nat),∃base,∃n1 d1:Int,i+m=kz.length∧(e,n',d')=Xm (kz.drop i) (lvl+1) n1 d1∧0≤n1∧n1+Zm (kz.drop i)<4611686018427387904∧0≤d1∧d1<4611686018427387904∧tm=ovr base [(1,.int .i64 lvl),(2,.ptr 1 1 0 0),(3,.ptr 2 1 0 0),(57,slV b 4 (Za kz)),(58,.int .i64 (kz.length:Int)),(59,.int .i64 (i:Int))]∧H=⟨[A,.cells 1 [[.int .i64 n1]],.cells 1 [[.int .i64 d1]],.cells 4 [[.int .i64 k,.str nm,.int .i64 s,slV b 4 (Za kz)]]],0,[],0⟩)
   (fun m tm H hI=>Wp.drop ?_) kz.length _ _ ⟨0,_,n+1,if d<lvl then lvl else d,by omega,by simpa using hgo,by omega,by simp;omega,by split<;>omega,by split<;>omega,Zd ⟨rfl,rfl,rfl,rfl,Zg (by rw[Zb]),rfl,trivial⟩,by rw[hw]⟩
  clear hgo
  obtain⟨i,base,n1,d1,hi,hgo,hn2,hn3,hd2,hd3,rfl,rfl⟩:=hI
  unfold maxLen at hl
  by_cases hlt:i<kz.length
  · obtain⟨t', ht'⟩ : ∃t', kz[i]? = some t' := ⟨kz[i], by simp⟩
    have hm:t'∈kz:=List.mem_of_getElem? ht'
    have hle:=Xq hm
    have hsd:=ZhJ ht'
    have hr:=t'.check_range (lvl+1) n1 d1
    obtain⟨e1,n2,d2,h1⟩:∃e1 n2 d2,t'.check (lvl+1) n1 d1=(e1,n2,d2):=⟨_,_,_,rfl⟩
    have hc:=ih t' hm hA (lvl:=lvl+1) (n:=n1) (d:=d1) (by omega) (by omega) (by omega) (by omega) (by omega) (by omega)
    rw[h1]at hc hr
    simp only[]at hc hr
    rw[← hw2]at hc
    rw[ZeX ht' h1]at hgo
    obtain⟨k',nm',s',b',kz'⟩:=t'
    have hc:=hc.ext (ext:=[.cells 4 [[.int .i64 k,.str nm,.int .i64 s,slV b 4 (Za kz)]],.cells 4 [[.int .i64 k',.str nm',.int .i64 s',slV b' 4 (Za kz')]]]) rfl (by simp[ZC,under,Tm.cells,Zl]) (ZbU hA _ _ _ _) (by simp)
    have hj:=Zk ht'
    repeat' first|refine Jc hc ?_|refine Jx ?_|refine Jb ?_ ?_|refine Jz ?_ ?_|refine Jo ?_|intro hb
    · have hb1 : e1 ≠ 0 := by simpa using hb
      rw[if_pos hb1]at hgo
      cases hgo
      exact DropF.ret [(8,.int .i64 _)] ⟨rfl,trivial⟩ rfl rfl (ZbU hA _ _ _ _) (RetE.ret rfl rfl rfl)
    · have hb1 : ¬ e1 ≠ 0 := by simpa using hb
      rw[if_neg hb1]at hgo
      exact DropQ.go [(1,.int .i64 lvl),(2,.ptr 1 1 0 0),(3,.ptr 2 1 0 0),(57,slV b 4 (Za kz)),(58,.int .i64 (kz.length:Int)),(59,.int .i64 ((i+1:Nat):Int))] ⟨rfl,rfl,rfl,rfl,rfl,Zg (Ze (n:=i+1) (by omega)),trivial⟩
       (by simp[Zl,under]) rfl (ZpP (ZdG (show 3≤4 by omega) hA) _ _ _ _ (by simp[Ys,ZC,Zl,under])) (LoopI.go (m-1) (by omega) ⟨i+1,_,n2,d2,by omega,hgo,by omega,by omega,by omega,by omega,rfl,rfl⟩)
    · exfalso;simp at hb;omega
  · have e : i = kz.length := by omega
    subst e
    repeat' first|refine Jz ?_ ?_|refine Jo ?_|intro hb
    · exfalso;simp at hb
    · simp only[List.drop_length, Xm]at hgo
      cases hgo
      exact DropF.ret [(8,.int .i64 0)] ⟨rfl,trivial⟩ rfl rfl (ZbU hA _ _ _ _) (RetE.ret rfl rfl rfl)
theorem c65 (ht:t.Ok) (hsz:t.size<4611686018427387000):∀H,CO 65 [.agg t.cells] H (.int .i64 t.valid) H:=by
 have hc:=c98 ht (A:= .cells 4 [t.cells]) (by obtain⟨k,nm,s,b,kz⟩:=t;simp[Ys,Tm.cells,ZC,Zl,under]) (lvl:=1) (n:=0) (d:=0) (by omega) (by omega) (by omega) (by omega) (by omega) (by omega);rw[t.valid_check];obtain⟨e,n,d,h1⟩:∃e n d,t.check 1 0 0=(e,n,d):=⟨_,_,_,rfl⟩;rw[h1]at hc ⊢;obtain⟨k,nm,s,b,kz⟩:=t;refine Jw tOk fe65.ok rfl ?_;repeat' first|refine Jk ?_|refine Jc hc ?_|refine Jt ?_|refine Jb ?_ ?_|refine Jo ?_|intro hb
 all_goals (refine Zg ?_;clear hc h1;simp only[bne_iff_ne,bne_eq_false_iff_eq,decide_eq_true_eq,decide_eq_false_iff_not]at *;(repeat' split)<;>omega)
theorem ifq {a:Bool} (h:a=b):PV.bool a=PV.bool b:=by rw[h]
theorem Zmd {d:UInt8}:Xk d=(Zex (Int.ofNat d.toNat)||(Zmk (Int.ofNat d.toNat)||(decide ((d.toNat:Int)=95)||decide ((d.toNat:Int)=35)))):=rfl
theorem c62 (s:List UInt8) (hs:s.length≤maxLen):∀H,CO 62 [.str s] H (.bool (Z5 s)) H:=by
 refine Jw tOk fe62.ok rfl ?_;cases s with
 |nil=>
  repeat' first|refine Jk ?_|refine Ka ?_|fail
  all_goals first
   | rfl
   | (exfalso;simp at hb;done)
 |cons c r=>
  have hc:=c94 (Int.ofNat c.toNat);obtain⟨L,hL⟩:∃L,L=Zex (Int.ofNat c.toNat):=⟨_,rfl⟩;have hj:=Zhm (show(c::r)[0]? = some c from rfl);rw[Zbp];obtain⟨s,hss⟩:∃s,s=c::r:=⟨_,rfl⟩;rw[← hss]at hs hj ⊢;have hne:s.length≠0:=by rw[hss];simp
  rw[← hL]at hc ⊢;repeat' first|refine Jk ?_|refine Jc (hc _) ?_|refine JX ?_|refine Jt ?_|refine Jb ?_ ?_|refine Jo ?_|intro hb
  all_goals first
   | (exfalso;exact hne (by simpa using hb))
   | (refine ZaI (.inl ?_);simp at hb;simp;omega)
   | (refine ZaI (.inr (.inl (by simpa using hb)));done)
   | skip
  have h24:s.length≤24:=by have:= ‹decide (24<Int.ofNat s.length)=false›;simp at this;omega
  have hlt:L=true:=by simpa using hb
  rw[show(decide (s.length≤24)&&(L&&s.all Xk))=s.all Xk by simp only[h24,hlt,decide_true,Bool.true_and]];refine Wp.while (fun m tm H=>∃(i:Nat),∃base,i+m=s.length∧(s.take i).all Xk=true∧tm=ovr base [(0,.str s),(3,.int .i64 (i:Int))]∧H=⟨[],0,[],0⟩)
   (fun m tm H hI=>?_) s.length _ _ ⟨0,_,by omega,by simp,Zd ⟨rfl,rfl,trivial⟩,rfl⟩
  clear hc hj;obtain⟨i,base,hi,hall,rfl,rfl⟩:=hI;by_cases hlt2:i<s.length
  ·obtain⟨d, hd⟩ : ∃d, s[i]? = some d := ⟨s[i], by simp⟩;have hj:=Zhm hd;have hc:=c94 (Int.ofNat d.toNat);have hc2:=c95 (Int.ofNat d.toNat);have hp:=Zmd (d:=d);generalize Zex (Int.ofNat d.toNat)=D1 at hc hp;generalize Zmk (Int.ofNat d.toNat)=D2 at hc2 hp;(repeat' first|refine Jk ?_|refine Jc (hc _) ?_|refine Jc (hc2 _) ?_|refine JX ?_|refine Jt ?_|refine Jb ?_ ?_|refine Jo ?_|intro hb);all_goals first
    | (refine LoopI.go (m-1) (by omega) ⟨i+1,_,by omega,ZgI hd (by rw[hp];simp at hb;simp[hb]) hall,Zd ⟨rfl,Zg (Ze (n:=i+1) (by unfold maxLen at hs;omega)),trivial⟩,rfl⟩;done)
    | (exfalso;simp at hb;omega)
    | skip
   (have hq:Xk d=false:=by rw[hp];clear hc hc2 hj hp hd hall hi;simp at *;simp[*]);rw[Ua hd hq]
  {(have e:i=s.length:=by omega);subst e;(repeat' first|refine Jt ?_|refine Jb ?_ ?_|refine Jo ?_|intro hb);{exfalso;simp at hb};{rw[← hall,List.take_length]}}
theorem ZwK (k:Int) (nm:List UInt8) (s:Int) (b:Bool) (kz:List Tm) (hn:nm.length≤maxLen):∀H,CO 181 [.agg [.int .i64 k,.str nm,.int .i64 s,slV b 4 (Za kz)]] H (.int .i64 (YW k nm s kz.length)) H:=by
 have hc:=c62 nm hn;obtain⟨N,hN⟩:∃N,N=Z5 nm:=⟨_,rfl⟩;rw[← hN]at hc;refine Jw tOk fe181.ok rfl ?_;repeat' first|refine Jk ?_|refine Jc (hc _) ?_|refine Ky ?_|refine Jb ?_ ?_|refine Jo ?_|intro hb
 all_goals (refine Zg ?_;clear hc)
 all_goals first
  | exact(Zkv (by simp only[Zb,beq_iff_eq,bne_iff_ne,decide_eq_true_eq,decide_eq_false_iff_not,beq_eq_false_iff_ne,bne_eq_false_iff_eq]at *;omega)).symm
  | exact(ZjY (by simp only[Zb,beq_iff_eq,decide_eq_true_eq,decide_eq_false_iff_not,beq_eq_false_iff_ne,bne_eq_false_iff_eq]at *;omega) (by rw[← hN];simpa using hb)).symm
  | exact(ZiY (by simp only[Zb,beq_iff_eq,decide_eq_true_eq,decide_eq_false_iff_not,beq_eq_false_iff_ne,bne_eq_false_iff_eq]at *;omega) (by rw[← hN];simpa using ‹(!N)=false›) (by simp[Zb]at hb;omega)).symm
  | exact(ZiZ (by simp only[Zb,beq_iff_eq,decide_eq_false_iff_not,beq_eq_false_iff_ne,bne_eq_false_iff_eq]at *;omega) (by rw[← hN];simpa using ‹(!N)=false›) (by simp[Zb]at hb;omega)).symm
theorem ZfF (h:l[i]? = some t) (he:t.nodes=e):Yy (l.drop i)=if e≠0 then e else Yy (l.drop (i+1)):=by rw[ZB h];simp only[Yy,he]
theorem c143 (ht:t.Ok):∀H,CO 143 [.agg t.cells] H (.int .i64 t.nodes) H:=by
 induction ht with
 | @mk k nm s b kz hk hs hn hl hok ih=>
 have hc:=ZwK k nm s b kz hn;simp only[Tm.nodes];generalize YW k nm s kz.length=e at hc;refine Jw tOk fe143.ok rfl ?_;repeat' first|refine Jc (hc _) ?_|refine Jb ?_ ?_|refine Jo ?_|intro hb
 ·have h1:e≠0:=by simpa using hb
  rw[if_pos h1]
 rw[if_neg (by simpa using hb)];clear hc;refine Wp.while (fun m tm H=>∃(i:Nat),∃base,i+m=kz.length∧Yy kz=Yy (kz.drop i)∧tm=ovr base [(1,.ptr 0 4 0 0),(4,.int .i64 (i:Int))]∧H=⟨[.cells 4 [[.int .i64 k,.str nm,.int .i64 s,slV b 4 (Za kz)]]],0,[],0⟩)
  (fun m tm H hI=>?_) kz.length _ _ ⟨0,_,by omega,by simp,Zd ⟨rfl,rfl,trivial⟩,rfl⟩
 obtain⟨i,base,hi,hgo,rfl,rfl⟩:=hI;rw[hgo];unfold maxLen at hl;by_cases hlt:i<kz.length
 ·obtain⟨t',ht'⟩:∃t',kz[i]? = some t':=⟨kz[i],by simp⟩;have hm:t'∈kz:=List.mem_of_getElem? ht';have hc:=ih t' hm;obtain⟨e1,he1⟩:∃e1,t'.nodes=e1:=⟨_,rfl⟩;rw[he1]at hc;rw[ZfF ht' he1];obtain⟨k',nm',s',b',kz'⟩:=t';have hj:=Zk ht';repeat' first|refine Jc (hc _) ?_|refine Ku ?_|refine Jb ?_ ?_|refine Jo ?_|intro hb
  {rw[if_pos (by simpa using hb)]};{rw[if_neg (by simpa using hb)];exact LoopI.go (m-1) (by omega) ⟨i+1,_,by omega,rfl,Zd ⟨rfl,Zg (Ze (n:=i+1) (by omega)),trivial⟩,rfl⟩};{exfalso;rw[Zb]at hb;simp at hb;omega}
 ·have e:i=kz.length:=by omega
  subst e;repeat' first|refine Jl ?_|refine Jb ?_ ?_|refine Jo ?_|intro hb
  {exfalso;rw[Zb]at hb;simp at hb};{simp[Yy]}
theorem Zws (ht:t.Ok):t.size<4611686018427387904→∀H,CO 144 [.agg t.cells] H (.int .i64 (t.depth:Int)) H:=by
 induction ht with
 | @mk k nm s b kz hk hs hn hl hok ih=>
 intro hsz;simp only[Tm.size]at hsz;have hdl:=ZaJ kz;simp only[Tm.depth];refine Jw tOk fe144.ok rfl ?_;repeat' first|refine Jo ?_|fail
 refine Wp.while (fun m tm H=>∃(i:Nat),∃base,i+m=kz.length∧tm=ovr base [(1,.ptr 0 4 0 0),(3,.int .i64 (YB (kz.take i):Int)),(4,.int .i64 (i:Int))]∧H=⟨[.cells 4 [[.int .i64 k,.str nm,.int .i64 s,slV b 4 (Za kz)]]],0,[],0⟩)
  (fun m tm H hI=>?_) kz.length _ _ ⟨0,_,by omega,Zd ⟨rfl,rfl,rfl,trivial⟩,rfl⟩
 obtain⟨i,base,hi,rfl,rfl⟩:=hI;unfold maxLen at hl;by_cases hlt:i<kz.length
 ·obtain⟨t',ht'⟩:∃t',kz[i]? = some t':=⟨kz[i],by simp⟩;have hm:t'∈kz:=List.mem_of_getElem? ht';have hle:=Xq hm;have hdt:=Zff ht';have hc:=ih t' hm (by omega);obtain⟨k',nm',s',b',kz'⟩:=t';have hj:=Zk ht';repeat' first|refine Jc (hc _) ?_|refine Ku ?_|refine Jb ?_ ?_|refine Jo ?_|intro hb
  {refine LoopI.go (m-1) (by omega) ⟨i+1,_,by omega,Zd ⟨rfl,Zg ?_,Zg (Ze (n:=i+1) (by omega)),trivial⟩,rfl⟩;rw[hdt];split<;>omega};{exfalso;rw[Zb]at hb;simp at hb;omega}
 ·have e:i=kz.length:=by omega
  subst e;repeat' first|refine Jl ?_|refine Jb ?_ ?_|refine Jo ?_|intro hb
  {exfalso;rw[Zb]at hb;simp at hb};{refine Zg ?_;rw[List.take_length];exact Ze (n:=YB kz+1) (by omega)}
theorem c97 (ht:t.Ok) (hsz:t.size<4611686018427387904):∀H,CO 97 [.agg t.cells] H (.int .i64 t.valid) H:=by
 have h1:=c143 ht;have h2:=Zup ht hsz;have h3:=Zws ht hsz;unfold Tm.valid;generalize t.nodes=e at h1;generalize t.size=n at h2;generalize t.depth=d at h3;obtain⟨k,nm,s,b,kz⟩:=t;refine Jw tOk fe97.ok rfl ?_;repeat' first|refine Jk ?_|(apply qCl;rfl;rfl;rfl;rfl;first|exact h1 _|exact h2 _|exact h3 _)|refine Jt ?_|refine Jb ?_ ?_|refine Jo ?_|intro hb
 all_goals (refine Zg ?_;clear h1 h2 h3;simp only[bne_iff_ne,bne_eq_false_iff_eq,decide_eq_true_eq,decide_eq_false_iff_not]at *;(repeat' split)<;>omega)
open Go.RowKit Go.Lib
theorem Zi2 (b c n i vb vc : Nat) (cs vs : List Value) (w : World) (hi : i < n) (hn : n ≤ 1000) (hroom : n + 1 ≤ c) (hc63 : c ≤ 9223372036854775807) (hvb : vb ≠ b)
  (hcl:cs.length=n*5) (hvl:vs.length=5)
  (hcs:∀j v,cs[j]? = some v→w.cell? ⟨b,0+j,none⟩=some v) (hsp:∀j,j<(n+1)*5→(w.cell? ⟨b,0+j,none⟩).isSome=true) (hfz:∀j,j<(n+1)*5→w.frozen? ⟨b,0+j,none⟩=false)
  (hvs:∀j v,vs[j]? = some v→w.cell? ⟨vb,0+j,none⟩=some v) (h1c:∀v∈cs,v.oneCell'=true) (h1v:∀v∈vs,v.oneCell'=true)
  (tA tB:TypeId) (kA kB:Nat) (hsa:w.shape? vb=some (tA,kA)) (hsb:w.shape? b=some (tB,kB)) (hkB:kB≠0) (hfa:w.frozen? ⟨vb,0,none⟩=false) (hfe:w.frozen? ⟨vb,kA,none⟩=false) :
  Calls Tryz.prog 254 #[.slice (some ⟨b,0,none⟩) n c,.int .i64 i,.slice (some ⟨vb,0,none⟩) 1 vc] w fun e w'=>
   e= .returned (.slice (some ⟨b,0,none⟩) (n+1) c)∧w'=(w.drew.setCells b ((i+1)*5) (cs.drop (i*5))).setCells b (i*5) vs:=by
 have hsz:(Tryz.prog.info? 227).map (·.size)=some 5:=by kernel_rfl
 have hz62:∀w,(Go.sizeOf 227).run Tryz.prog w= .ok 5 w:=fun w=>by
  cases hq:Tryz.prog.info? 227 with
  | none=>simp[hq]at hsz
  | some i=>simp[hq]at hsz;simp[sizeOf,typeInfo,hq,hsz]
 have hov:∀o lb cb,(callFunc 260 #[.slice (some ⟨vb,0,none⟩) 1 vc,.slice (some ⟨b,o,none⟩) lb cb]).run Tryz.prog w= .ok (.value (.bool false)) w:=fun o lb cb=>by
  rw[run_callFunc_extern Tryz.func260 (by kernel_rfl) (by kernel_rfl) (by kernel_rfl) (e:=Extern.SlicesOverlaps.overlaps #[207,207] #[4]) (by kernel_rfl),
   Lib.run_overlaps_apart w 207 4 227 Tryz.underlying207 5 hz62 ⟨vb,0,none⟩ ⟨b,o,none⟩ 1 vc lb cb hvb tA tB kA kB hsa hsb hkB hfa hfe]
  rfl
 have hdl:(cs.drop (i*5)).length=(n-i)*5:=by rw[List.length_drop,hcl, ← Nat.sub_mul]
 have mixed:=follows
 have hw1:IntKind.i64.wrap ((i:Int)+1)=(i:Int)+1:=by rw[IntKind.wrap_i64];omega
 have hw2:IntKind.i64.wrap ((n:Int)+1)=(n:Int)+1:=by rw[IntKind.wrap_i64];omega
 have hz2:¬ ((i:Int)=(n:Int)):=by omega
 have hb1:(0:Int)≤(i:Int)+1:=by omega
 have hin:i≤n:=by omega
 have htn:((i:Int)+1).toNat=i+1:=by omega
 have hb2:¬ (c=i+1):=by omega
 have hb3:(i:Int)≤(n:Int):=by omega
 have hb4:¬ (c=i):=by omega
 have hb5:¬ ((c:Int)<(n:Int)+1):=by omega
 have hb6:(i:Int)≤(n:Int)+1:=by omega
 have hcp1:∀ty dc sc,(Builtin.copy_ #[207,207] ty #[.slice (some ⟨b,(i+1)*5,none⟩) (n-i) dc,.slice (some ⟨b,i*5,none⟩) (n+1-i) sc]).run Tryz.prog w.drew= .ok (goInt (Nat.min (n+1-i) (n-i))) (w.drew.setCells b ((i+1)*5) (cs.drop (i*5))):=fun ty dc sc=>
  XT w.drew _ _ ty 227 5 b ((i+1)*5) (n-i) dc ⟨b,i*5,none⟩ (n+1-i) sc (cs.drop (i*5)) Tryz.underlying207 hsz (by rw[hdl];simp only[Nat.min_def];split<;>first|rfl|(congr 1;omega)|omega)
   (fun j v hj=>by rw[Addr.add_lit];have:=hcs (i*5+j) v (by rwa [List.getElem?_drop]at hj);simpa using this)
   (fun j hj=>by have:=hsp ((i+1)*5+j) (by omega);simpa using this) (fun j hj=>by have:=hfz ((i+1)*5+j) (by omega);simpa using this) (fun v hv=>h1c v (List.mem_of_mem_drop hv))
 obtain⟨W1,hW1⟩:∃W1,W1=w.drew.setCells b ((i+1)*5) (cs.drop (i*5)):=⟨_,rfl⟩
 have hsp1:∀k,k<(n+1)*5→(W1.cell? ⟨b,0+k,none⟩).isSome=true:=fun k hk=>by
  rw[hW1]
  have:=isSome_setCells b (cs.drop (i*5)) ((i+1)*5) w.drew (fun j hj=>by have:=hsp ((i+1)*5+j) (by omega);simpa using this) k (by have:=hsp k hk;simpa using this)
  simpa using this
 have hcp2:∀(W:World),(∀x,W.cell? x=W1.cell? x)→(∀x,W.frozen? x=W1.frozen? x)→∀ty dc,(Builtin.copy_ #[207,207] ty #[.slice (some ⟨b,i*5,none⟩) (n+1-i) dc,.slice (some ⟨vb,0,none⟩) 1 vc]).run Tryz.prog W= .ok (goInt (Nat.min 1 (n+1-i))) (W.setCells b (i*5) vs):=fun W hWc hWf ty dc=>
  XT W _ _ ty 227 5 b (i*5) (n+1-i) dc ⟨vb,0,none⟩ 1 vc vs Tryz.underlying207 hsz (by rw[hvl];simp only[Nat.min_def];split<;>omega)
   (fun j v hj => by
     rw[Addr.add_lit,hWc,hW1,World.cell?_setCells_out b _ _ _ _ (fun h _=>absurd h hvb)]
     exact hvs j v hj)
   (fun j hj=>by rw[hWc];have:=hsp1 (i*5+j) (by omega);simpa using this) (fun j hj=>by rw[hWf,hW1,World.frozen?_setCells];have:=hfz (i*5+j) (by omega);simpa using this) h1v
 rw[← hW1]at hcp1
 go_enter Tryz.func254,Tryz.ntmps254
 go_wp2_with (simp only[hov])
 go_region_law_o (refine step_copy_runI rfl _ _ 207 207 rfl _ _ (by simp[Act.eval,Act.put]) (by simp[Act.eval,Act.put]) (hcp1 _ _ _) ?_)
 go_wp2_with (at_builtin;refine wpList_copy_runI _ rfl _ _ 207 207 rfl _ _ rfl rfl (hcp2 _ (fun _=>rfl) (fun _=>rfl) _ _) ?_)
 go_ret
 first|exact⟨rfl,rfl⟩|exact⟨rfl,by rw[hW1]⟩
theorem ZhX (b c n i vb vc : Nat) (cs vs : List Value) (w : World) (hi : i < n) (hn : n ≤ 1000) (hnc : n ≤ c) (hroom : c < n + 1)
  (hcl:cs.length=n*5) (hvl:vs.length=5)
  (hcs:∀j v,cs[j]? = some v→w.cell? ⟨b,0+j,none⟩=some v)
  (hvs:∀j v,vs[j]? = some v→w.cell? ⟨vb,0+j,none⟩=some v) (h1c:∀v∈cs,v.oneCell'=true) (h1v:∀v∈vs,v.oneCell'=true) :
  Calls Tryz.prog 254 #[.slice (some ⟨b,0,none⟩) n c,.int .i64 i,.slice (some ⟨vb,0,none⟩) 1 vc] w fun e w'=>
   ∃(G:Nat) (ROW:Array Value),n+1≤G∧G≤9223372036854775807∧ROW.size=G*5∧(∀j,j<i*5→ROW[j]? = cs[j]?)∧e= .returned (.slice (some ⟨w.heap.size,0,none⟩) (n+1) G)∧
   w'=(((w.alloc (.cells ROW 227)).drew.setCells w.heap.size (i*5) vs).drew).setCells w.heap.size ((i+1)*5) (cs.drop (i*5)):=by
 have mixed:=follows
 have hsz:(Tryz.prog.info? 227).map (·.size)=some 5:=by kernel_rfl
 have hbz:(Tryz.prog.info? 227).map (fun i=>(Nat.ble i.bytes 1000,i.zero.isSome,(i.zero.map (·.cells.size))))=some (true,true,some 5):=by kernel_rfl
 obtain⟨i0,hi0⟩:∃i,Tryz.prog.info? 227=some i:=by
  cases hq:Tryz.prog.info? 227 with
  | none=>simp[hq]at hsz
  | some i=>exact⟨i,rfl⟩
 have hzs:i0.size=5:=by simpa[hi0] using hsz
 simp only[hi0,Option.map_some,Option.some.injEq,Prod.mk.injEq]at hbz
 obtain⟨hb0,hz0,hz7⟩:=hbz
 obtain⟨z,hz0⟩:=Option.isSome_iff_exists.1 hz0
 have hz7:z.cells.size=5:=by simpa[hz0] using hz7
 have hbytes:i0.bytes≤1000:=Nat.le_of_ble_eq_true hb0
 have hbig:(n+1)*i0.bytes≤1001000:=Nat.le_trans (Nat.mul_le_mul (show n+1≤1001 by omega) hbytes) (by decide)
 have hbw:b<w.heap.size:=block_lt_of_cell (hcs 0 _ (List.getElem?_eq_getElem (by omega)))
 have hvw:vb<w.heap.size:=block_lt_of_cell (hvs 0 _ (List.getElem?_eq_getElem (by omega)))
 have hkk:(n:Int)+1-(i:Int)=((n+1-i:Nat):Int):=by omega
 have hik:i+(n+1-i)=n+1:=by omega
 have hold:(Builtin.firstCells i0.size i (.slice (some ⟨b,0,none⟩) i c)).run Tryz.prog w.drew= .ok (cs.take (i*5)).toArray w.drew:=by
  rw[hzs]
  exact run_firstCells_some w.drew 5 i ⟨b,0,none⟩ i c (cs.take (i*5)) (by rw[List.length_take];omega) (fun j v hj=>by
   rw[Addr.add_lit]
   rw[List.getElem?_take]at hj
   split at hj
   · exact hcs j v hj
   · cases hj)
 have hrz : ∀ty, (Builtin.append_ #[207, 3] ty #[.slice (some ⟨b, 0, none⟩) i c, .int .i64 ((n : Int) + 1 - (i : Int))]).run Tryz.prog w =
   .ok (.slice (some ⟨w.heap.size,0,none⟩) (n+1) (grownCap w (n+1) c 227)) (w.drew.alloc (.cells ((cs.take (i*5)).toArray++Builtin.zeroCells z.cells (n+1-i)++Builtin.zeroCells z.cells (grownCap w (n+1) c 227-(n+1))) 227)):=fun ty=>by
  have hfit:Builtin.nextslicecap (i+(n+1-i)) c*i0.bytes≤281474976710656:=by
   rw[hik]
   exact growslice_fits (by omega) (by omega)
  have h:=Lib.run_append_grow_zeros w 207 3 ty 227 i0 _ .i64 .i64 Tryz.underlying207 Tryz.underlying3 hi0 hz0 (some ⟨b,0,none⟩) i c (cs.take (i*5)) hold (n+1-i) (by omega) (by omega) (by omega) (by omega) (Nat.le_trans (Nat.mul_le_mul_right _ (show n+1-i≤n+1 by omega)) (by omega)) hfit
  rw[hik]at h
  rw[hkk]
  exact h
 obtain⟨G,hG⟩:∃G,G=grownCap w (n+1) c 227:=⟨_,rfl⟩
 obtain⟨ROW,hROW⟩:∃ROW:Array Value,ROW=(cs.take (i*5)).toArray++Builtin.zeroCells z.cells (n+1-i)++Builtin.zeroCells z.cells (G-(n+1)):=⟨_,rfl⟩
 rw[← hG]at hrz
 rw[← hROW]at hrz
 have hGn:n+1≤G:=by rw[hG];exact grownCap_ge w _ _ _
 have hRs:ROW.size=G*5:=by
  rw[hROW]
  simp[Builtin.zeroCells,hz7,hcl]
  omega
 have hRl:(n+1)*5≤ROW.size:=by omega
 have hRc:∀j,j<i*5→ROW[j]? = cs[j]? :=fun j hj=>by
  rw[hROW,Array.append_assoc,Array.getElem?_append_left (by simp[hcl];omega)]
  simp[hj]
 obtain⟨W1,hW1⟩:∃W1,W1=w.drew.alloc (.cells ROW 227):=⟨_,rfl⟩
 rw[← hW1]at hrz
 have hN:∀j,j<(n+1)*5→(W1.cell? ⟨w.heap.size,j,none⟩).isSome=true:=fun j hj=>by
  rw[hW1,World.cell?_alloc_at (w:=w.drew) ROW _ w.heap.size j rfl,Array.getElem?_eq_getElem (by omega)];rfl
 have hNf:∀j,W1.frozen? ⟨w.heap.size,j,none⟩=false:=fun j=>by rw[hW1];exact World.frozen?_alloc_at (w:=w.drew) ROW _ w.heap.size j rfl
 have hOb:∀j v,w.cell? ⟨b,j,none⟩=some v→W1.cell? ⟨b,j,none⟩=some v:=fun j v h=>by rw[hW1,World.cell?_alloc_past (w:=w.drew) _ b j hbw];exact h
 have hOv:∀j v,w.cell? ⟨vb,j,none⟩=some v→W1.cell? ⟨vb,j,none⟩=some v:=fun j v h=>by rw[hW1,World.cell?_alloc_past (w:=w.drew) _ vb j hvw];exact h
 have hcpA:∀(W:World),(∀x,W.cell? x=W1.cell? x)→(∀x,W.frozen? x=W1.frozen? x)→∀ty dc,(Builtin.copy_ #[207,207] ty #[.slice (some ⟨w.heap.size,i*5,none⟩) (n+1-i) dc,.slice (some ⟨vb,0,none⟩) 1 vc]).run Tryz.prog W= .ok (goInt (Nat.min 1 (n+1-i))) (W.setCells w.heap.size (i*5) vs):=fun W hWc hWf ty dc=>
  XT W _ _ ty 227 5 w.heap.size (i*5) (n+1-i) dc ⟨vb,0,none⟩ 1 vc vs Tryz.underlying207 hsz (by rw[hvl];simp only[Nat.min_def];split<;>omega)
   (fun j v hj=>by rw[Addr.add_lit,hWc];exact hOv _ v (hvs j v hj))
   (fun j hj=>by rw[hWc];exact hN _ (by omega)) (fun j hj=>by rw[hWf];exact hNf _) h1v
 have hG63:G≤9223372036854775807:=by
  have:=grownCap_le_maxLen w (n+1) c 227 (by unfold maxLen;omega)
  rw[← hG]at this
  unfold maxLen at this
  omega
 have hGi:¬ (G=i):=by omega
 have hGim:¬ (G=i+1):=by omega
 have hci:¬ (c=i):=by omega
 have hbN:b≠w.heap.size:=by omega
 have hdl:(cs.drop (i*5)).length=(n-i)*5:=by rw[List.length_drop,hcl, ← Nat.sub_mul]
 have hcpB:∀(W:World),(∀x,W.cell? x=(W1.setCells w.heap.size (i*5) vs).cell? x)→(∀x,W.frozen? x=(W1.setCells w.heap.size (i*5) vs).frozen? x)→∀ty dc sc,(Builtin.copy_ #[207,207] ty #[.slice (some ⟨w.heap.size,(i+1)*5,none⟩) (n-i) dc,.slice (some ⟨b,i*5,none⟩) (n-i) sc]).run Tryz.prog W= .ok (goInt (Nat.min (n-i) (n-i))) (W.setCells w.heap.size ((i+1)*5) (cs.drop (i*5))):=fun W hWc hWf ty dc sc=>
  XT W _ _ ty 227 5 w.heap.size ((i+1)*5) (n-i) dc ⟨b,i*5,none⟩ (n-i) sc (cs.drop (i*5)) Tryz.underlying207 hsz (by rw[hdl];simp only[Nat.min_def];split<;>first|rfl|(congr 1;omega)|omega)
   (fun j v hj => by
     rw[Addr.add_lit,hWc,World.cell?_setCells_out _ _ _ _ _ (fun h _=>absurd h hbN)]
     have:=hcs (i*5+j) v (by rwa [List.getElem?_drop]at hj)
     exact hOb _ v (by simpa using this))
   (fun j hj=>by rw[hWc];exact isSome_setCells _ _ _ _ (fun t ht=>hN _ (by omega)) _ (hN _ (by omega)))
   (fun j hj=>by rw[hWf,World.frozen?_setCells];exact hNf _) (fun v hv=>h1c v (List.mem_of_mem_drop hv))
 subst hW1
 have hE1:∀x,((w.alloc (.cells ROW 227)).drew).cell? x=(w.drew.alloc (.cells ROW 227)).cell? x:=fun x=>rfl
 have hE2:∀x,((w.alloc (.cells ROW 227)).drew).frozen? x=(w.drew.alloc (.cells ROW 227)).frozen? x:=fun x=>rfl
 have hF1:∀x,(((w.alloc (.cells ROW 227)).drew.setCells w.heap.size (i*5) vs).drew).cell? x=((w.drew.alloc (.cells ROW 227)).setCells w.heap.size (i*5) vs).cell? x:=fun x=>rfl
 have hF2:∀x,(((w.alloc (.cells ROW 227)).drew.setCells w.heap.size (i*5) vs).drew).frozen? x=((w.drew.alloc (.cells ROW 227)).setCells w.heap.size (i*5) vs).frozen? x:=fun x=>rfl
 have hw1:IntKind.i64.wrap ((i:Int)+1)=(i:Int)+1:=by rw[IntKind.wrap_i64];omega
 have hw2:IntKind.i64.wrap ((n:Int)+1)=(n:Int)+1:=by rw[IntKind.wrap_i64];omega
 have hw3:IntKind.i64.wrap ((n:Int)+1-(i:Int))=(n:Int)+1-(i:Int):=by rw[IntKind.wrap_i64];omega
 have hz2:¬ ((i:Int)=(n:Int)):=by omega
 have hb1:(0:Int)≤(i:Int)+1:=by omega
 have hin:i≤n:=by omega
 have htn:((i:Int)+1).toNat=i+1:=by omega
 have hb3:(i:Int)≤(n:Int):=by omega
 have hb5:(c:Int)<(n:Int)+1:=by omega
 have hb6:(i:Int)≤(n:Int)+1:=by omega
 clear hkk hik hold hROW hG hRl
 go_enter Tryz.func254,Tryz.ntmps254
 go_wp2_with (first
  | (at_builtin;refine Lib.wpList_append_run _ rfl _ _ _ _ rfl _ _ rfl rfl _ _ (hrz _) ?_)
  | (at_builtin;refine wpList_copy_runI _ rfl _ _ 207 207 rfl _ _ rfl rfl (hcpA _ hE1 hE2 _ _) ?_)
  | (at_builtin;refine wpList_copy_runI _ rfl _ _ 207 207 rfl _ _ rfl rfl (hcpB _ (fun _=>rfl) (fun _=>rfl) _ _ _) ?_))
 go_region_law_o (refine step_copy_runI rfl _ _ 207 207 rfl (.slice (some ⟨w.heap.size,(i+1)*5,none⟩) (n-i) (G-(i+1))) (.slice (some ⟨b,i*5,none⟩) (n-i) (c-i)) (by simp[Act.eval,Act.put]) (by simp[Act.eval,Act.put]) (hcpB _ hF1 hF2 3 (G-(i+1)) (c-i)) ?_)
 go_wp2
 go_ret
 exact⟨G,ROW,hGn,hG63,hRs,hRc,rfl,rfl⟩
