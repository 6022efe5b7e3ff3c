/-
  Sums: terms that are copied, the error of a list, the sum of a list (the program
-/
import Derived.Test.YtnghnjdabbjcnaaGreatDoorVTh2
import Derived.Test.YtnghnjdabbjcnaaGreatDoorVNq
set_option maxHeartbeats 0
set_option maxRecDepth 100000
namespace Go.Vm.Seat
variable {t:Tm} {l:List Tm} {b:Bool} {es nt:Nat} {L:List (List PV)} {out:PV} {lv:List Nat}
open Go.Proofs
theorem Wq (k:Int) (nm:List UInt8) (s:Int) (b:Bool) (kz:List Tm):Za [Tm.mk k nm s b kz]= [[.int .i64 k,.str nm,.int .i64 s,slV b 4 (Za kz)]]:=rfl
theorem ZtT (ht:t.Ok):t.size≤100000→∀H,CO 169 [.agg t.cells] H (slV false 4 (Za t.all)) H:=by
 induction ht with
 | @mk k nm s b kz hk hs hn hl hok ih=>
 intro hsz;simp only[Tm.size]at hsz;simp only[Tm.all];refine Jw tOk fe169.ok (ZJ _ _ _ _ _) ?_;repeat' first|refine Js ?_|refine Jo ?_|fail
 refine Wp.while (fun m tm H => ∃(i : Nat) (base : TM) (out : PV) (lv : List Nat) (nt : Nat), i + m = kz.length ∧ ApV false 4 (Za (Tm.mk k nm s b kz :: Qx (kz.take i))) out lv nt ∧
   tm=ovr base [(1,.ptr 0 4 0 0),(3,out),(4,.int .i64 (i:Int))]∧H=⟨[.cells 4 [[.int .i64 k,.str nm,.int .i64 s,slV b 4 (Za kz)]]],0,lv,nt⟩)
  (fun m tm H hI=>?_) kz.length _ _ ⟨0,_,_,_,_,by omega,.full (Za [Tm.mk k nm s b kz]) _ _ rfl (Z0 _),Ze ⟨rfl,rfl,rfl,trivial⟩,rfl⟩
 obtain⟨i,base,out,lv,nt,hi,hA,rfl,rfl⟩:=hI;by_cases hlt:i<kz.length
 ·obtain⟨t',ht'⟩:∃t',kz[i]? = some t':=⟨kz[i],by simp⟩;have hm:t'∈kz:=List.mem_of_getElem? ht';have hle:=XH hm;have hs:=ZdU ht';have hc:=ih t' hm (by omega);have hlen1:(Qx (kz.take i)).length≤Zk kz:=by rw[UI];exact ZA kz i
  have hlen2:=t'.all_len;obtain⟨out',lv',nt',hap,hA', -⟩:=hA.app YB (.slV false 4 (Za t'.all)) (Zr _) (ZR (by simp only[Zb,List.length_cons];omega) (by decide)) (Z0 _);rw[← Zs,List.cons_append, ← hs]at hA';obtain⟨k',nm',s',b',kz'⟩:=t';have hj:=Zj ht';unfold maxLen at hl;repeat' first|refine Jc (hc _) ?_|refine JA ?_|refine Kx ?_|refine Jb ?_ ?_|refine Jo ?_|intro hb
  {exact LoopI.go (m-1) (by omega) ⟨i+1,_,out',lv',nt',by omega,hA',Ze ⟨rfl,rfl,Zg (Zd (n:=i+1) (by omega)),trivial⟩,rfl⟩};{exfalso;rw[Zb]at hb;simp at hb;omega}
 ·have e:i=kz.length:=by omega
  subst e;rw[List.take_length]at hA;repeat' first|refine Jl ?_|refine Jb ?_ ?_|refine Jo ?_|intro hb
  {exfalso;rw[Zb]at hb;simp at hb};{exact hA.frz3 _ _}
theorem ZtN (b:Bool) (hl:∀x,x∈l→x.Ok∧x.size≤100000) (ht:t.Ok) (hsz:t.size≤100000) (hlen:l.length≤100000):∀H,CO 229 [slV b 4 (Za l),.agg t.cells] H (slV true 4 (Za (Qr l t))) H:=by
 have hcmp:∀x,x∈l→∀H,CO 92 [.agg t.cells,.agg x.cells] H (.int .i64 (t.cmp x)) H:=fun x hx H=>Zqa (d92 ht (hl x hx).1 (by omega) (by have:=(hl x hx).2;omega) H);obtain⟨T,hT⟩:∃T,T=t:=⟨_,rfl⟩;obtain⟨k,nm,s,tb,kz⟩:=t;have hlen0:=fun i=>Uj T (l.take i) ([],false);refine Jw tOk fe229.ok (ZJ _ _ _ _ _) ?_ (by simp only[ZH,Xx];simp[frzG,Tm.cells,XA]);repeat' first|refine Ka ?_|fail
 refine Wp.while (fun m tm H => ∃(i : Nat) (base : TM) (out : PV) (lv : List Nat) (nt : Nat), i + m = l.length ∧ ApV true 4 (Za ((l.take i).foldl (ZE T) ([], false)).1) out lv nt ∧
   tm=ovr base [(0,slV b 4 (Za l)),(3,.ptr 0 4 0 0),(5,out),(6,.bool ((l.take i).foldl (ZE T) ([],false)).2),(7,.int .i64 (i:Int))]∧H=⟨[.cells 4 [[.int .i64 k,.str nm,.int .i64 s,slV tb 4 (Za kz)]]],0,lv,nt⟩)
  (fun m tm H hI=>?_) l.length _ _ ⟨0,_,_,_,_,by omega,.nil _ _ rfl,Ze ⟨rfl,rfl,rfl,rfl,rfl,trivial⟩,rfl⟩
 obtain⟨i,base,out,lv,nt,hi,hA,rfl,rfl⟩:=hI;have hl1:=hlen0 i;have hl2:(l.take i).length≤l.length:=by rw[List.length_take];omega
 by_cases hlt:i<l.length
 ·obtain⟨x,hx⟩:∃x,l[i]? = some x:=⟨l[i],by simp⟩;have hm:x∈l:=List.mem_of_getElem? hx;have hs:=XS (f:=ZE T) (b:=([],false)) hx;generalize (l.take i).foldl (ZE T) ([],false)=S at hA hs hl1 ⊢;obtain⟨o,d⟩:=S;have hc:=hcmp x hm;rw[← hT]at hc;have hlo:o.length≤100001:=by simp only[b01,List.length_nil]at hl1;omega
  simp only[ZE]at hs;generalize T.cmp x=c at hc hs;rw[hT]at hc;obtain⟨o1,v1,n1,hap1,hA1, -⟩:=hA.app YB (.sl .full 4 (Za [Tm.mk k nm s tb kz])) (Zr _) (ZR (by simp only[Zb,List.length_cons,List.length_nil];omega) (by decide)) (Z0 _);obtain⟨o2,v2,n2,hap2,hA2, -⟩:=hA.app YB (.sl .full 4 (Za [x])) (Zr _) (ZR (by simp only[Zb,List.length_cons,List.length_nil];omega) (by decide)) (Z0 _);obtain⟨o3,v3,n3,hap3,hA3, -⟩:=hA1.app YB (.sl .full 4 (Za [x])) (Zr _) (ZR (by simp only[Zb,List.length_cons,List.length_nil,List.length_append];omega) (by decide)) (Z0 _);rw[← Zs]at hA1 hA2;rw[← Zs, ← Zs, ← hT]at hA3;obtain⟨k',nm',s',b',kz'⟩:=x;have hj:=Zj hx;rw[Wq]at hap1 hap2 hap3;repeat' first|refine Jk ?_|refine Kw ?_|refine Kx ?_|refine Jt ?_|refine Jb ?_ ?_|refine Jo ?_|refine Jd (hc _) ?_|refine JI ?_|refine Kb ?_|intro hb
  {have hd:d=true:=hb;rw[if_neg (by rw[hd];simp)]at hs;exact LoopI.go (m-1) (by omega) ⟨i+1,_,o2,v2,n2,by omega,by rw[hs];exact hA2,Ze ⟨rfl,rfl,rfl,(by rw[hs];rfl),Zg (Zd (n:=i+1) (by omega)),trivial⟩,rfl⟩};{have hd:d=false:= ‹(o,d).snd=false›;(have h0:c<0:=by simpa using hb);rw[if_pos ⟨hd,by omega⟩,if_pos h0]at hs;exact LoopI.go (m-1) (by omega) ⟨i+1,_,o3,v3,n3,by omega,by rw[hs];exact hA3,Ze ⟨rfl,rfl,rfl,(by rw[hs];rfl),Zg (Zd (n:=i+1) (by omega)),trivial⟩,rfl⟩};{have hd:d=false:= ‹(o,d).snd=false›;(have h0:¬ c<0:=by simpa using hb);(have h1:c≤0:=by simpa using ‹decide (c≤0)=true›);rw[if_pos ⟨hd,h1⟩,if_neg h0,List.append_nil]at hs;exact LoopI.go (m-1) (by omega) ⟨i+1,_,o2,v2,n2,by omega,by rw[hs];exact hA2,Ze ⟨rfl,rfl,rfl,(by rw[hs];rfl),Zg (Zd (n:=i+1) (by omega)),trivial⟩,rfl⟩};{have hd:d=false:= ‹(o,d).snd=false›;(have h1:¬ c≤0:=by simpa using hb);rw[if_neg fun h=>h1 h.2]at hs;exact LoopI.go (m-1) (by omega) ⟨i+1,_,o2,v2,n2,by omega,by rw[hs];exact hA2,Ze ⟨rfl,rfl,rfl,(by rw[hs];rfl),Zg (Zd (n:=i+1) (by omega)),trivial⟩,rfl⟩};all_goals
   exfalso
   have h9:= ‹decide ((i:Int)<((Za l).length:Int))=false›
   rw[Zb]at h9
   simp at h9
   omega
 ·have e:i=l.length:=by omega
  subst e;rw[List.take_length]at hA hl1 ⊢;have hadd : Qr l (Tm.mk k nm s tb kz) = match l.foldl (ZE T) ([], false) with
    | (o,true)=>o
    | (o,false)=>o++ [Tm.mk k nm s tb kz]:=by rw[hT];rfl
  rw[hadd];generalize l.foldl (ZE T) ([],false)=S at hA hl1 ⊢;obtain⟨o,d⟩:=S;have hlo:o.length≤100001:=by simp only[b01,List.length_nil]at hl1;omega
  obtain⟨o1,v1,n1,hap1,hA1, -⟩:=hA.app YB (.sl .full 4 (Za [Tm.mk k nm s tb kz])) (Zr _) (ZR (by simp only[Zb,List.length_cons,List.length_nil];omega) (by decide)) (Z0 _);rw[← Zs]at hA1;rw[Wq]at hap1;repeat' first|refine Kw ?_|refine Kv ?_|refine Jb ?_ ?_|refine Jo ?_|refine Kb ?_|intro hb
  {exfalso;rw[Zb]at hb;simp at hb};all_goals
   first
    | (have hd : d = true := hb
       subst hd
       exact hA.frz3 _ _)
    | (have hd : d = false := hb
       subst hd
       exact hA1.frz3 _ _)
theorem ZvI (b:Bool) (hl:∀x,x∈l→x.Ok∧x.size≤100000) (hlen:l.length≤100000):∀H,CO 211 [slV b 4 (Za l)] H (slV true 4 (Za (ZhW l))) H:=by
 have hmem:=fun i=>Zac (l.take i) [];have hsl:=fun i=>QU (l.take i) [];refine Jw tOk fe211.ok (ZJ _ _ _ _ _) ?_;have e0:PV.nils=slV true 4 (Za ([]:List Tm)):=Zi 4 |>.symm
 repeat' first|refine Jo ?_|fail
 refine Wp.while (fun m tm H => ∃(i : Nat) (base : TM), i + m = l.length ∧
   tm=ovr base [(0,slV b 4 (Za l)),(3,slV true 4 (Za ((l.take i).foldl Qr []))),(4,.int .i64 (i:Int))]∧H=⟨[],0,[],0⟩)
  (fun m tm H hI=>?_) l.length _ _ ⟨0,_,by omega,Ze ⟨rfl,e0,rfl,trivial⟩,rfl⟩
 obtain⟨i,base,hi,rfl,rfl⟩:=hI;have hm2:=hmem i;have hsl2:=hsl i;have hl2:(l.take i).length≤l.length:=by rw[List.length_take];omega
 by_cases hlt:i<l.length
 ·obtain⟨x,hx⟩:∃x,l[i]? = some x:=⟨l[i],by simp⟩;have hm:x∈l:=List.mem_of_getElem? hx;have hs:=XS (f:=Qr) (b:=[]) hx;generalize (l.take i).foldl Qr []=S at hs hm2 hsl2 ⊢;have hc:=ZtN (l:=S) (t:=x) true (fun y hy=>hl y ((hm2 y hy).elim (fun h=>absurd h (by simp)) List.mem_of_mem_take)) (hl x hm).1 (hl x hm).2 (by simp at hsl2;omega);rw[← hs]at hc;obtain⟨k',nm',s',b',kz'⟩:=x;have hj:=Zj hx;repeat' first|refine Jc (hc _) ?_|refine Kx ?_|refine Jb ?_ ?_|refine Jo ?_|intro hb
  {exact LoopI.go (m-1) (by omega) ⟨i+1,_,by omega,Ze ⟨rfl,rfl,Zg (Zd (n:=i+1) (by omega)),trivial⟩,rfl⟩};{exfalso;rw[Zb]at hb;simp at hb;omega}
 ·have e:i=l.length:=by omega
  subst e;rw[List.take_length];repeat' first|refine Jl ?_|refine Jb ?_ ?_|refine Jo ?_|intro hb
  {exfalso;rw[Zb]at hb;simp at hb};{exact ZJ _ _ _ _ _}
theorem Zt5 (ht:t.Ok) (hsz:t.size≤100000) (kk:Int):∀H,CO 194 [.agg t.cells,.int .i64 kk] H (slV true 4 (Za (ZhW (VE kk t.all)))) H:=by
 have hc:=ZtT ht hsz;have hao:=Zmk ht;have hal:=t.all_len;generalize t.all=l at hc hao hal ⊢;have hkm:∀x,x∈VE kk l→x.Ok∧x.size≤100000:=fun x hx=>by have:=hao x (List.mem_filter.1 hx).1;exact⟨this.1,by omega⟩
 have hkl:=QG kk l;have hc2:=fun b=>ZvI b hkm (by omega);obtain⟨k,nm,s,tb,kz⟩:=t;refine Jw tOk fe194.ok (ZJ _ _ _ _ _) ?_ (by simp[ZH,frzG,Tm.cells,XA,frz1]);repeat' first|refine Jc (hc _) ?_|refine Jo ?_|fail
 refine Wp.while (fun m tm H => ∃(i : Nat) (base : TM) (out : PV) (lv : List Nat) (nt : Nat), i + m = l.length ∧ ApV true 4 (Za (VE kk (l.take i))) out lv nt ∧
   tm=ovr base [(1,.int .i64 kk),(5,out),(6,slV false 4 (Za l)),(7,.int .i64 (i:Int))]∧H=⟨[.cells 4 [[.int .i64 k,.str nm,.int .i64 s,slV tb 4 (Za kz)]]],0,lv,nt⟩)
  (fun m tm H hI=>?_) l.length _ _ ⟨0,_,_,_,_,by omega,.nil _ _ rfl,Ze ⟨rfl,rfl,rfl,rfl,trivial⟩,rfl⟩
 clear hc;obtain⟨i,base,out,lv,nt,hi,hA,rfl,rfl⟩:=hI;by_cases hlt:i<l.length
 ·obtain⟨x,hx⟩:∃x,l[i]? = some x:=⟨l[i],by simp⟩;have hs:=ZhN (k:=kk) hx;have hl1:=QG kk (l.take i);have hl2:(l.take i).length≤l.length:=by rw[List.length_take];omega
  obtain⟨o2,v2,n2,hap2,hA2, -⟩:=hA.app YB (.sl .full 4 (Za [x])) (Zr _) (ZR (by simp only[Zb,List.length_cons,List.length_nil];omega) (by decide)) (Z0 _);rw[← Zs]at hA2;obtain⟨k',nm',s',b',kz'⟩:=x;have hj:=Zj hx;rw[Wq]at hap2;repeat' first|refine Kw ?_|refine Kx ?_|refine Jb ?_ ?_|refine Jo ?_|intro hb
  {rw[if_pos (show(Tm.mk k' nm' s' b' kz').knd=kk by simpa[Tm.knd] using hb)]at hs;exact LoopI.go (m-1) (by omega) ⟨i+1,_,o2,v2,n2,by omega,by rw[hs];exact hA2,Ze ⟨rfl,rfl,rfl,Zg (Zd (n:=i+1) (by omega)),trivial⟩,rfl⟩};{rw[if_neg (show ¬ (Tm.mk k' nm' s' b' kz').knd=kk by simpa[Tm.knd] using hb),List.append_nil]at hs;exact LoopI.go (m-1) (by omega) ⟨i+1,_,out,lv,nt,by omega,by rw[hs];exact hA,Ze ⟨rfl,rfl,rfl,Zg (Zd (n:=i+1) (by omega)),trivial⟩,rfl⟩};all_goals (exfalso;rw[Zb]at hb;simp at hb;omega)
 ·have e:i=l.length:=by omega
  subst e;rw[List.take_length]at hA;have hc3:∀H,CO 211 [out] H (slV true 4 (Za (ZhW (VE kk l)))) H:=fun H=>Xs (hc2 true hNil) (by simp only[ZH,hA.frzG]) (ZJ _ _ _ _ _) H;repeat' first|refine Jc (hc3 _) ?_|refine Jl ?_|refine Jb ?_ ?_|refine Jo ?_|intro hb
  {exfalso;rw[Zb]at hb;simp at hb};{exact ZJ _ _ _ _ _}
theorem c167 (ht:t.Ok) (hsz:t.size≤100000):∀H,CO 167 [.agg t.cells] H (slV true 4 (Za (ZhW (VE 1 t.all)))) H:=by
 have hc:=Zt5 ht hsz 1;generalize ZhW (VE 1 t.all)=l at hc ⊢;obtain⟨k,nm,s,tb,kz⟩:=t;refine Jw tOk fe167.ok (ZJ _ _ _ _ _) ?_;repeat' first|refine Jc (hc _) ?_|refine Jo ?_|fail
 exact ZJ _ _ _ _ _
theorem Zui (ht:t.Ok) (hsz:t.size≤100000):∀H,CO 123 [.agg t.cells] H (.bool t.ground) H:=by
 have hc:=c167 ht hsz;have hg:t.ground=decide ((ZhW (VE 1 t.all)).length=0):=by
  unfold Tm.ground
  have:=Zlu (l:=VE 1 t.all)
  cases h:VE 1 t.all with
  | nil=>rw[h]at this;simp[this.2 rfl]
  | cons a r =>
    rw[h]at this
    have h2:ZhW (a::r)≠ []:=fun e=>by simp at this;exact this e
    simp[h2]
 rw[hg];generalize ZhW (VE 1 t.all)=l at hc ⊢;clear hg;obtain⟨k,nm,s,tb,kz⟩:=t;refine Jw tOk fe123.ok rfl ?_;repeat' first|refine Jc (hc _) ?_|refine Kv ?_|refine Jb ?_ ?_|refine Jo ?_|intro hb
 all_goals (refine ifq ?_;rw[Zb]at hb;simp at hb;simp[hb])
theorem WD (t:Tm):Za [t]= [t.cells]:=by obtain⟨k,nm,s,b,kz⟩:=t;rfl
theorem Zag (h:ApV b es L out lv nt) (k:Int) (nm:List UInt8) (s:Int):[PV.int .i64 k,.str nm,.int .i64 s,out].all ZL=true:=by cases h<;>rfl
theorem Zcc (h:ApV true es L out lv nt) (hL:L≠ []):∃k,out= .sl (.tok k) es L:=by
 cases h with
 |nil=>exact absurd rfl hL
 |full _ _ _ h=>cases h
 |tok L k=>exact⟨k,rfl⟩
theorem Z7 (m:Nat) (H:Heap) (k:Int) (nm:List UInt8) (s:Int) (b:Bool) (l:List (List PV)):frz3 m H (.agg [.int .i64 k,.str nm,.int .i64 s,slV b 4 l])=some (.agg [.int .i64 k,.str nm,.int .i64 s,slV b 4 l]):=by rw[ZbL];simp only[Wr,Qz];rfl
theorem Zig (h:ApV b 4 L out lv nt) (m:Nat) (H:Heap) (k:Int) (nm:List UInt8) (s:Int):frz3 m H (.agg [.int .i64 k,.str nm,.int .i64 s,out])=some (.agg [.int .i64 k,.str nm,.int .i64 s,slV b 4 L]):=by rw[ZbL];simp only[Wr,h.frzC];rfl
theorem Ztl (ht:t.Ok):t.size≤100000→∀H,CO 204 [.agg t.cells] H (.agg t.cl.cells) H:=by
 induction ht with
 | @mk k nm s b kz hk hs hn hl hok ih=>
 intro hsz;simp only[Tm.size]at hsz;have hkl:kz.length≤Zk kz:=by
  rw[← UI];have:∀l:List Tm,l.length≤(Qx l).length:=by
   intro l
   induction l with
   | nil=>simp
   | cons a r ih =>
     have:=a.all_len
     have:=WQ a
     simp only[Qx,List.length_append,List.length_cons]
     omega
  exact this kz
 simp only[Tm.cl,Tm.cells];refine Jw tOk fe204.ok (Z7 _ _ _ _ _ _ _) ?_;repeat' first|refine KN ?_|fail
 refine Wp.while (fun m tm H => ∃(i : Nat) (base : TM) (out : PV) (lv : List Nat) (nt : Nat), i + m = kz.length ∧ ApV true 4 (Za (clL (kz.take i))) out lv nt ∧
   tm=ovr base [(1,.ptr 0 4 0 0),(2,.ptr 1 4 0 0),(9,slV b 4 (Za kz)),(10,.int .i64 (kz.length:Int)),(11,.int .i64 (i:Int))]∧H=⟨[.cells 4 [[.int .i64 k,.str nm,.int .i64 s,out]],.cells 4 [[.int .i64 0,.str [],.int .i64 0,.nils]]],0,lv,nt⟩)
  (fun m tm H hI=>Wp.drop ?_) kz.length _ _ ⟨0,_,_,_,_,by omega,.nil _ _ rfl,Ze ⟨rfl,rfl,rfl,Zg (by rw[Zb]),rfl,trivial⟩,rfl⟩
 obtain⟨i,base,out,lv,nt,hi,hA,rfl,rfl⟩:=hI;by_cases hlt:i<kz.length
 ·obtain⟨t',ht'⟩:∃t',kz[i]? = some t':=⟨kz[i],by simp⟩;have hm:t'∈kz:=List.mem_of_getElem? ht';have hle:=XH hm;have hs:=ZbQ ht';have hc:=ih t' hm (by omega);have hlen1:(clL (kz.take i)).length≤kz.length:=by rw[Wl,List.length_take];omega
  obtain⟨out',lv',nt',hap,hA', -⟩:=hA.app YB (.sl .full 4 (Za [t'.cl])) (Zr _) (ZR (by simp only[Zb,List.length_cons,List.length_nil];omega) (by decide)) (Z0 _);rw[← Zs, ← hs]at hA';obtain⟨kc,nc,sc,bc,lc,ec⟩:∃kc nc sc bc lc,t'.cl= .mk kc nc sc bc lc:=by obtain⟨k',nm',s',b',kz'⟩:=t';exact⟨_,_,_,_,_,rfl⟩
  rw[ec]at hc hap;rw[Wq]at hap;obtain⟨kt,rfl⟩:=Zcc hA' (by rw[hs,Zs,WD];simp);obtain⟨k',nm',s',b',kz'⟩:=t';have hj:=Zj ht';repeat' first|refine Jx ?_|refine Jz ?_ ?_|refine Jo ?_|refine Jd (hc _) ?_|refine JB ?_|(apply dAp;rfl;rfl;rfl;rfl;rfl;(first|assumption|solve_by_elim);rfl)|refine Ky ?_|intro hb
  ·exact DropQ.go [(1, .ptr 0 4 0 0), (2, .ptr 1 4 0 0), (9, slV b 4 (Za kz)), (10, .int .i64 (kz.length : Int)), (11, .int .i64 ((i + 1 : Nat) : Int))] ⟨rfl, rfl, rfl, rfl, Zg (Zd (n := i + 1) (by omega)), trivial⟩
     (by simp[Zl,under]) rfl (by simp[Yy,ZO,under]) (LoopI.go (m-1) (by omega) ⟨i+1,_,_,lv',nt',by omega,hA',rfl,rfl⟩)
  {exfalso;simp at hb;omega}
 ·have e:i=kz.length:=by omega
  subst e;rw[List.take_length]at hA;have hco:=Zag hA k nm s;repeat' first|refine Jz ?_ ?_|refine Jo ?_|intro hb
  {exfalso;simp at hb};{exact Zig hA _ _ _ _ _}
theorem ZM (m:Nat) (H:Heap) (t:Tm) (e:Int):frz3 m H (.tup [.agg t.cells,.int .i64 e])=some (.tup [.agg t.cells,.int .i64 e]):=by obtain⟨k,nm,s,b,kz⟩:=t;simp only[Tm.cells];rw[Xu];simp only[Wu,frz2,Wr,Qz];rfl
theorem Zt8 (ht:t.Ok) (hs:t.size≤100000):∀H,CO 239 [.agg t.cells,.nils,.agg t.cells] H (.tup [.agg t.cl.cells,.int .i64 0]) H:=by
 have hc:=Ztl ht hs;have hfr:=ZM 0 hNil t.cl 0;generalize t.cl=u at hc hfr ⊢;obtain⟨k,nm,s,b,kz⟩:=t;obtain⟨k',nm',s',b',kz'⟩:=u;simp only[Tm.cells]at hc hfr ⊢;refine Jw tOk fe239.ok hfr ?_;repeat' first|refine Jc (hc _) ?_|refine Jo ?_|fail
 refine Wp.while (fun m tm H=>∃base:TM,tm=ovr base [(5,.ptr 1 4 0 0),(6,.ptr 2 4 0 0),(8,.ptr 3 4 0 0),(9,.ptr 3 4 0 0),(15,.int .i64 0),(16,.int .i64 0)]∧H=⟨[.cells 4 [[.int .i64 k,.str nm,.int .i64 s,slV b 4 (Za kz)]],.cells 4 [[.int .i64 k,.str nm,.int .i64 s,slV b 4 (Za kz)]],.cells 4 [[.int .i64 0,.str [],.int .i64 0,.nils]],.cells 4 [[.int .i64 k',.str nm',.int .i64 s',slV b' 4 (Za kz')]]],0,[],0⟩)
  (fun m tm H hI=>?_) 0 _ _ ⟨_,Ze ⟨rfl,rfl,rfl,rfl,rfl,rfl,trivial⟩,rfl⟩
 obtain⟨base,rfl,rfl⟩:=hI;repeat' first|refine Jc (hc _) ?_|refine KI ?_|fail
 all_goals exact ZM _ _ (.mk k' nm' s' b' kz') 0
def zcT:List PV:=[.int .i64 0,.str [],.int .i64 0,.nils]
theorem Zrs {D R:List (List PV)} {c:List PV} {bx:List Box} {i o:Nat} {vs:List PV} (hi:D.length=i) (ho:o+vs.length≤c.length):Heap.wr ⟨.cells 4 (D++c::R)::bx,0,[],0⟩ (.ptr 0 4 (0+i) o) vs=some ⟨.cells 4 (D++(c.take o++vs++c.drop (o+vs.length))::R)::bx,0,[],0⟩:=by
 have hn:nth (D++c::R) (0+i)=some c:=by rw[Zm,Nat.zero_add, ← hi];simp
 have hs:∀y,(D++c::R).set (0+i) y=D++y::R:=fun y=>by rw[← hi,Nat.zero_add];simp
 have h0:nth (Box.cells 4 (D++c::R)::bx) 0=some (.cells 4 (D++c::R)):=rfl;rw[Nat.zero_add]at hn hs ⊢;simp only[Heap.wr,h0,if_true,hn,if_pos ho];simp only[Heap.put,Nat.not_lt_zero,if_false,hs,List.set_cons_zero,List.append_assoc]
theorem Zgg (n:Nat) (l:List Tm) (m:Nat):Yy n (.cells 4 (Za l++List.replicate m zcT))=true:=by simp only[Yy,List.all_append,Bool.and_eq_true];constructor;{rw[Ys,List.all_map,List.all_eq_true];rintro⟨k,nm,s,b,kz⟩ _;simp[Tm.cells,ZO,under,Zl]};{rw[List.all_eq_true];intro x hx;rw[(List.mem_replicate.1 hx).2];rfl}
theorem Zax:∀l:List Tm,Yo (Za l)=some (Za l)
 | []=>rfl
 | .mk k nm s b kz::r=>by simp only[Za,Tm.cells,Yo,XA,Zax r]
theorem Zkb (H:Heap) (l:List Tm) (k:Nat) (hk:k=l.length) (hH:nth H.bx 0=some (.cells 4 (Za l))):frz3 0 H (.own 0 4 0 k)=some (slV false 4 (Za l)):=by
 have hl:(Za l).length=k:=by rw[Zb,hk]
 have h1:((Za l).drop 0).take k=Za l:=by rw[List.drop_zero, ← hl,List.take_length]
 rw[Z6];show frzC 0 H (.own 0 4 0 k)=_;simp only[frzC,Nat.not_lt_zero,if_false,hH,true_and,Nat.zero_add,hl,Nat.le_refl,if_true,h1,Zax]
theorem ZvQ (n:Nat):∀{l:List Tm},SmL l→Zk l<n→Zk l≤100000→∀b H,CO 221 [slV b 4 (Za l)] H (slV false 4 (Za (clL l))) H:=by
 induction n with
 |zero=>intro l _ h;omega
 |succ n ih=>
 intro l hl hn hsz b;have hlen:=Yl l;have eT:E0.T 30=some ⟨.slice 39,1,24,.nils⟩:=by kernel_rfl
 have eE:E0.T 39=some ⟨.struct [(0,3),(1,9),(2,3),(3,30)],4,56,.agg zcT⟩:=by kernel_rfl
 have hmk:Xn E0 30 (.int .i64 (Int.ofNat (Za l).length)) (.int .i64 (Int.ofNat (Za l).length)) hNil=some (.own 0 4 0 l.length,⟨[.cells 4 (List.replicate l.length zcT)],0,[],0⟩):=by
  have en:nat? (.int .i64 (Int.ofNat (Za l).length))=some l.length:=by rw[Zb];rfl
  simp only[Xn,eT,eE,en];rw[if_pos ⟨rfl,by decide,by omega,by omega⟩];simp[Heap.push,hNil,PV.cells]
 have hia:∀i:Nat,i<l.length→Zy E0 30 (.own 0 4 0 l.length) (.int .i64 (i:Int))=some (.ptr 0 4 (0+i) 0):=fun i hi=>by have en:nat? (.int .i64 (i:Int))=some i:=rfl;simp only[Zy,eT,en,eE,if_true];rw[if_pos hi]
 refine Yt (own:=fun d=>Nat.beq d 8) tOk fe221.ok (by simp only[ZH,Xx]) (ZJ _ _ _ _ _) ?_;refine Wp.seq ?_;repeat' first|(apply qMk;rfl;rfl;rfl;rfl;rfl;assumption)|refine KN ?_|fail
 have hl0:Za (clL (l.take 0))++List.replicate l.length zcT=List.replicate l.length zcT:=by simp[clL,Za]
 refine Wp.while (fun m tm H => ∃(i : Nat) (base : TM), i + m = l.length ∧
   tm=ovr base [(3,.own 0 4 0 l.length),(9,slV b 4 (Za l)),(10,.int .i64 (l.length:Int)),(11,.int .i64 (i:Int))]∧H=⟨[.cells 4 (Za (clL (l.take i))++List.replicate m zcT)],0,[],0⟩)
  (fun m tm H hI=>Wp.drop ?_) l.length _ _ ⟨0,_,by omega,Ze ⟨rfl,rfl,Zg (by rw[Zb]),rfl,trivial⟩,by rw[hl0]⟩
 obtain⟨i,base,hi,rfl,rfl⟩:=hI;clear hmk hl0;by_cases hlt:i<l.length
 ·obtain⟨t,ht⟩:∃t,l[i]? = some t:=⟨l[i],by simp⟩;obtain⟨m,rfl⟩:∃m',m=m'+1:=⟨m-1,by omega⟩;have hm:t∈l:=List.mem_of_getElem? ht;have hle:=Z4 hm;have hsn:=ZbQ ht;have hrep:=Zt8 (hl t hm).1 (hl t hm).2;have hDl:(Za (clL (l.take i))).length=i:=by rw[Zb,Wl,List.length_take];omega
  have hia1:=hia i hlt;obtain⟨k',nm',s',b',kz'⟩:=t;have hj:=Zj ht;rw[Tm.size]at hle;have hown:=ih (l:=kz') (fun x hx=>⟨(hl _ hm).1.kid hx,by have:=Z4 hx;omega⟩) (by omega) (by omega) b';have hfin:Za (clL (l.take (i+1)))=Za (clL (l.take i))++ [[.int .i64 k',.str nm',.int .i64 s',slV true 4 (Za (clL kz'))]]:=by rw[hsn,Zs];rfl
  generalize Za (clL (l.take i))=D at hDl hfin ⊢;rw[List.replicate_succ];obtain⟨R,hR⟩:∃R,R=List.replicate m zcT:=⟨_,rfl⟩;rw[← hR];have w1:Heap.wr ⟨[.cells 4 (D++zcT::R),.cells 4 [[.int .i64 k',.str nm',.int .i64 s',slV b' 4 (Za kz')]]],0,[],0⟩ (.ptr 0 4 (0+i) 0) [.int .i64 k',.str nm',.int .i64 s',slV true 4 (Za (clL kz'))]=some ⟨[.cells 4 (D++ [.int .i64 k',.str nm',.int .i64 s',slV true 4 (Za (clL kz'))]::R),.cells 4 [[.int .i64 k',.str nm',.int .i64 s',slV b' 4 (Za kz')]]],0,[],0⟩:=Zrs (c:=zcT) (o:=0) (vs:=[.int .i64 k',.str nm',.int .i64 s',slV true 4 (Za (clL kz'))]) hDl (Nat.le_refl 4);simp only[Z6]at hown;have w2:Heap.wr ⟨[.cells 4 (D++ [.int .i64 k',.str nm',.int .i64 s',slV true 4 (Za (clL kz'))]::R),.cells 4 [[.int .i64 k',.str nm',.int .i64 s',slV b' 4 (Za kz')]]],0,[],0⟩ (.ptr 0 4 (0+i) 3) [.sl .none 4 (Za (clL kz'))]=some ⟨[.cells 4 (D++ [.int .i64 k',.str nm',.int .i64 s',.sl .none 4 (Za (clL kz'))]::R),.cells 4 [[.int .i64 k',.str nm',.int .i64 s',slV b' 4 (Za kz')]]],0,[],0⟩:=Zrs (c:=[.int .i64 k',.str nm',.int .i64 s',slV true 4 (Za (clL kz'))]) (o:=3) (vs:=[.sl .none 4 (Za (clL kz'))]) hDl (Nat.le_refl 4);have w3:Heap.wr ⟨[.cells 4 (D++ [.int .i64 k',.str nm',.int .i64 s',.sl .none 4 (Za (clL kz'))]::R),.cells 4 [[.int .i64 k',.str nm',.int .i64 s',slV b' 4 (Za kz')]]],0,[],0⟩ (.ptr 0 4 (0+i) 3) [.nils]=some ⟨[.cells 4 (D++ [.int .i64 k',.str nm',.int .i64 s',.nils]::R),.cells 4 [[.int .i64 k',.str nm',.int .i64 s',slV b' 4 (Za kz')]]],0,[],0⟩:=Zrs (c:=[.int .i64 k',.str nm',.int .i64 s',.sl .none 4 (Za (clL kz'))]) (o:=3) (vs:=[.nils]) hDl (Nat.le_refl 4);have hlK:=Zb kz';simp only[Tm.cells,Tm.cl]at hrep;have e1:kz'= []→D++ [.int .i64 k',.str nm',.int .i64 s',.nils]::R=Za (clL (l.take (i+1)))++List.replicate m zcT:=fun e=>by rw[hfin, ← hR,e];simp only[clL,Za,Zi,List.append_assoc,List.singleton_append]
  have e2:kz'≠ []→D++ [.int .i64 k',.str nm',.int .i64 s',.sl .none 4 (Za (clL kz'))]::R=Za (clL (l.take (i+1)))++List.replicate m zcT:=fun e=>by
   rw[hfin, ← hR]
   cases kz' with
   | nil=>exact absurd rfl e
   | cons x r=>simp only[clL,Za,Zp,List.append_assoc,List.singleton_append]
  have eB:=Zgg 1 (clL (l.take (i+1))) m;repeat' first|refine Jc (hrep _) ?_|refine Jc (hown _) ?_|refine JJ ?_|refine Kx ?_|refine Jb ?_ ?_|refine Jz ?_ ?_|refine Jo ?_|intro hb
  ·(have ek : kz' = [] := by rw[hlK]at hb;exact List.length_eq_zero_iff.1 (by simpa using hb));rw[e1 ek];exact DropQ.go [(3,.own 0 4 0 l.length),(9,slV b 4 (Za l)),(10,.int .i64 (l.length:Int)),(11,.int .i64 ((i+1:Nat):Int))] ⟨rfl,rfl,rfl,Zg (Zd (n:=i+1) (by omega)),trivial⟩
    (by simp[Zl,under]) rfl (by show(Yy 1 _&&true)=true;rw[eB];rfl) (LoopI.go m (by omega) ⟨i+1,_,by omega,rfl,rfl⟩)
  ·(have ek : kz' ≠ [] := fun e => by rw[hlK,e]at hb;simp at hb);rw[e2 ek];exact DropQ.go [(3,.own 0 4 0 l.length),(9,slV b 4 (Za l)),(10,.int .i64 (l.length:Int)),(11,.int .i64 ((i+1:Nat):Int))] ⟨rfl,rfl,rfl,Zg (Zd (n:=i+1) (by omega)),trivial⟩
    (by simp[Zl,under]) rfl (by show(Yy 1 _&&true)=true;rw[eB];rfl) (LoopI.go m (by omega) ⟨i+1,_,by omega,rfl,rfl⟩)
  {exfalso;simp at hb;omega}
 ·have e:i=l.length:=by omega
  subst e;have em:m=0:=by omega
  subst em;repeat' first|refine Jz ?_ ?_|refine Jo ?_|intro hb
  {exfalso;simp at hb};{refine Zkb _ _ _ (Wl l).symm ?_;rw[List.take_length];simp;rfl}
