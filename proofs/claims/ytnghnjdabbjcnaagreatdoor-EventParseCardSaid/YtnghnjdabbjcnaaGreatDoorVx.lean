/-
  The variables of a term: the walk.
-/
import Derived.Test.YtnghnjdabbjcnaaGreatDoorVs
set_option maxHeartbeats 0
set_option maxRecDepth 100000
namespace Go.Vm.Seat
variable {t:Tm} {i o:Nat} {rest:List Box} {L:List Tm} {v:PV} {kk:Int}
open Go.Proofs
theorem ZN (m:Nat) (H:Heap) (t:Tm) (e:Int):frz3 m H (.tup [.agg t.cells,.int .i64 e])=some (.tup [.agg t.cells,.int .i64 e]):=by obtain⟨k,nm,s,b,kz⟩:=t;simp only[Tm.cells];rw[Y2];simp only[X4,frz2,XO,U2];rfl
theorem ZwL (ht:t.Ok) (hs:t.size≤100000):∀H,CO 239 [.agg t.cells,.nils,.agg t.cells] H (.tup [.agg t.cl.cells,.int .i64 0]) H:=by
 have hc:=Zuv ht hs;have hfr:=ZN 0 hNil t.cl 0;generalize t.cl=u at hc hfr ⊢;obtain⟨k,nm,s,b,kz⟩:=t;obtain⟨k',nm',s',b',kz'⟩:=u;simp only[Tm.cells]at hc hfr ⊢;refine Jw tOk fe239.ok hfr ?_;repeat' first|refine Jc (hc _) ?_|refine Jo ?_|fail
 refine Wp.while (fun m tm H=>∃base:TM,tm=ovr base [(5,.ptr 1 4 0 0),(6,.ptr 2 4 0 0),(8,.ptr 3 4 0 0),(9,.ptr 3 4 0 0),(15,.int .i64 0),(16,.int .i64 0)]∧H=⟨[.cells 4 [[.int .i64 k,.str nm,.int .i64 s,slV b 4 (Za kz)]],.cells 4 [[.int .i64 k,.str nm,.int .i64 s,slV b 4 (Za kz)]],.cells 4 [[.int .i64 0,.str [],.int .i64 0,.nils]],.cells 4 [[.int .i64 k',.str nm',.int .i64 s',slV b' 4 (Za kz')]]],0,[],0⟩)
  (fun m tm H hI=>?_) 0 _ _ ⟨_,Zd ⟨rfl,rfl,rfl,rfl,rfl,rfl,trivial⟩,rfl⟩
 obtain⟨base,rfl,rfl⟩:=hI;repeat' first|refine Jc (hc _) ?_|refine KN ?_|fail
 all_goals exact ZN _ _ (.mk k' nm' s' b' kz') 0
def zcT:List PV:=[.int .i64 0,.str [],.int .i64 0,.nils]
theorem ZtC {D R:List (List PV)} {c:List PV} {bx:List Box} {vs:List PV} (hi:D.length=i) (ho:o+vs.length≤c.length):Heap.wr ⟨.cells 4 (D++c::R)::bx,0,[],0⟩ (.ptr 0 4 (0+i) o) vs=some ⟨.cells 4 (D++(c.take o++vs++c.drop (o+vs.length))::R)::bx,0,[],0⟩:=by
 have hn:nth (D++c::R) (0+i)=some c:=by rw[Zj,Nat.zero_add, ← hi];simp
 have hs:∀y,(D++c::R).set (0+i) y=D++y::R:=fun y=>by rw[← hi,Nat.zero_add];simp
 have h0:nth (Box.cells 4 (D++c::R)::bx) 0=some (.cells 4 (D++c::R)):=rfl;rw[Nat.zero_add]at hn hs ⊢;simp only[Heap.wr,h0,if_true,hn,if_pos ho];simp only[Heap.put,Nat.not_lt_zero,if_false,hs,List.set_cons_zero,List.append_assoc]
theorem Zhd (n:Nat) (l:List Tm) (m:Nat):Ys n (.cells 4 (Za l++List.replicate m zcT))=true:=by simp only[Ys,List.all_append,Bool.and_eq_true];constructor;{rw[Yv,List.all_map,List.all_eq_true];rintro⟨k,nm,s,b,kz⟩ _;simp[Tm.cells,ZC,under,Zl]};{rw[List.all_eq_true];intro x hx;rw[(List.mem_replicate.1 hx).2];rfl}
theorem Zaz:∀l:List Tm,Yt (Za l)=some (Za l)
 | []=>rfl
 | .mk k nm s b kz::r=>by simp only[Za,Tm.cells,Yt,XK,Zaz r]
theorem ZlC (H:Heap) (l:List Tm) (k:Nat) (hk:k=l.length) (hH:nth H.bx 0=some (.cells 4 (Za l))):frz3 0 H (.own 0 4 0 k)=some (slV false 4 (Za l)):=by
 have hl:(Za l).length=k:=by rw[Zb,hk]
 have h1:((Za l).drop 0).take k=Za l:=by rw[List.drop_zero, ← hl,List.take_length]
 rw[Yo];show frzC 0 H (.own 0 4 0 k)=_;simp only[frzC,Nat.not_lt_zero,if_false,hH,true_and,Nat.zero_add,hl,Nat.le_refl,if_true,h1,Zaz]
theorem Zvb (n:Nat):∀{l:List Tm},SmL l→Zm l<n→Zm l≤100000→∀b H,CO 221 [slV b 4 (Za l)] H (slV false 4 (Za (clL l))) H:=by
 induction n with
 |zero=>intro l _ h;omega
 |succ n ih=>
 intro l hl hn hsz b;have hlen:=Yz l;have eT:E0.T 30=some ⟨.slice 39,1,24,.nils⟩:=by kernel_rfl
 have eE:E0.T 39=some ⟨.struct [(0,3),(1,9),(2,3),(3,30)],4,56,.agg zcT⟩:=by kernel_rfl
 have hmk:Xu E0 30 (.int .i64 (Int.ofNat (Za l).length)) (.int .i64 (Int.ofNat (Za l).length)) hNil=some (.own 0 4 0 l.length,⟨[.cells 4 (List.replicate l.length zcT)],0,[],0⟩):=by
  have en:nat? (.int .i64 (Int.ofNat (Za l).length))=some l.length:=by rw[Zb];rfl
  simp only[Xu,eT,eE,en];rw[if_pos ⟨rfl,by decide,by omega,by omega⟩];simp[Heap.push,hNil,PV.cells]
 have hia:∀i:Nat,i<l.length→Zz E0 30 (.own 0 4 0 l.length) (.int .i64 (i:Int))=some (.ptr 0 4 (0+i) 0):=fun i hi=>by have en:nat? (.int .i64 (i:Int))=some i:=rfl;simp only[Zz,eT,en,eE,if_true];rw[if_pos hi]
 refine ZS (own:=fun d=>Nat.beq d 8) tOk fe221.ok (by simp only[ZG,Xv]) (ZJ _ _ _ _ _) ?_;refine Wp.seq ?_;repeat' first|(apply qMk;rfl;rfl;rfl;rfl;rfl;assumption)|refine KS ?_|fail
 have hl0:Za (clL (l.take 0))++List.replicate l.length zcT=List.replicate l.length zcT:=by simp[clL,Za]
 refine Wp.while (fun m tm H => ∃(i : Nat) (base : TM), i + m = l.length ∧
   tm=ovr base [(3,.own 0 4 0 l.length),(9,slV b 4 (Za l)),(10,.int .i64 (l.length:Int)),(11,.int .i64 (i:Int))]∧H=⟨[.cells 4 (Za (clL (l.take i))++List.replicate m zcT)],0,[],0⟩)
  (fun m tm H hI=>Wp.drop ?_) l.length _ _ ⟨0,_,by omega,Zd ⟨rfl,rfl,Zg (by rw[Zb]),rfl,trivial⟩,by rw[hl0]⟩
 obtain⟨i,base,hi,rfl,rfl⟩:=hI;clear hmk hl0;by_cases hlt:i<l.length
 ·obtain⟨t,ht⟩:∃t,l[i]? = some t:=⟨l[i],by simp⟩;obtain⟨m,rfl⟩:∃m',m=m'+1:=⟨m-1,by omega⟩;have hm:t∈l:=List.mem_of_getElem? ht;have hle:=Ya hm;have hsn:=ZcD ht;have hrep:=ZwL (hl t hm).1 (hl t hm).2;have hDl:(Za (clL (l.take i))).length=i:=by rw[Zb,WG,List.length_take];omega
  have hia1:=hia i hlt;obtain⟨k',nm',s',b',kz'⟩:=t;have hj:=Zk ht;rw[Tm.size]at hle;have hown:=ih (l:=kz') (fun x hx=>⟨(hl _ hm).1.kid hx,by have:=Ya hx;omega⟩) (by omega) (by omega) b';have hfin:Za (clL (l.take (i+1)))=Za (clL (l.take i))++ [[.int .i64 k',.str nm',.int .i64 s',slV true 4 (Za (clL kz'))]]:=by rw[hsn,Zt];rfl
  generalize Za (clL (l.take i))=D at hDl hfin ⊢;rw[List.replicate_succ];obtain⟨R,hR⟩:∃R,R=List.replicate m zcT:=⟨_,rfl⟩;rw[← hR];have w1:Heap.wr ⟨[.cells 4 (D++zcT::R),.cells 4 [[.int .i64 k',.str nm',.int .i64 s',slV b' 4 (Za kz')]]],0,[],0⟩ (.ptr 0 4 (0+i) 0) [.int .i64 k',.str nm',.int .i64 s',slV true 4 (Za (clL kz'))]=some ⟨[.cells 4 (D++ [.int .i64 k',.str nm',.int .i64 s',slV true 4 (Za (clL kz'))]::R),.cells 4 [[.int .i64 k',.str nm',.int .i64 s',slV b' 4 (Za kz')]]],0,[],0⟩:=ZtC (c:=zcT) (o:=0) (vs:=[.int .i64 k',.str nm',.int .i64 s',slV true 4 (Za (clL kz'))]) hDl (Nat.le_refl 4);simp only[Yo]at hown;have w2:Heap.wr ⟨[.cells 4 (D++ [.int .i64 k',.str nm',.int .i64 s',slV true 4 (Za (clL kz'))]::R),.cells 4 [[.int .i64 k',.str nm',.int .i64 s',slV b' 4 (Za kz')]]],0,[],0⟩ (.ptr 0 4 (0+i) 3) [.sl .none 4 (Za (clL kz'))]=some ⟨[.cells 4 (D++ [.int .i64 k',.str nm',.int .i64 s',.sl .none 4 (Za (clL kz'))]::R),.cells 4 [[.int .i64 k',.str nm',.int .i64 s',slV b' 4 (Za kz')]]],0,[],0⟩:=ZtC (c:=[.int .i64 k',.str nm',.int .i64 s',slV true 4 (Za (clL kz'))]) (o:=3) (vs:=[.sl .none 4 (Za (clL kz'))]) hDl (Nat.le_refl 4);have w3:Heap.wr ⟨[.cells 4 (D++ [.int .i64 k',.str nm',.int .i64 s',.sl .none 4 (Za (clL kz'))]::R),.cells 4 [[.int .i64 k',.str nm',.int .i64 s',slV b' 4 (Za kz')]]],0,[],0⟩ (.ptr 0 4 (0+i) 3) [.nils]=some ⟨[.cells 4 (D++ [.int .i64 k',.str nm',.int .i64 s',.nils]::R),.cells 4 [[.int .i64 k',.str nm',.int .i64 s',slV b' 4 (Za kz')]]],0,[],0⟩:=ZtC (c:=[.int .i64 k',.str nm',.int .i64 s',.sl .none 4 (Za (clL kz'))]) (o:=3) (vs:=[.nils]) hDl (Nat.le_refl 4);have hlK:=Zb kz';simp only[Tm.cells,Tm.cl]at hrep;have e1:kz'= []→D++ [.int .i64 k',.str nm',.int .i64 s',.nils]::R=Za (clL (l.take (i+1)))++List.replicate m zcT:=fun e=>by rw[hfin, ← hR,e];simp only[clL,Za,Zi,List.append_assoc,List.singleton_append]
  have e2:kz'≠ []→D++ [.int .i64 k',.str nm',.int .i64 s',.sl .none 4 (Za (clL kz'))]::R=Za (clL (l.take (i+1)))++List.replicate m zcT:=fun e=>by
   rw[hfin, ← hR]
   cases kz' with
   | nil=>exact absurd rfl e
   | cons x r=>simp only[clL,Za,Zr,List.append_assoc,List.singleton_append]
  have eB:=Zhd 1 (clL (l.take (i+1))) m;repeat' first|refine Jc (hrep _) ?_|refine Jc (hown _) ?_|refine JJ ?_|refine Ku ?_|refine Jb ?_ ?_|refine Jz ?_ ?_|refine Jo ?_|intro hb
  ·(have ek : kz' = [] := by rw[hlK]at hb;exact List.length_eq_zero_iff.1 (by simpa using hb));rw[e1 ek];exact DropQ.go [(3,.own 0 4 0 l.length),(9,slV b 4 (Za l)),(10,.int .i64 (l.length:Int)),(11,.int .i64 ((i+1:Nat):Int))] ⟨rfl,rfl,rfl,Zg (Ze (n:=i+1) (by omega)),trivial⟩
    (by simp[Zl,under]) rfl (by show(Ys 1 _&&true)=true;rw[eB];rfl) (LoopI.go m (by omega) ⟨i+1,_,by omega,rfl,rfl⟩)
  ·(have ek : kz' ≠ [] := fun e => by rw[hlK,e]at hb;simp at hb);rw[e2 ek];exact DropQ.go [(3,.own 0 4 0 l.length),(9,slV b 4 (Za l)),(10,.int .i64 (l.length:Int)),(11,.int .i64 ((i+1:Nat):Int))] ⟨rfl,rfl,rfl,Zg (Ze (n:=i+1) (by omega)),trivial⟩
    (by simp[Zl,under]) rfl (by show(Ys 1 _&&true)=true;rw[eB];rfl) (LoopI.go m (by omega) ⟨i+1,_,by omega,rfl,rfl⟩)
  {exfalso;simp at hb;omega}
 ·have e:i=l.length:=by omega
  subst e;have em:m=0:=by omega
  subst em;repeat' first|refine Jz ?_ ?_|refine Jo ?_|intro hb
  {exfalso;simp at hb};{refine ZlC _ _ _ (WG l).symm ?_;rw[List.take_length];simp;rfl}
inductive Gth (rest:List Box):PV→List Tm→Prop
 |nil:Gth rest .nils []
 |own (o:Nat) (L:List Tm) (hb:rest[o]? = some (.cells 4 (Za L))) (hL:L≠ []):Gth rest (.own (o+3) 4 0 L.length) L
structure Fra (rest:List Box) (v:PV) (rest':List Box) (v':PV):Prop where
 len:rest.length≤rest'.length
 bx:∀i b,rest[i]? = some b→(∀n,v≠ .own (i+3) 4 0 n)→rest'[i]? = some b∧∀n,v'≠ .own (i+3) 4 0 n
theorem Fra.trans {r v r' v' r2 v2} (h:Fra r v r' v') (h2:Fra r' v' r2 v2):Fra r v r2 v2:=
 ⟨Nat.le_trans h.len h2.len,fun i b hb hv=>let ⟨a,c⟩:=h.bx i b hb hv;h2.bx i b a c⟩
theorem VB (A K S:Box) (rest:List Box) (b:Box):nth (A::K::S::(rest++ [b])) (rest.length+3)=some b:=by rw[Zj];simp
theorem Zds (A K S:Box) (rest:List Box) (i:Nat):nth (A::K::S::rest) (i+3)=rest[i]? :=by rw[Zj];simp
theorem Vk (l:List Tm):Yt (Za l)=some (Za l):=by
 induction l with
 |nil=>rfl
 |cons a r ih=>obtain⟨k,nm,s,b,kz⟩:=a;show Yt ([.int .i64 k,.str nm,.int .i64 s,slV b 4 (Za kz)]::Za r)=_;simp only[Yt,XK,ih];rfl
def Wh (kk:Int) (A:Box) (v:PV) (rest:List Box):Heap:=⟨A:: .cells 1 [[.int .i64 kk]]:: .cells 1 [[v]]::rest,0,[],0⟩
def Zqy (kk:Int) (A:Box) (L:List Tm) (rest:List Box) (v:PV) (H:Heap):Prop:=∃v' rest',H=Wh kk A v' rest'∧Gth rest' v' L∧Fra rest v rest' v'
abbrev Zc:List PV:=[.int .i64 0,.str [],.int .i64 0,.nils]
theorem Zpe (A K S X:Box) (rest:List Box):ZK E0 30 30 .nils (.sl .full 4 [Zc]) ⟨A::K::S::(rest++ [X]),0,[],0⟩=some (.own (rest.length+4) 4 0 1,⟨A::K::S::((rest++ [X])++ [Box.cells 4 ([]++ [Zc])]),0,[],0⟩):=by have he:=ZY (s:= .nils) YD (ElV.sl .full 4 [Zc]) rfl rfl rfl ⟨A::K::S::(rest++ [X]),0,[],0⟩;simp only[ZK,he,YH];rw[if_pos (ZQ (by simp) (by decide))];simp[Heap.push]
theorem ZoV (A K S X:Box) (hb:rest[o]? = some (.cells 4 (Za L))) (hL:L≠ []) (hlen:L.length≤100000):ZK E0 30 30 (.own (o+3) 4 0 L.length) (.sl .full 4 [Zc]) ⟨A::K::S::(rest++ [X]),0,[],0⟩=some (.own (rest.length+4) 4 0 (L.length+1),⟨A::K::S::((rest++ [X]).set o .dead++ [Box.cells 4 (Za L++ [Zc])]),0,[],0⟩):=by
 have ho:o<rest.length:=Zy hb;have hn:nth (A::K::S::(rest++ [X])) (o+3)=some (.cells 4 (Za L)):=by rw[Zds,List.getElem?_append_left ho];exact hb
 have hs:YR ⟨A::K::S::(rest++ [X]),0,[],0⟩ (.own (o+3) 4 0 L.length)=some (Za L):=by simp only[YR,hn];rw[if_pos ⟨trivial,by rw[Zb];omega⟩,List.drop_zero, ← Zb L,List.take_length];exact Vk L
 have hpos:0<L.length:=List.length_pos_iff.2 hL;have he:=ZY (s:= .own (o+3) 4 0 L.length) YD (ElV.sl .full 4 [Zc]) rfl rfl rfl ⟨A::K::S::(rest++ [X]),0,[],0⟩;simp only[ZK,he,YH,W8,hs];rw[if_pos ⟨trivial,Nat.zero_le _,Zb L,ZQ (by rw[Zb];simp;omega) (by decide)⟩];simp[Zb]
theorem ZsC {x:Tm} (kk:Int) (A:Box) (hG:Gth rest v L) (hlen:L.length≤100000):∃H',CO 188 [.agg x.cells,.ptr 1 1 0 0,.ptr 2 1 0 0] (Wh kk A v rest) (.tup []) H'∧Zqy kk A (L++if x.knd=kk then[x] else[]) rest v H':=by
 obtain⟨k,nm,s,b,kz⟩:=x;unfold Wh;refine Zbn (own:=fun d=>Nat.beq d 12||Nat.beq d 30006) tOk fe188.ok ?_;refine Wp.seq ?_;have hl5:Z2 E0 3 (.ptr (rest.length+3) 4 0 0) ⟨A:: .cells 1 [[.int .i64 kk]]:: .cells 1 [[v]]::(rest++ [Box.cells 4 [[.int .i64 k,.str nm,.int .i64 s,slV b 4 (Za kz)]]]),0,[],0⟩=some (.int .i64 k):=ZgT (ti:=⟨.int .i64,1,8,.int .i64 0⟩) rfl rfl (VB _ _ _ _ _) rfl rfl;have hl9:Z2 E0 39 (.ptr (rest.length+3) 4 0 0) ⟨A:: .cells 1 [[.int .i64 kk]]:: .cells 1 [[v]]::(rest++ [Box.cells 4 [[.int .i64 k,.str nm,.int .i64 s,slV b 4 (Za kz)]]]),0,[],0⟩=some (.agg [.int .i64 k,.str nm,.int .i64 s,slV b 4 (Za kz)]):=Vc rfl rfl (VB _ _ _ _ _) rfl rfl;cases hG with
 |nil=>
  repeat' first|refine Ki ?_|refine Jb ?_ ?_|refine Jo ?_|refine Kg ?_|intro hb
  ·apply dLd;{rfl};{rfl};{rfl};{exact hl9};{exact IsV.any _};{show Nat.blt _ _ = true;simp[Nat.blt]};(repeat' first|refine JB ?_|refine Jh ?_|fail);have hap:=Zpe A (.cells 1 [[.int .i64 kk]]) (.cells 1 [[.nils]]) (.cells 4 [[.int .i64 k,.str nm,.int .i64 s,slV b 4 (Za kz)]]) rest;have hia:Zz E0 30 (.own (rest.length+4) 4 0 1) (.int .i64 0)=some (.ptr (rest.length+4) 4 0 0):=Zbl (j:=0) rfl rfl rfl rfl (by omega);have hwr : Heap.wr ⟨A :: .cells 1 [[.int .i64 kk]] :: .cells 1 [[.nils]] :: ((rest ++ [Box.cells 4 [[.int .i64 k, .str nm, .int .i64 s, slV b 4 (Za kz)]]]) ++ [Box.cells 4 ([] ++ [Zc])]), 0, [], 0⟩ (.ptr (rest.length + 4) 4 0 0) [.int .i64 k, .str nm, .int .i64 s, slV b 4 (Za kz)] =
     some ⟨A:: .cells 1 [[.int .i64 kk]]:: .cells 1 [[.nils]]::((rest++ [Box.cells 4 [[.int .i64 k,.str nm,.int .i64 s,slV b 4 (Za kz)]]])++ [Box.cells 4 (Za [Tm.mk k nm s b kz])]),0,[],0⟩:=by
    rw[Qq (es:=4) (el:=[Zc]) (old:=Zc) (by rw[Zj];simp) rfl (by simp) (Nat.zero_le _)]
    simp[WF]
   apply Zqj;{rfl};{rfl};{rfl};{rfl};{rfl};{rfl};{exact hap};{simp};apply dIa;{rfl};{rfl};{rfl};{rfl};{exact hia};{exact IsV.any _};apply dSt;{rfl};{rfl};{rfl};{rfl};{exact IsL.n};{rfl};{simp only[List.all_cons,List.all_nil,ZU,Bool.and_true];rfl};{exact hwr};{exact IsH.mkN};{simp[Zj]};{show true=Nat.ble _ _;symm;exact Nat.ble_eq_true_of_le (by simp)};{rfl};apply dSt;{rfl};{rfl};{rfl};{rfl};{exact IsL.n};{rfl};{rfl};{rfl};{exact IsH.mkN};{rfl};{show false=Nat.ble _ _;symm;rw[Bool.eq_false_iff];intro h;have:=Nat.le_of_ble_eq_true h;simp at this};{rfl};apply DrwQ.nil;(have hkk:k=kk:=by simpa using hb);refine RetP.go rfl rfl ⟨_,(rest++ [Box.cells 4 [[.int .i64 k,.str nm,.int .i64 s,slV b 4 (Za kz)]]])++ [Box.cells 4 (Za [Tm.mk k nm s b kz])],rfl,?_,?_⟩;{rw[if_pos (show(Tm.mk k nm s b kz).knd=kk from hkk),List.nil_append];exact Gth.own (rest.length+1) [Tm.mk k nm s b kz] (by simp) (by simp)};{refine⟨by simp,fun i bx hbx _=>?_⟩;have hi:=Zy hbx;refine⟨by rw[List.append_assoc,List.getElem?_append_left hi];exact hbx,fun n hn=>?_⟩;have:rest.length+4=i+3:=(PV.own.inj hn).1;omega}
  {(have hkk:¬ k=kk:=by simpa using hb);refine RetP.go rfl rfl ⟨_,rest++ [Box.cells 4 [[.int .i64 k,.str nm,.int .i64 s,slV b 4 (Za kz)]]],rfl,?_,?_⟩;{rw[if_neg (show ¬ (Tm.mk k nm s b kz).knd=kk from hkk),List.append_nil];exact .nil};{refine⟨by simp,fun i bx hbx _=>⟨by rw[List.getElem?_append_left (Zy hbx)];exact hbx,fun n hn=>by cases hn⟩⟩}}
 |own o L hob hL=>
  have ho:o<rest.length:=Zy hob;repeat' first|refine Ki ?_|refine Jb ?_ ?_|refine Jo ?_|refine Kg ?_|intro hb
  ·apply dLd;{rfl};{rfl};{rfl};{exact hl9};{exact IsV.any _};{show Nat.blt _ _ = true;simp[Nat.blt]};(repeat' first|refine JB ?_|refine Jh ?_|fail);have hap:=ZoV A (.cells 1 [[.int .i64 kk]]) (.cells 1 [[.own (o+3) 4 0 L.length]]) (.cells 4 [[.int .i64 k,.str nm,.int .i64 s,slV b 4 (Za kz)]]) hob hL hlen;have hia:Zz E0 30 (.own (rest.length+4) 4 0 (L.length+1)) (.int .i64 (L.length:Int))=some (.ptr (rest.length+4) 4 (0+L.length) 0):=Zbl rfl rfl rfl rfl (by omega);have hwr : Heap.wr ⟨A :: .cells 1 [[.int .i64 kk]] :: .cells 1 [[.own (o + 3) 4 0 L.length]] :: ((rest ++ [Box.cells 4 [[.int .i64 k, .str nm, .int .i64 s, slV b 4 (Za kz)]]]).set o .dead ++ [Box.cells 4 (Za L ++ [Zc])]), 0, [], 0⟩ (.ptr (rest.length + 4) 4 (0 + L.length) 0) [.int .i64 k, .str nm, .int .i64 s, slV b 4 (Za kz)] =
     some ⟨A:: .cells 1 [[.int .i64 kk]]:: .cells 1 [[.own (o+3) 4 0 L.length]]::((rest++ [Box.cells 4 [[.int .i64 k,.str nm,.int .i64 s,slV b 4 (Za kz)]]]).set o .dead++ [Box.cells 4 (Za (L++ [Tm.mk k nm s b kz]))]),0,[],0⟩:=by
    rw[Qq (es:=4) (el:=Za L++ [Zc]) (old:=Zc) (by rw[Zj];simp) (by rw[Zj,Nat.zero_add,List.getElem?_append_right (by rw[Zb];omega)];simp[Zb]) (by simp) (Nat.zero_le _)]
    have e2:(Za L++ [Zc]).set (0+L.length) (List.take 0 Zc++([.int .i64 k,.str nm,.int .i64 s,slV b 4 (Za kz)]++List.drop (0+ [PV.int .i64 k,.str nm,.int .i64 s,slV b 4 (Za kz)].length) Zc))=Za (L++ [Tm.mk k nm s b kz]):=by
     rw[Zt,WF,Nat.zero_add,List.set_append_right _ _ (by rw[Zb];omega)]
     simp[Zb]
    rw[e2]
    simp
   apply Zqj;{rfl};{rfl};{rfl};{rfl};{rfl};{rfl};{exact hap};{simp};apply dIa;{rfl};{rfl};{rfl};{rfl};{exact hia};{exact IsV.any _};apply dSt;{rfl};{rfl};{rfl};{rfl};{exact IsL.n};{rfl};{simp only[List.all_cons,List.all_nil,ZU,Bool.and_true];rfl};{exact hwr};{exact IsH.mkN};{simp[Zj]};{show true=Nat.ble _ _;symm;exact Nat.ble_eq_true_of_le (by simp)};{rfl};apply dSt;{rfl};{rfl};{rfl};{rfl};{exact IsL.n};{rfl};{rfl};{rfl};{exact IsH.mkN};{rfl};{show false=Nat.ble _ _;symm;rw[Bool.eq_false_iff];intro h;have:=Nat.le_of_ble_eq_true h;simp at this};{rfl};apply DrwQ.nil;(have hkk:k=kk:=by simpa using hb);refine RetP.go rfl rfl ⟨_,(rest++ [Box.cells 4 [[.int .i64 k,.str nm,.int .i64 s,slV b 4 (Za kz)]]]).set o .dead++ [Box.cells 4 (Za (L++ [Tm.mk k nm s b kz]))],rfl,?_,?_⟩;{rw[if_pos (show(Tm.mk k nm s b kz).knd=kk from hkk)];have:=Gth.own (rest:=(rest++ [Box.cells 4 [[.int .i64 k,.str nm,.int .i64 s,slV b 4 (Za kz)]]]).set o .dead++ [Box.cells 4 (Za (L++ [Tm.mk k nm s b kz]))]) (rest.length+1) (L++ [Tm.mk k nm s b kz]) (by simp) (by simp);rw[List.length_append]at this;exact this};{refine⟨by simp;omega,fun i bx hbx hv=>?_⟩;have hi:=Zy hbx;have hio:i≠o:=fun e=>hv L.length (by rw[e]);refine⟨?_,fun n hn=>?_⟩;{rw[List.getElem?_append_left (by simp;omega),List.getElem?_set_ne (Ne.symm hio),List.getElem?_append_left hi];exact hbx};{have:rest.length+4=i+3:=(PV.own.inj hn).1;omega}}
  {(have hkk:¬ k=kk:=by simpa using hb);refine RetP.go rfl rfl ⟨_,rest++ [Box.cells 4 [[.int .i64 k,.str nm,.int .i64 s,slV b 4 (Za kz)]]],rfl,?_,?_⟩;{rw[if_neg (show ¬ (Tm.mk k nm s b kz).knd=kk from hkk),List.append_nil];exact .own o L (by rw[List.getElem?_append_left ho];exact hob) hL};{refine⟨by simp,fun i bx hbx hv=>⟨by rw[List.getElem?_append_left (Zy hbx)];exact hbx,hv⟩⟩}}
theorem Gth.lt (h:Gth rest v L) (hi:rest.length≤i):∀n,v≠ .own (i+3) 4 0 n:=by
 cases h with
 |nil=>intro n hn;cases hn
 |own o L hb hL=>intro n hn;have h1:=Zy hb;have:o+3=i+3:=(PV.own.inj hn).1;omega
theorem Gth.app (h:Gth rest v L) (l:List Box):Gth (rest++l) v L:=by
 cases h with
 |nil=>exact .nil
 |own o L hb hL=>exact .own o L (by rw[List.getElem?_append_left (Zy hb)];exact hb) hL
theorem Fra.app (rest:List Box) (v:PV) (l:List Box):Fra rest v (rest++l) v:=
 ⟨by simp,fun i b hb hv=>⟨by rw[List.getElem?_append_left (Zy hb)];exact hb,hv⟩⟩
theorem Zma {k:Int} {nm:List UInt8} {s:Int} {b:Bool} {kz:List Tm}:UD kk (Tm.mk k nm s b kz).all=(if(Tm.mk k nm s b kz).knd=kk then[Tm.mk k nm s b kz] else[])++UD kk (Ug kz):=by simp only[Tm.all,UD,List.filter_cons];by_cases c:(Tm.mk k nm s b kz).knd=kk<;>simp[c]
theorem Zlo {l l':List Tm}:UD kk (l++l')=UD kk l++UD kk l':=List.filter_append _ _
theorem Zny (kk:Int) (A:Box) (ht:t.Ok):∀{rest:List Box} {v:PV} {L:List Tm},Gth rest v L→L.length+t.size≤100000→∃H',CO 187 [.agg t.cells,.fn 188 [.ptr 1 1 0 0,.ptr 2 1 0 0]] (Wh kk A v rest) (.tup []) H'∧Zqy kk A (L++UD kk t.all) rest v H':=by
 induction ht with
 | @mk k nm s b kz hk hs hn hl hok ih=>
 intro rest v L hG hsz;simp only[Tm.size]at hsz;have hGt:=hG.lt (Nat.le_refl _);obtain⟨H1,hc,v1,rest1,rfl,hG1,hF1⟩:=ZsC (x:=Tm.mk k nm s b kz) kk A (hG.app [Box.cells 4 [[.int .i64 k,.str nm,.int .i64 s,slV b 4 (Za kz)]]]) (by omega);have hTB:=(hF1.bx rest.length (.cells 4 [[.int .i64 k,.str nm,.int .i64 s,slV b 4 (Za kz)]]) (by simp) hGt).1;unfold Wh at hc ⊢;refine Zbn (own:=fun _=>false) tOk fe187.ok ?_;refine Wp.seq ?_;have hl7:Z2 E0 39 (.ptr (rest.length+3) 4 0 0) ⟨A:: .cells 1 [[.int .i64 kk]]:: .cells 1 [[v]]::(rest++ [Box.cells 4 [[.int .i64 k,.str nm,.int .i64 s,slV b 4 (Za kz)]]]),0,[],0⟩=some (.agg [.int .i64 k,.str nm,.int .i64 s,slV b 4 (Za kz)]):=Vc rfl rfl (VB _ _ _ _ _) rfl rfl;have hl10:Z2 E0 30 (.ptr (rest.length+3) 4 0 3) ⟨A:: .cells 1 [[.int .i64 kk]]:: .cells 1 [[v1]]::rest1,0,[],0⟩=some (slV b 4 (Za kz)):=ZgT rfl rfl ((Zds _ _ _ _ _).trans hTB) rfl rfl;repeat' first|refine Jc hc ?_|refine Ki ?_|refine KS ?_|fail
 rw[show(Tm.mk k nm s b kz).knd=k from rfl]at hG1;refine Wp.while (fun m tm H => ∃(i : Nat) (base : TM) (v' : PV) (rest' : List Box), i + m = kz.length ∧ Gth rest' v' (L ++ ((if k = kk then[Tm.mk k nm s b kz] else[]) ++ UD kk (Ug (kz.take i)))) ∧ Fra rest v rest' v' ∧
   tm=ovr base [(1,.fn 188 [.ptr 1 1 0 0,.ptr 2 1 0 0]),(10,slV b 4 (Za kz)),(11,.int .i64 (kz.length:Int)),(12,.int .i64 (i:Int))]∧H=⟨A:: .cells 1 [[.int .i64 kk]]:: .cells 1 [[v']]::rest',0,[],0⟩)
  (fun m tm H hI=>?_) kz.length _ _ ⟨0,_,v1,rest1,by omega,by simpa[Ug,UD] using hG1,(Fra.app rest v _).trans hF1,Zd ⟨rfl,rfl,Zg (by rw[Zb]),rfl,trivial⟩,rfl⟩
 clear hl7 hl10 hG1 hF1 hTB hc;obtain⟨i,base,v',rest',hi,hG',hF',rfl,rfl⟩:=hI;unfold maxLen at hl;by_cases hlt:i<kz.length
 ·obtain⟨t',ht'⟩:∃t',kz[i]? = some t':=⟨kz[i],by simp⟩;have hm:t'∈kz:=List.mem_of_getElem? ht';have hs2:=Zdp ht';have hst:=WJ ht';have hsl:=ZD kz (i+1);have hlen1:(UD kk (Ug (kz.take i))).length≤Zm (kz.take i):=by rw[← UW];exact Zae _ _
  have hlen2:(if k=kk then[Tm.mk k nm s b kz] else[]).length≤1:=by split<;>simp
  have hj0:=ht';obtain⟨k',nm',s',b',kz'⟩:=t';have hj:=Zk ht';obtain⟨H1,hc,v2,rest2,rfl,hG2,hF2⟩:=ih _ hm (hG'.app [Box.cells 4 [[.int .i64 k',.str nm',.int .i64 s',slV b' 4 (Za kz')]]]) (by simp only[List.length_append];omega);unfold Wh at hc;have hwr : Heap.wr ⟨A :: .cells 1 [[.int .i64 kk]] :: .cells 1 [[v']] :: (rest' ++ [Box.cells 4 [Zc]]), 0, [], 0⟩ (.ptr (rest'.length + 3) 4 0 0) [.int .i64 k', .str nm', .int .i64 s', slV b' 4 (Za kz')] =
    some ⟨A:: .cells 1 [[.int .i64 kk]]:: .cells 1 [[v']]::(rest'++ [Box.cells 4 [[.int .i64 k',.str nm',.int .i64 s',slV b' 4 (Za kz')]]]),0,[],0⟩:=by
   rw[Qq (es:=4) (el:=[Zc]) (old:=Zc) (VB _ _ _ _ _) rfl (by simp) (Nat.zero_le _)]
   simp
  have hl16:Z2 E0 39 (.ptr (rest'.length+3) 4 0 0) ⟨A:: .cells 1 [[.int .i64 kk]]:: .cells 1 [[v']]::(rest'++ [Box.cells 4 [[.int .i64 k',.str nm',.int .i64 s',slV b' 4 (Za kz')]]]),0,[],0⟩=some (.agg [.int .i64 k',.str nm',.int .i64 s',slV b' 4 (Za kz')]):=Vc rfl rfl (VB _ _ _ _ _) rfl rfl;repeat' first|refine Jc hc ?_|refine Ki ?_|refine Jx ?_|refine Jz ?_ ?_|refine Jo ?_|intro hb
  {refine LoopI.go (m-1) (by omega) ⟨i+1,_,v2,rest2,by omega,?_,(hF'.trans (Fra.app rest' v' _)).trans hF2,Zd ⟨rfl,rfl,rfl,Zg (Ze (n:=i+1) (by omega)),trivial⟩,rfl⟩;rw[hs2,Zlo];simpa only[List.append_assoc] using hG2};{exfalso;simp at hb;omega}
 ·have e:i=kz.length:=by omega
  subst e;rw[List.take_length]at hG';repeat' first|refine Jz ?_ ?_|refine Jo ?_|intro hb
  {exfalso;simp at hb};{exact RetP.go rfl rfl ⟨v',rest',rfl,by rw[Zma];exact hG',hF'⟩}
