/-
  Moments alone: the program's text.
-/
import Derived.Test.YtnghnjdabbjcnaaGreatDoorVAwSort
set_option maxHeartbeats 0
set_option maxRecDepth 100000
namespace Go.Vm.Seat
variable {bx:List Box} {L:List Tm} {t:Tm}
open Go.Proofs
theorem Zny {id : Nat} (hid : bx[id]? = some (.cells 4 (Za L))) (hL : L ≠ []) (hok : ∀x, x ∈ L → x.Ok ∧ x.size ≤ 100000) (hlen : L.length ≤ 100000) :
  CO 34 [.own id 4 0 L.length,.fn 35 []] ⟨bx,0,[],0⟩ (.tup []) ⟨bx.set id (.cells 4 (Za (Uh L))),0,[],0⟩:=
 Zoc (E:=E0) (E1:=E1) (H:=⟨bx,0,[],0⟩) fe34.ok fe35.ok ⟨rfl,rfl⟩ rfl
  (fun enc h4 h1 cf hO blk off cap d w eg hcmp hH hblk hsz=>AnyQ.slices_SortFunc_eq Tryz.sortTm 4 Tryz.isAgg39 Tryz.sizeOf39 enc h4 h1 cf hO 35 #[] blk off cap d w eg hcmp hH hblk hsz)
  hL (N:=100000) (fun t ht=>(hok t ht).2) (fun a b ha hb=>d35 (hok a ha).1 (hok b hb).1 (by have:=(hok a ha).2;omega) (by have:=(hok b hb).2;omega) _) (by omega) hid (Nat.zero_le _)
def Zsm (id:Nat) (r:PV) (H:Heap):Prop:=∃(M:List Tm) (D:List (List PV)),r= .own id 4 0 M.length∧M≠ []∧nth H.bx id=some (.cells 4 (Za M++D))
theorem ZoH {id:Nat} (hid:bx[id]? = some (.cells 4 (Za L))) (hL:L≠ []) (hok:∀x,x∈L→x.Ok∧x.size≤100000) (hlen:L.length≤100000):∃r H',CO 189 [.own id 4 0 L.length] ⟨bx,0,[],0⟩ r H'∧Zsm id r H':=by
 have hlt:=Zz hid;have hs:=Zny hid hL hok hlen;have hp:=ZgS hL (N:=100000) fun t ht=>(hok t ht).2;have hsl:(Uh L).length=L.length:=hp.length_eq;have hsne:Uh L≠ []:=fun h=>by rw[h]at hsl;exact hL (List.length_eq_zero_iff.1 hsl.symm)
 have hsm:∀x,x∈Uh L→x∈L:=fun x hx=>hp.mem_iff.1 hx;obtain⟨r1,H1,hc,M,D,rfl,rfl,hMl,hMne,hMm⟩:=ZgZ (id:=id) (bx:=bx.set id (.cells 4 (Za (Uh L)))) (L:=Uh L) (by simp[hlt]) (fun x hx=>hok x (hsm x hx)) (by omega);rw[hsl]at hc;rw[List.set_set]at hc;have hMne:=hMne hsne;refine Zt (own:=fun _=>false) tOk fe189.ok ?_;refine Wp.seq ?_;repeat' first|refine Jc hs ?_|refine Jc hc ?_|refine Jo ?_|fail
 refine Wp.while (fun m tm H=>∃(i:Nat) (base:TM),i+m=M.length∧tm=ovr base [(0,.own id 4 0 M.length),(9,.int .i64 (M.length:Int)),(10,.int .i64 (i:Int))]∧H=⟨bx.set id (.cells 4 (Za (clL (M.take i)++M.drop i)++D)),0,[],0⟩)
  (fun m tm H hI=>?_) M.length _ _ ⟨0,_,by omega,Ze ⟨rfl,rfl,rfl,trivial⟩,by simp[clL]⟩
 obtain⟨i,base,hi,rfl,rfl⟩:=hI;have hnb:nth (bx.set id (.cells 4 (Za (clL (M.take i)++M.drop i)++D))) id=some (.cells 4 (Za (clL (M.take i)++M.drop i)++D)):=by rw[Zm];simp[hlt]
 by_cases hilt:i<M.length
 ·obtain⟨x,hx⟩:∃x,M[i]? = some x:=⟨M[i],by simp⟩;have hxm:=hMm x (List.mem_of_getElem? hx);have hxo:=hok x (hsm x hxm);have hlen1:(clL (M.take i)).length=i:=by rw[Wl,List.length_take];omega
  have hat:(clL (M.take i)++M.drop i)[i]? = some x:=by rw[List.getElem?_append_right (by omega),hlen1,Nat.sub_self,List.getElem?_drop];simpa using hx
  have hnext:(clL (M.take i)++M.drop i).set i x.cl=clL (M.take (i+1))++M.drop (i+1):=by rw[ZbQ hx,Zw hx,List.set_append_right _ _ (by omega),hlen1,Nat.sub_self];simp
  have hcell:nth (Za (clL (M.take i)++M.drop i)++D) i=some x.cells:=by obtain⟨k,nm,s,b,kz⟩:=x;rw[Zm,List.getElem?_append_left (by rw[Zb];exact Zz hat)];exact Zj hat
  have hi1:=ZeU (id:=id) (ix:=0) (len:=M.length) hilt;have hl1:ZZ E0 39 (.ptr id 4 (0+i) 0) ⟨bx.set id (.cells 4 (Za (clL (M.take i)++M.drop i)++D)),0,[],0⟩=some (.agg x.cells):=by rw[Nat.zero_add];exact WT rfl rfl hnb hcell (by obtain⟨k,nm,s,b,kz⟩:=x;rfl)
  have hcl:=Ztl hxo.1 hxo.2;have hst:Heap.wr ⟨bx.set id (.cells 4 (Za (clL (M.take i)++M.drop i)++D)),0,[],0⟩ (.ptr id 4 (0+i) 0) x.cl.cells=some ⟨bx.set id (.cells 4 (Za (clL (M.take (i+1))++M.drop (i+1))++D)),0,[],0⟩:=by rw[Nat.zero_add,U6 hnb hcell (by obtain⟨k,nm,s,b,kz⟩:=x;simp[Tm.cells,Tm.cl]) (Nat.zero_le _),List.set_set, ← hnext, ← Zbm,List.set_append_left _ _ (by rw[Zb];exact Zz hat)];obtain⟨k,nm,s,b,kz⟩:=x;simp[Tm.cells,Tm.cl]
  obtain⟨k,nm,s,b,kz⟩:=x;simp only[Tm.cl,Tm.cells]at hst hl1 hcl;repeat' first|refine Jc (hcl _) ?_|refine JJ ?_|refine Kf ?_|refine Jz ?_ ?_|refine Jo ?_|intro hb
  {exact LoopI.go (m-1) (by omega) ⟨i+1,_,by omega,Ze ⟨rfl,rfl,Zg (Zd (n:=i+1) (by omega)),trivial⟩,rfl⟩};{exfalso;simp at hb;omega}
 ·have e:i=M.length:=by omega
  subst e;rw[List.take_length,List.drop_length,List.append_nil]at hnb;rw[List.take_length,List.drop_length,List.append_nil];repeat' first|refine Jz ?_ ?_|refine Jo ?_|intro hb
  {exfalso;simp at hb};{refine RetR.ret rfl ⟨clL M,D,by rw[Wl];rfl,fun h=>?_,hnb⟩;have:=Wl M;rw[h]at this;exact hMne (List.length_eq_zero_iff.1 this.symm)}
theorem Zm9:∀H,CO 189 [.nils] H .nils H:=
 XB (x:=⟨189,[.nils],.nils⟩) tOk follows fOk zOk (fuel:=100) (k:=60) (by kernel_rfl)
theorem Zqr {H:Heap} {id:Nat} {M:List Tm} {D:List (List PV)} (hM:M≠ []) (hH:nth H.bx id=some (.cells 4 (Za M++D))):frz3 0 H (.own id 4 0 M.length)=some (slV true 4 (Za M)):=by
 have e:slV true 4 (Za M)= .sl .none 4 (Za M):=by
  cases M with
  | nil=>exact absurd rfl hM
  | cons a r =>
    obtain⟨k,nm,s,b,kz⟩:=a
    exact Zp _ _ _ _
 rw[e];have h1:((Za M++D).drop 0).take M.length=Za M:=by rw[List.drop_zero, ← Zb M,List.take_left]
 show frzC 0 H (.own id 4 0 M.length)=_;simp only[frzC,Nat.not_lt_zero,if_false,hH,true_and,Nat.zero_add,List.length_append,Zb,Nat.le_add_right,if_true,h1,W8]
theorem Zt1 (ht:t.Ok) (hsz:t.size≤90000) (kk:Int):∃M:List Tm,(M= []↔VE kk t.all= [])∧∀H,CO 160 [.agg t.cells,.int .i64 kk] H (slV true 4 (Za M)) H:=by
 have hao:=Zmk ht;have hal:=t.all_len;have hkl:=QG kk t.all;obtain⟨H1,hc,v',rest',rfl,hG,hF⟩:=ZmD kk (.cells 4 [t.cells]) ht (rest:=[]) (v:= .nils) (L:=[]) .nil (by simp;omega);rw[List.nil_append]at hG;have hkm:∀x,x∈VE kk t.all→x.Ok∧x.size≤100000:=fun x hx=>by have:=hao x (List.mem_filter.1 hx).1;exact⟨this.1,by omega⟩
 generalize VE kk t.all=L at hG hkl hkm ⊢;unfold Wh at hc;obtain⟨k,nm,s,b,kz⟩:=t;simp only[Tm.cells]at hc;cases hG with
 |nil=>
  refine⟨[],by simp,?_⟩;rw[show slV true 4 (Za [])= .nils from Zi 4];have ho:=Zm9 ⟨.cells 4 [[.int .i64 k,.str nm,.int .i64 s,slV b 4 (Za kz)]]:: .cells 1 [[.int .i64 kk]]:: .cells 1 [[.nils]]::rest',0,[],0⟩;refine Jw tOk fe160.ok rfl ?_ (by simp[ZH,frzG,Tm.cells,XA,frz1]);repeat' first|refine Jc hc ?_|refine Jc ho ?_|refine Jo ?_|fail
  all_goals rfl
 |own o L hob hL=>
  obtain⟨r,H',ho,M,D,rfl,hMne,hnb⟩:=ZoH (id:=o+3) (bx:= .cells 4 [[.int .i64 k,.str nm,.int .i64 s,slV b 4 (Za kz)]]:: .cells 1 [[.int .i64 kk]]:: .cells 1 [[.own (o+3) 4 0 L.length]]::rest') (L:=L) (by simpa using hob) hL hkm (by omega);refine⟨M,by simp[hMne,hL],?_⟩;have hfin:=Zqr hMne hnb;obtain⟨bx',ro',lv',nt'⟩:=H';refine Jw tOk fe160.ok (ZJ _ _ _ _ _) ?_ (by simp[ZH,frzG,Tm.cells,XA,frz1]);repeat' first|refine Jc hc ?_|refine Jc ho ?_|refine Jo ?_|fail
  exact hfin
theorem Zvc (ht:t.Ok) (hsz:t.size≤90000):∃M:List Tm,(M= []↔VE 1 t.all= [])∧∀H,CO 120 [.agg t.cells] H (slV true 4 (Za M)) H:=by
 obtain⟨M,hM,hc⟩:=Zt1 ht hsz 1;refine⟨M,hM,?_⟩;obtain⟨k,nm,s,tb,kz⟩:=t;refine Jw tOk fe120.ok (ZJ _ _ _ _ _) ?_;repeat' first|refine Jc (hc _) ?_|refine Jo ?_|fail
 exact ZJ _ _ _ _ _
end Go.Vm.Seat
namespace Go.Vm
variable {l:List Tm} {i:Nat} {t:Tm}
def dsN (nm:Bs):Bool:= !decide ((YQ nm).kind=3)
mutual
def Tm.dsR:Tm→Bool
 | .mk k nm _ _ kz=>(if k=3 then dsN nm else true)&&Zj3 kz
def Zj3:List Tm→Bool
 | []=>true
 |t::r=>t.dsR&&Zj3 r
end
def ds1 (x:Tm):Bool:=match x with| .mk k nm _ _ _=> !(decide (k=3)&&decide ((YQ nm).kind=3))
mutual
theorem ZlP:∀t:Tm,t.dsR=t.all.all ds1
 | .mk k nm s b kz=>by rw[Tm.dsR,Tm.all,List.all_cons,ZiW kz];congr 1;show _= !(decide (k=3)&&decide ((YQ nm).kind=3));unfold dsN;by_cases h:k=3<;>simp[h]
theorem ZiW:∀l:List Tm,Zj3 l=(Qx l).all ds1
 | []=>rfl
 |t::r=>by rw[Zj3,Qx,List.all_append,ZlP t,ZiW r]
end
theorem ZmJ (t:Tm):t.dsR=t.dsB:=ZlP t
theorem Zi2 {e:Bool} (h:l[i]? = some t) (he:t.dsR=e):Zj3 (l.drop i)=(e&&Zj3 (l.drop (i+1))):=by rw[Zw h];simp only[Zj3,he]
theorem ZkS (h:l[i]? = some t):(l.drop i).all ds1=(ds1 t&&(l.drop (i+1)).all ds1):=by rw[Zw h];rfl
theorem Zhv (a b:Tm):decide (a.cmp b=0)=decide (b.cmp a=0):=by by_cases h:a.cmp b=0;{rw[decide_eq_true h,decide_eq_true (XG.2 (XG.1 h).symm)]};{rw[decide_eq_false h,decide_eq_false fun h2=>h (XG.2 (XG.1 h2).symm)]}
theorem Ztt {c:Bool} (ht:t.Ok) (h:(t.nf c).2=0):(t.nf c).1.Ok∧(t.nf c).1.size≤400:=by revert h;unfold Tm.nf;split;{rename_i h1;intro h;exact absurd h h1};rename_i h1;split;{rename_i h2;intro h;exact absurd h h2};rename_i h2;split;{rename_i h3;intro h;exact absurd h h3};split;{rename_i h4;intro h;exact absurd h h4};rename_i h4;intro _;have hs:=YT (Classical.not_not.1 h1);exact⟨cls_ok.nrm t (Classical.not_not.1 h2) (by omega) ht,YT (Classical.not_not.1 h4)⟩
def Tm.rgt (t:Tm):Int:=if(if t.valid≠0 then t.valid else t.th)≠0 then(if t.valid≠0 then t.valid else t.th) else if t.ground=false then 13 else if t.plainB true=false then 10 else 0
end Go.Vm
namespace Go.Vm.Seat
variable {t:Tm}
open Go.Proofs
theorem ZuV (nm:Bs):∀H,CO 164 [.str nm] H (.bool (dsN nm)) H:=by
 have hc:=ZtR nm;unfold dsN;generalize YQ nm=y at hc;obtain⟨sn,sl,sm,sk⟩:=y;have hn:=Q9 sk 3;generalize decide (sk=3)=D at hn ⊢;simp only[Sym.cells]at hc;refine Jw tOk fe164.ok rfl ?_;cases D;all_goals
  repeat' first|refine Jc (hc _) ?_|refine Kg ?_|fail
  all_goals rfl
theorem evP (ht:t.Ok):∀H,CO 163 [.agg t.cells,.fn 164 []] H (.bool t.dsR) H:=by
 induction ht with
 | @mk k nm s b kz hk hs hn hl hok ih=>
 have hc:=ZuV nm;simp only[Tm.dsR];generalize dsN nm=e at hc;refine Jw tOk fe163.ok rfl ?_;repeat' first|refine Jk ?_|refine Jc (hc _) ?_|refine Kv ?_|refine Jb ?_ ?_|refine Jo ?_|intro hb
 {have h1:= ‹(k==3)=true›;simp at h1 hb;simp[h1,hb]};all_goals
  have he:(if k=3 then e else true)=true:=by
   first
    | (have h1:= ‹(k==3)=true›;simp at h1 hb;simp[h1,hb];done)
    | (simp at hb;simp[hb];done)
  rw[he,Bool.true_and]
  clear hc
  unfold maxLen at hl
  refine Wp.while (fun m tm H=>∃(i:Nat),∃base,i+m=kz.length∧Zj3 kz=Zj3 (kz.drop i)∧tm=ovr base [(1,.fn 164 []),(18,slV b 4 (Za kz)),(19,.int .i64 (kz.length:Int)),(20,.int .i64 (i:Int))]∧H=⟨[.cells 4 [[.int .i64 k,.str nm,.int .i64 s,slV b 4 (Za kz)]]],0,[],0⟩)
   (fun m tm H hI=>Wp.drop ?_) kz.length _ _ ⟨0,_,by omega,by simp,Ze ⟨rfl,rfl,Zg (by rw[Zb]),rfl,trivial⟩,rfl⟩
  obtain⟨i,base,hi,hgo,rfl,rfl⟩:=hI
  rw[hgo]
  by_cases hlt:i<kz.length
  · obtain⟨t', ht'⟩ : ∃t', kz[i]? = some t' := ⟨kz[i], by simp⟩
    have hm:t'∈kz:=List.mem_of_getElem? ht'
    have hc:=ih t' hm
    obtain⟨e1,he1⟩:∃e1,t'.dsR=e1:=⟨_,rfl⟩
    rw[he1]at hc
    rw[Zi2 ht' he1]
    obtain⟨k',nm',s',b',kz'⟩:=t'
    have hj:=Zj ht'
    repeat' first|refine Jc (hc _) ?_|refine Jx ?_|refine Jt ?_|refine Jb ?_ ?_|refine Jz ?_ ?_|refine Jo ?_|intro hb
    · simp at hb;simp[hb]
    · have h1 : e1 = true := by simpa using hb
      rw[h1,Bool.true_and]
      exact DropQ.go [(1,.fn 164 []),(18,slV b 4 (Za kz)),(19,.int .i64 (kz.length:Int)),(20,.int .i64 ((i+1:Nat):Int))] ⟨rfl,rfl,rfl,Zg (Zd (n:=i+1) (by omega)),trivial⟩
       (by simp[Zl,under,ZO]) rfl (by simp[Yy,ZO,Zl,under]) (LoopI.go (m-1) (by omega) ⟨i+1,_,by omega,rfl,rfl,rfl⟩)
    · exfalso;simp at hb;omega
  · have e : i = kz.length := by omega
    subst e
    repeat' first|refine Jt ?_|refine Jz ?_ ?_|refine Jo ?_|intro hb
    · exfalso;simp at hb
    · simp[Zj3]
theorem Zon (a b:Int):XM E0 .eql 25 (.int .i64 a) (.int .i64 b)=some (.bool (decide (a=b))):=by show some (PV.bool (a==b))=_;by_cases h:a=b<;>simp[h]
theorem WZ (a b:Int):XM E0 .neq 25 (.int .i64 a) (.int .i64 b)=some (.bool (!decide (a=b))):=by show some (PV.bool (!(a==b)))=_;by_cases h:a=b<;>simp[h]
theorem Zvx (ht:t.Ok) (hs:t.size≤100000):∀H,CO 121 [.agg t.cells] H (.bool (t.plainB true)) H:=by
 have hN:=Zuz ht hs;have hE:=evP ht;rw[ZmJ]at hE;unfold Tm.plainB;have hq:=Zon (t.nf true).2 0;by_cases h:(t.nf true).2=0
 ·obtain⟨n1,n2⟩:=Ztt (c:=true) ht h;have hS:=ZqM ⟨n1,by omega⟩ ⟨ht,hs⟩;generalize decide ((t.nf true).1.cmp t=0)=S at hS ⊢;generalize t.dsB=D at hE ⊢;rw[decide_eq_true h,h]at hq;rw[decide_eq_true h,Bool.true_and];rw[h]at hN;generalize (t.nf true).1=U at hN hS;obtain⟨k,nm,s,b,kz⟩:=t;obtain⟨k2,nm2,s2,b2,kz2⟩:=U;simp only[Tm.cells]at hN hE hS ⊢;refine Jw tOk fe121.ok rfl ?_;cases S;{skip;(repeat' first|refine Jk ?_|refine Jc (hN _) ?_|refine Jc (hS _) ?_|refine Kg ?_|fail);all_goals rfl}
  ·cases D;all_goals
    repeat' first|(apply qCl;rfl;rfl;rfl;rfl;first|exact hN _|exact hS _|exact hE _)|refine Kg ?_|fail
    all_goals rfl
 ·rw[decide_eq_false h]at hq;rw[decide_eq_false h];generalize (t.nf true).2=v at hN hq;generalize (t.nf true).1=U at hN ⊢;obtain⟨k,nm,s,b,kz⟩:=t;obtain⟨k2,nm2,s2,b2,kz2⟩:=U;simp only[Tm.cells]at hN ⊢;refine Jw tOk fe121.ok rfl ?_;repeat' first|refine Jk ?_|refine Jc (hN _) ?_|refine Kg ?_|fail
  all_goals rfl
theorem ZvW (ht:t.Ok) (hs:t.size≤100000):∀H,CO 124 [.agg t.cells] H (.bool (t.plainB false)) H:=by
 have hN:=c168 ht hs;have hA:=ZtT ht hs;have hal:=t.all_len;have hB:t.dsB=t.all.all ds1:=rfl;unfold Tm.plainB;rw[hB];have hq:=WZ (t.nf false).2 0;by_cases h:(t.nf false).2=0
 ·obtain⟨n1,n2⟩:=Ztt (c:=false) ht h;have hS:=ZeR ⟨ht,by omega⟩ ⟨n1,by omega⟩;rw[Zhv]at hS;generalize decide ((t.nf false).1.cmp t=0)=S at hS ⊢;rw[decide_eq_true h,h,Bool.not_true]at hq;rw[decide_eq_true h,Bool.true_and];rw[h]at hN;generalize (t.nf false).1=U at hN hS;generalize t.all=l at hA hal ⊢;obtain⟨k,nm,s,b,kz⟩:=t;obtain⟨k2,nm2,s2,b2,kz2⟩:=U;simp only[Tm.cells]at hN hA hS ⊢;refine Jw tOk fe124.ok rfl ?_;cases S;{skip;(repeat' first|refine Jc (hN _) ?_|refine Jc (hS _) ?_|refine Kg ?_|fail);all_goals rfl}
  ·rw[Bool.true_and];(repeat' first|(apply qCl;rfl;rfl;rfl;rfl;first|exact hN _|exact hS _|exact hA _)|refine Kg ?_|fail);refine Wp.while (fun m tm H=>∃(i:Nat),∃base,i+m=l.length∧l.all ds1=(l.drop i).all ds1∧tm=ovr base [(5,slV false 4 (Za l)),(6,.int .i64 (i:Int))]∧H=⟨[.cells 4 [[.int .i64 k,.str nm,.int .i64 s,slV b 4 (Za kz)]],.cells 4 [[.int .i64 k2,.str nm2,.int .i64 s2,slV b2 4 (Za kz2)]]],0,[],0⟩)
    (fun m tm H hI=>?_) l.length _ _ ⟨0,_,by omega,by simp,Ze ⟨rfl,rfl,trivial⟩,rfl⟩
   obtain⟨i,base,hi,hall,rfl,rfl⟩:=hI;rw[hall];have hcl:=Zb l;by_cases hlt:i<l.length;{obtain⟨x,hx⟩:∃x,l[i]? = some x:=⟨l[i],by simp⟩;rw[ZkS hx];obtain⟨k',nm',s',b',kz'⟩:=x;have hj:=Zj hx;have hc2:=Zsa nm';have hlx:=Zu (i:Int) ((Za l).length:Int);rw[decide_eq_true (by omega)]at hlx;have q1:=Z8 k' 3;have q2:=Z8 (YQ nm').kind 3;simp only[ds1];generalize (YQ nm').kind=B at hc2 q2 ⊢;generalize decide (k'=3)=C1 at q1 ⊢;generalize decide (B=3)=C2 at q2 ⊢;cases C1;{skip;(repeat' first|refine Jk ?_|refine KE ?_|fail);exact LoopI.go (m-1) (by omega) ⟨i+1,_,by omega,rfl,Ze ⟨rfl,Zg (Zd (n:=i+1) (by omega)),trivial⟩,rfl⟩};{cases C2;{skip;(repeat' first|refine Jc (hc2 _) ?_|refine KE ?_|fail);exact LoopI.go (m-1) (by omega) ⟨i+1,_,by omega,rfl,Ze ⟨rfl,Zg (Zd (n:=i+1) (by omega)),trivial⟩,rfl⟩};{skip;(repeat' first|refine Jc (hc2 _) ?_|refine KE ?_|fail);all_goals rfl}}};{(have e:i=l.length:=by omega);subst e;have hlx:=Zu (l.length:Int) ((Za l).length:Int);rw[decide_eq_false (by omega)]at hlx;(repeat' first|refine Ko ?_|fail);rw[List.drop_length];rfl}
 ·rw[decide_eq_false h,Bool.not_false]at hq;rw[decide_eq_false h];generalize (t.nf false).2=v at hN hq;generalize (t.nf false).1=U at hN ⊢;obtain⟨k,nm,s,b,kz⟩:=t;obtain⟨k2,nm2,s2,b2,kz2⟩:=U;simp only[Tm.cells]at hN ⊢;refine Jw tOk fe124.ok rfl ?_;repeat' first|refine Jk ?_|refine Jc (hN _) ?_|refine Kg ?_|fail
  all_goals rfl
theorem Zhe {M:List Tm} (hM:M= []↔VE 1 t.all= []):t.ground=decide (M.length=0):=by
 unfold Tm.ground;cases h:VE 1 t.all with
 |nil=>rw[hM.2 h];rfl
 |cons a r=>
  have h2:M≠ []:=fun e=>by rw[hM.1 e]at h;cases h
  simp[h2]
theorem c84 (ht:t.Ok) (hs:t.size≤90000):∀H,CO 84 [.agg t.cells] H (.int .i64 t.rgt) H:=by
 have h1:=Zti ht (by omega);obtain⟨M,hM,h2⟩:=Zvc ht hs;have h3:=Zvx ht (by omega);have hg:=Zhe hM;unfold Tm.rgt;rw[hg];have n1:=WZ (if t.valid≠0 then t.valid else t.th) 0;have hcl:=Zb M;have n2:=Xq ((Za M).length:Int) 0;generalize (if t.valid≠0 then t.valid else t.th)=e1 at h1 n1 ⊢;generalize t.plainB true=f at h3 ⊢;clear hg hM;obtain⟨k,nm,s,tb,kz⟩:=t;simp only[Tm.cells]at h1 h2 h3 ⊢;refine Jw tOk fe84.ok rfl ?_;by_cases c1:e1=0
 ·rw[decide_eq_true c1]at n1;rw[if_neg (by omega)];subst c1;by_cases c2:M.length=0
  ·rw[decide_eq_true c2, if_neg (by simp)];rw[decide_eq_false (by omega)]at n2;cases f;all_goals
    repeat' first|(apply qCl;rfl;rfl;rfl;rfl;first|exact h1 _|exact h2 _|exact h3 _)|refine Ko ?_|fail
    all_goals rfl
  {rw[decide_eq_false c2,if_pos rfl];rw[decide_eq_true (by omega)]at n2;(repeat' first|refine Jc (h1 _) ?_|refine Jc (h2 _) ?_|refine Ks ?_|fail);all_goals rfl}
 ·rw[decide_eq_false c1]at n1;rw[if_pos c1];repeat' first|refine Jc (h1 _) ?_|refine Ki ?_|fail
  all_goals rfl
theorem c85 (ht:t.Ok) (hs:t.size≤90000):∀H,CO 85 [.agg t.cells] H (.int .i64 t.rgt) H:=by
 have h1:=ZtA ht (by omega);have h2:=Zui ht (by omega);have h3:=ZvW ht (by omega);rw[← ZgF]at h3;unfold Tm.rgt;have n1:=WZ (if t.valid≠0 then t.valid else t.th) 0;generalize (if t.valid≠0 then t.valid else t.th)=e1 at h1 n1 ⊢;generalize t.plainB true=f at h3 ⊢;generalize t.ground=g at h2 ⊢;obtain⟨k,nm,s,tb,kz⟩:=t;simp only[Tm.cells]at h1 h2 h3 ⊢;refine Jw tOk fe85.ok rfl ?_;by_cases c1:e1=0
 ·rw[decide_eq_true c1]at n1;rw[if_neg (by omega)];subst c1;cases g;{skip;(repeat' first|refine Jc (h1 _) ?_|refine Jc (h2 _) ?_|refine Kg ?_|fail);all_goals rfl}
  ·cases f;all_goals
    repeat' first|(apply qCl;rfl;rfl;rfl;rfl;first|exact h1 _|exact h2 _|exact h3 _)|refine Kg ?_|fail
    all_goals rfl
 ·rw[decide_eq_false c1]at n1;rw[if_pos c1];repeat' first|refine Jc (h1 _) ?_|refine Ki ?_|fail
  all_goals rfl
end Go.Vm.Seat
namespace Go.Vm
def ZlU (m:Mo):Bool:=decide (m.num<0)||(decide (99<m.num)||(decide (m.role<0)||(decide (4≤m.role)||(decide (m.goal<0)||decide (7<m.goal)))))
theorem or6 (b0 b1 b2 b3 b4 b5:Bool):b0=true∨(b0=false∧b1=true)∨(b0=false∧b1=false∧b2=true)∨(b0=false∧b1=false∧b2=false∧b3=true)∨(b0=false∧b1=false∧b2=false∧b3=false∧b4=true)∨(b0=false∧b1=false∧b2=false∧b3=false∧b4=false∧b5=true)∨(b0=false∧b1=false∧b2=false∧b3=false∧b4=false∧b5=false):=by cases b0<;>cases b1<;>cases b2<;>cases b3<;>cases b4<;>cases b5<;>simp
def ZfQ:List Tm→Int
 | []=>0
 |t::r=>if t.rgt≠0 then t.rgt else ZfQ r
theorem ZdN {l:List Tm} {i:Nat} {t:Tm} (h:l[i]? = some t):ZfQ (l.drop i)=if t.rgt≠0 then t.rgt else ZfQ (l.drop (i+1)):=by rw[Zw h];rfl
def Mo.alone (m:Mo):Int:=if Wv m=false then 1 else if ZlU m=true then 7 else if(m.agents.any fun s=> !YH s)=true then 2 else ZfQ m.terms
structure Mo.Sm (m:Mo):Prop where
 ok:m.Ok
 al:m.agents.length≤1000
 tl:m.terms.length≤1000
 ts:∀t,t∈m.terms→t.Ok∧t.size≤90000
end Go.Vm
namespace Go.Vm.Seat
open Go.Proofs
theorem c45 {m:Mo} (hm:m.Sm):∀H,CO 45 [.agg m.cells] H (.int .i64 m.alone) H:=by
 have hF:=c55 m;have hN:=ZvP hm.ok.ags (by have:=hm.al;omega) m.an;have hts:=hm.ts;have htl:=hm.tl;unfold Mo.alone;generalize Wv m=F at hF ⊢;obtain⟨kd,nu,ro,an,ag,go,tn,te⟩:=m;simp only[Mo.cells,ZlU]at hF hN hts htl ⊢;generalize (ag.any fun s=> !YH s)=A at hN ⊢;have x1:=Zu nu 0;have x2:=Xq nu 99;have x3:=Zu ro 0;have x4:=XY ro 4;have x5:=Zu go 0;have x6:=Xq go 7;generalize decide (nu<0)=b1 at x1 ⊢;generalize decide (99<nu)=b2 at x2 ⊢;generalize decide (ro<0)=b3 at x3 ⊢;generalize decide (4≤ro)=b4 at x4 ⊢;generalize decide (go<0)=b5 at x5 ⊢;generalize decide (7<go)=b6 at x6 ⊢;refine Jw tOk fe45.ok rfl ?_;cases F with
 |false=>
  repeat' first|refine Jc (hF _) ?_|refine Ka ?_|fail
  all_goals rfl
 |true=>
  rw[if_neg (by simp)];rcases or6 b1 b2 b3 b4 b5 b6 with rfl|⟨rfl,rfl⟩|⟨rfl,rfl,rfl⟩|⟨rfl,rfl,rfl,rfl⟩|⟨rfl,rfl,rfl,rfl,rfl⟩|⟨rfl,rfl,rfl,rfl,rfl,rfl⟩|⟨rfl,rfl,rfl,rfl,rfl,rfl⟩;iterate 6
   repeat' first|refine Jk ?_|refine Jc (hF _) ?_|refine Kg ?_|fail
   · rfl
  rw[if_neg (by simp)];cases A with
  | true=>(repeat' first|refine Jc (hN _) ?_|refine Jo ?_|fail);all_goals rfl
  | false=>
   rw[if_neg (by simp)];have hcl:=Zb te;(repeat' first|refine Jc (hN _) ?_|refine KN ?_|fail);refine Wp.while (fun m2 tm H=>∃(i:Nat) (base:TM),i+m2=te.length∧ZfQ te=ZfQ (te.drop i)∧tm=ovr base [(41,slV tn 4 (Za te)),(42,.int .i64 (te.length:Int)),(43,.int .i64 (i:Int))]∧H=⟨[.cells 6 [[.int .i64 kd,.int .i64 nu,.int .i64 ro,slV an 1 (ZD ag),.int .i64 go,slV tn 4 (Za te)]]],0,[],0⟩)
    (fun m2 tm H hI=>Wp.drop ?_) te.length _ _ ⟨0,_,by omega,by simp,Ze ⟨rfl,Zg (by rw[hcl]),rfl,trivial⟩,rfl⟩
   obtain⟨i,base,hi,hgo,rfl,rfl⟩:=hI;rw[hgo];by_cases hlt:i<te.length;{obtain⟨t,ht⟩:∃t,te[i]? = some t:=⟨te[i],by simp⟩;have hR:=hts t (List.mem_of_getElem? ht);have hR:=c84 hR.1 hR.2;have hlx:=Zu (i:Int) (te.length:Int);rw[decide_eq_true (by omega)]at hlx;rw[ZdN ht];have n1:=WZ t.rgt 0;generalize t.rgt=e at hR n1 ⊢;obtain⟨k',nm',s',b',kz'⟩:=t;have hj:=Zj ht;simp only[Tm.cells]at hR;by_cases c1:e=0;{rw[decide_eq_true c1]at n1;rw[if_neg (by omega)];(repeat' first|refine Jc (hR _) ?_|refine KH ?_|fail);refine DropQ.go [(41,slV tn 4 (Za te)),(42,.int .i64 (te.length:Int)),(43,.int .i64 ((i+1:Nat):Int))] ?_ ?_ rfl ?_ ?_;{exact⟨rfl,rfl,Zg (Zd (n:=i+1) (by omega)),trivial⟩};{simp[Zl,under]};{simp[Yy,ZO,Zl,under]};{exact LoopI.go (m2-1) (by omega) ⟨i+1,_,by omega,rfl,rfl,rfl⟩}};{rw[decide_eq_false c1]at n1;rw[if_pos c1];(repeat' first|refine Jc (hR _) ?_|refine KH ?_|fail);all_goals rfl}};{(have e:i=te.length:=by omega);subst e;have hlx:=Zu (te.length:Int) (te.length:Int);rw[decide_eq_false (by omega)]at hlx;rw[List.drop_length];(repeat' first|refine Ki ?_|fail);all_goals rfl}
