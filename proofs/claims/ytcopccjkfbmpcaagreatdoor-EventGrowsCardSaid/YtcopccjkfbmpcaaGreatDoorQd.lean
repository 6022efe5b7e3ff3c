/-
  Moments alone: the program's text.
-/
import Derived.Test.YtcopccjkfbmpcaaGreatDoorAwSort
set_option maxHeartbeats 0
set_option maxRecDepth 100000
namespace Go.Vm.Seat
variable {bx:List Box} {L:List Tm} {t:Tm}
open Go.Proofs
theorem ZkN {id : Nat} (hid : bx[id]? = some (.cells 4 (Za L))) (hL : L ≠ []) (hok : ∀ x, x ∈ L → x.Ok ∧ x.size ≤ 100000) (hlen : L.length ≤ 100000) :
  CallOk E0 Tryz.prog 27 [.own id 4 0 L.length,.fn 28 []] ⟨bx,0,[],0⟩ (.tup []) ⟨bx.set id (.cells 4 (Za (Y2 L))),0,[],0⟩:=
 Zov (E:=E0) (E1:=E1) (H:=⟨bx,0,[],0⟩) fe27.ok fe28.ok ⟨rfl,rfl⟩ rfl
  (fun enc h4 h1 cf hO blk off cap d w eg hcmp hH hblk hsz=>AnyQ.slices_SortFunc_eq Tryz.sortTm 4 Tryz.isAgg48 Tryz.sizeOf48 enc h4 h1 cf hO 28 #[] blk off cap d w eg hcmp hH hblk hsz)
  hL (N:=100000) (fun t ht=>(hok t ht).2) (fun a b ha hb=>d28 (hok a ha).1 (hok b hb).1 (by have:=(hok a ha).2;omega) (by have:=(hok b hb).2;omega) _) (by omega) hid (Nat.zero_le _)
def Ztu (id:Nat) (r:PV) (H:Heap):Prop:=∃ (M:List Tm) (D:List (List PV)),r= .own id 4 0 M.length∧M≠ []∧nth H.bx id=some (.cells 4 (Za M++D))
theorem Zp6 {id : Nat} (hid : bx[id]? = some (.cells 4 (Za L))) (hL : L ≠ []) (hok : ∀ x, x ∈ L → x.Ok ∧ x.size ≤ 100000) (hlen : L.length ≤ 100000) :
  ∃ r H',CallOk E0 Tryz.prog 191 [.own id 4 0 L.length] ⟨bx,0,[],0⟩ r H'∧Ztu id r H':=by
 have hlt:=ZB hid
 have hs:=ZkN hid hL hok hlen
 have hp:=VV hL (N:=100000) fun t ht=>(hok t ht).2
 have hsl:(Y2 L).length=L.length:=hp.length_eq
 have hsne:Y2 L≠ []:=fun h=>by rw [h] at hsl;exact hL (List.length_eq_zero_iff.1 hsl.symm)
 have hsm:∀ x,x∈Y2 L→x∈L:=fun x hx=>hp.mem_iff.1 hx
 obtain ⟨r1,H1,hc,M,D,rfl,rfl,hMl,hMne,hMm⟩:=Zho (id:=id) (bx:=bx.set id (.cells 4 (Za (Y2 L)))) (L:=Y2 L) (by simp [hlt]) (fun x hx=>hok x (hsm x hx)) (by omega)
 rw [hsl] at hc
 rw [List.set_set] at hc
 have hMne:=hMne hsne
 refine ZT (own:=fun _=>false) tOk fe191.ok ?_
 refine Wp.seq ?_
 repeat' first|refine Jc hs ?_|refine Jc hc ?_|refine Jo ?_|fail
 refine Wp.while (fun m tm H=>∃ (i:Nat) (base:TM),i+m=M.length∧tm=ovr base [(0,.own id 4 0 M.length),(9,.int .i64 (M.length:Int)),(10,.int .i64 (i:Int))]∧H=⟨bx.set id (.cells 4 (Za (clL (M.take i)++M.drop i)++D)),0,[],0⟩)
  (fun m tm H hI=>?_) M.length _ _ ⟨0,_,by omega,Zf ⟨rfl,rfl,rfl,trivial⟩,by simp [clL]⟩
 obtain ⟨i,base,hi,rfl,rfl⟩:=hI
 have hnb:nth (bx.set id (.cells 4 (Za (clL (M.take i)++M.drop i)++D))) id=some (.cells 4 (Za (clL (M.take i)++M.drop i)++D)):=by rw [Zo];simp [hlt]
 by_cases hilt:i<M.length
 · obtain ⟨x, hx⟩ : ∃ x, M[i]? = some x := ⟨M[i], by simp⟩
   have hxm:=hMm x (List.mem_of_getElem? hx)
   have hxo:=hok x (hsm x hxm)
   have hlen1:(clL (M.take i)).length=i:=by rw [WD,List.length_take];omega
   have hat:(clL (M.take i)++M.drop i)[i]? = some x:=by
    rw [List.getElem?_append_right (by omega),hlen1,Nat.sub_self,List.getElem?_drop];simpa using hx
   have hnext:(clL (M.take i)++M.drop i).set i x.cl=clL (M.take (i+1))++M.drop (i+1):=by
    rw [Zc0 hx,Zy hx,List.set_append_right _ _ (by omega),hlen1,Nat.sub_self]
    simp
   have hcell:nth (Za (clL (M.take i)++M.drop i)++D) i=some x.cells:=by
    obtain ⟨k,nm,s,b,kz⟩:=x
    rw [Zo,List.getElem?_append_left (by rw [Zb];exact ZB hat)]
    exact Zk hat
   have hi1:=QM (id:=id) (ix:=0) (len:=M.length) hilt
   have hl1:Z4 E0 48 (.ptr id 4 (0+i) 0) ⟨bx.set id (.cells 4 (Za (clL (M.take i)++M.drop i)++D)),0,[],0⟩=some (.agg x.cells):=by
    rw [Nat.zero_add]
    exact U8 rfl rfl hnb hcell (by obtain ⟨k,nm,s,b,kz⟩:=x;rfl)
   have hcl:=ZtZ hxo.1 hxo.2
   have hst:Heap.wr ⟨bx.set id (.cells 4 (Za (clL (M.take i)++M.drop i)++D)),0,[],0⟩ (.ptr id 4 (0+i) 0) x.cl.cells=some ⟨bx.set id (.cells 4 (Za (clL (M.take (i+1))++M.drop (i+1))++D)),0,[],0⟩:=by
    rw [Nat.zero_add,Zc9 hnb hcell (by obtain ⟨k,nm,s,b,kz⟩:=x;simp [Tm.cells,Tm.cl]) (Nat.zero_le _),List.set_set, ← hnext, ← Zbu,List.set_append_left _ _ (by rw [Zb];exact ZB hat)]
    obtain ⟨k,nm,s,b,kz⟩:=x
    simp [Tm.cells,Tm.cl]
   obtain ⟨k,nm,s,b,kz⟩:=x
   simp only [Tm.cl,Tm.cells] at hst hl1 hcl
   repeat' first|refine Jc (hcl _) ?_|refine JJ ?_|(apply qLd;rfl;rfl;rfl;assumption;exact IsV.any _)|refine Jz ?_ ?_|refine Jo ?_|intro hb
   · exact LoopI.go (m-1) (by omega) ⟨i+1,_,by omega,Zf ⟨rfl,rfl,Ze (Zd (n:=i+1) (by omega)),trivial⟩,rfl⟩
   · exfalso;simp at hb;omega
 · have e : i = M.length := by omega
   subst e
   rw [List.take_length,List.drop_length,List.append_nil] at hnb
   rw [List.take_length,List.drop_length,List.append_nil]
   repeat' first|refine Jz ?_ ?_|refine Jo ?_|intro hb
   · exfalso;simp at hb
   · refine RetR.ret rfl ⟨clL M, D, by rw [WD]; rfl, fun h => ?_, hnb⟩
     have:=WD M
     rw [h] at this
     exact hMne (List.length_eq_zero_iff.1 this.symm)
theorem Zpd:∀ H,CallOk E0 Tryz.prog 191 [.nils] H .nils H:=
 Ys (x:=⟨191,[.nils],.nils⟩) tOk follows fOk zOk (fuel:=100) (k:=60) (by kernel_rfl)
theorem ZnD {H:Heap} {id:Nat} {M:List Tm} {D:List (List PV)} (hM:M≠ []) (hH:nth H.bx id=some (.cells 4 (Za M++D))):frz3 0 H (.own id 4 0 M.length)=some (slV true 4 (Za M)):=by
 have e:slV true 4 (Za M)= .sl .none 4 (Za M):=by
  cases M with
  | nil=>exact absurd rfl hM
  | cons a r =>
    obtain ⟨k,nm,s,b,kz⟩:=a
    exact Zm _ _ _ _
 rw [e]
 have h1:((Za M++D).drop 0).take M.length=Za M:=by rw [List.drop_zero, ← Zb M,List.take_left]
 show frzC 0 H (.own id 4 0 M.length)=_
 simp only [frzC,Nat.not_lt_zero,if_false,hH,true_and,Nat.zero_add,List.length_append,Zb,Nat.le_add_right,if_true,h1,VH]
theorem Zuw (ht:t.Ok) (hsz:t.size≤90000) (kk:Int):∃ M:List Tm,(M= []↔V4 kk t.all= [])∧∀ H,CallOk E0 Tryz.prog 164 [.agg t.cells,.int .i64 kk] H (slV true 4 (Za M)) H:=by
 have hao:=Zik ht
 have hal:=t.all_len
 have hkl:=Zab kk t.all
 obtain ⟨H1,hc,v',rest',rfl,hG,hF⟩:=Zos kk (.cells 4 [t.cells]) ht (rest:=[]) (v:= .nils) (L:=[]) .nil (by simp;omega)
 rw [List.nil_append] at hG
 have hkm:∀ x,x∈V4 kk t.all→x.Ok∧x.size≤100000:=fun x hx=>by
  have:=hao x (List.mem_filter.1 hx).1
  exact ⟨this.1,by omega⟩
 generalize V4 kk t.all=L at hG hkl hkm ⊢
 unfold Wh at hc
 obtain ⟨k,nm,s,b,kz⟩:=t
 simp only [Tm.cells] at hc
 cases hG with
 | nil =>
   refine ⟨[],by simp,?_⟩
   rw [show slV true 4 (Za [])= .nils from Zg 4]
   have ho:=Zpd ⟨.cells 4 [[.int .i64 k,.str nm,.int .i64 s,slV b 4 (Za kz)]]:: .cells 1 [[.int .i64 kk]]:: .cells 1 [[.nils]]::rest',0,[],0⟩
   refine Jw tOk fe164.ok rfl ?_ (by simp [Zx,frzG,Tm.cells,Xq,frz1])
   repeat' first|refine Jc hc ?_|refine Jc ho ?_|refine Jo ?_|fail
   all_goals rfl
 | own o L hob hL =>
   obtain ⟨r,H',ho,M,D,rfl,hMne,hnb⟩:=Zp6 (id:=o+3) (bx:= .cells 4 [[.int .i64 k,.str nm,.int .i64 s,slV b 4 (Za kz)]]:: .cells 1 [[.int .i64 kk]]:: .cells 1 [[.own (o+3) 4 0 L.length]]::rest') (L:=L) (by simpa using hob) hL hkm (by omega)
   refine ⟨M,by simp [hMne,hL],?_⟩
   have hfin:=ZnD hMne hnb
   obtain ⟨bx',ro',lv',nt'⟩:=H'
   refine Jw tOk fe164.ok (ZK _ _ _ _ _) ?_ (by simp [Zx,frzG,Tm.cells,Xq,frz1])
   repeat' first|refine Jc hc ?_|refine Jc ho ?_|refine Jo ?_|fail
   exact hfin
theorem ZuZ (ht:t.Ok) (hsz:t.size≤90000):∃ M:List Tm,(M= []↔V4 1 t.all= [])∧∀ H,CallOk E0 Tryz.prog 141 [.agg t.cells] H (slV true 4 (Za M)) H:=by
 obtain ⟨M,hM,hc⟩:=Zuw ht hsz 1
 refine ⟨M,hM,?_⟩
 obtain ⟨k,nm,s,tb,kz⟩:=t
 refine Jw tOk fe141.ok (ZK _ _ _ _ _) ?_
 repeat' first|refine Jc (hc _) ?_|refine Jo ?_|fail
 exact ZK _ _ _ _ _
end Go.Vm.Seat
namespace Go.Vm
variable {l:List Tm} {i:Nat} {t:Tm}
def dsN (nm:Bs):Bool:= !decide ((YA nm).kind=3)
mutual
def Tm.dsR:Tm→Bool
 | .mk k nm _ _ kz=>(if k=3 then dsN nm else true)&&ZkT kz
def ZkT:List Tm→Bool
 | []=>true
 |t::r=>t.dsR&&ZkT r
end
def ds1 (x:Tm):Bool:=match x with| .mk k nm _ _ _=> !(decide (k=3)&&decide ((YA nm).kind=3))
mutual
theorem ZmZ:∀ t:Tm,t.dsR=t.all.all ds1
 | .mk k nm s b kz => by
   rw [Tm.dsR,Tm.all,List.all_cons,ZiU kz]
   congr 1
   show _= !(decide (k=3)&&decide ((YA nm).kind=3))
   unfold dsN
   by_cases h:k=3<;>simp [h]
theorem ZiU:∀ l:List Tm,ZkT l=(Vj l).all ds1
 | []=>rfl
 |t::r=>by rw [ZkT,Vj,List.all_append,ZmZ t,ZiU r]
end
theorem ZnZ (t:Tm):t.dsR=t.dsB:=ZmZ t
theorem ZiC {e:Bool} (h:l[i]? = some t) (he:t.dsR=e):ZkT (l.drop i)=(e&&ZkT (l.drop (i+1))):=by
 rw [Zy h];simp only [ZkT,he]
theorem Zl1 (h:l[i]? = some t):(l.drop i).all ds1=(ds1 t&&(l.drop (i+1)).all ds1):=by
 rw [Zy h];rfl
theorem ZiP (a b:Tm):decide (a.cmp b=0)=decide (b.cmp a=0):=by
 by_cases h:a.cmp b=0
 · rw [decide_eq_true h,decide_eq_true (Yc.2 (Yc.1 h).symm)]
 · rw [decide_eq_false h,decide_eq_false fun h2=>h (Yc.2 (Yc.1 h2).symm)]
theorem Ztz {c:Bool} (ht:t.Ok) (h:(t.nf c).2=0):(t.nf c).1.Ok∧(t.nf c).1.size≤400:=by
 revert h
 unfold Tm.nf
 split
 · rename_i h1;intro h;exact absurd h h1
 rename_i h1
 split
 · rename_i h2;intro h;exact absurd h h2
 rename_i h2
 split
 · rename_i h3;intro h;exact absurd h h3
 split
 · rename_i h4;intro h;exact absurd h h4
 rename_i h4
 intro _
 have hs:=Xe (Classical.not_not.1 h1)
 exact ⟨cls_ok.nrm t (Classical.not_not.1 h2) (by omega) ht,Xe (Classical.not_not.1 h4)⟩
def Tm.rgt (t:Tm):Int:=if (if t.valid≠0 then t.valid else t.th)≠0 then (if t.valid≠0 then t.valid else t.th) else if t.ground=false then 13 else if t.plainB true=false then 10 else 0
end Go.Vm
namespace Go.Vm.Seat
variable {t:Tm}
open Go.Proofs
theorem Zvm (nm:Bs):∀ H,CallOk E0 Tryz.prog 168 [.str nm] H (.bool (dsN nm)) H:=by
 have hc:=ZtF nm
 unfold dsN
 generalize YA nm=y at hc
 obtain ⟨sn,sl,sm,sk⟩:=y
 have hn:=Zbd sk 3
 generalize decide (sk=3)=D at hn ⊢
 simp only [Sym.cells] at hc
 refine Jw tOk fe168.ok rfl ?_
 cases D
 all_goals
  repeat' first|refine Jc (hc _) ?_|refine Ji ?_|refine Jt ?_|refine Jo ?_|fail
  all_goals rfl
theorem evP (ht:t.Ok):∀ H,CallOk E0 Tryz.prog 167 [.agg t.cells,.fn 168 []] H (.bool t.dsR) H:=by
 induction ht with
 | @mk k nm s b kz hk hs hn hl hok ih=>
 have hc:=Zvm nm
 simp only [Tm.dsR]
 generalize dsN nm=e at hc
 refine Jw tOk fe167.ok rfl ?_
 repeat' first|refine Jk ?_|refine Jc (hc _) ?_|refine Jl ?_|refine Jt ?_|refine Jb ?_ ?_|refine Jo ?_|intro hb
 · have h1 := ‹(k == 3) = true›
   simp at h1 hb
   simp [h1,hb]
 all_goals
  have he:(if k=3 then e else true)=true:=by
   first
    | (have h1:= ‹(k==3)=true›;simp at h1 hb;simp [h1,hb];done)
    | (simp at hb;simp [hb];done)
  rw [he,Bool.true_and]
  clear hc
  unfold maxLen at hl
  refine Wp.while (fun m tm H=>∃ (i:Nat),∃ base,i+m=kz.length∧ZkT kz=ZkT (kz.drop i)∧tm=ovr base [(1,.fn 168 []),(18,slV b 4 (Za kz)),(19,.int .i64 (kz.length:Int)),(20,.int .i64 (i:Int))]∧H=⟨[.cells 4 [[.int .i64 k,.str nm,.int .i64 s,slV b 4 (Za kz)]]],0,[],0⟩)
   (fun m tm H hI=>Wp.drop ?_) kz.length _ _ ⟨0,_,by omega,by simp,Zf ⟨rfl,rfl,Ze (by rw [Zb]),rfl,trivial⟩,rfl⟩
  obtain ⟨i,base,hi,hgo,rfl,rfl⟩:=hI
  rw [hgo]
  by_cases hlt:i<kz.length
  · obtain ⟨t', ht'⟩ : ∃ t', kz[i]? = some t' := ⟨kz[i], by simp⟩
    have hm:t'∈kz:=List.mem_of_getElem? ht'
    have hc:=ih t' hm
    obtain ⟨e1,he1⟩:∃ e1,t'.dsR=e1:=⟨_,rfl⟩
    rw [he1] at hc
    rw [ZiC ht' he1]
    obtain ⟨k',nm',s',b',kz'⟩:=t'
    have hj:=Zk ht'
    repeat' first|refine Jc (hc _) ?_|refine Jx ?_|refine Jt ?_|refine Jb ?_ ?_|refine Jz ?_ ?_|refine Jo ?_|intro hb
    · simp at hb;simp [hb]
    · have h1 : e1 = true := by simpa using hb
      rw [h1,Bool.true_and]
      exact DropQ.go [(1,.fn 168 []),(18,slV b 4 (Za kz)),(19,.int .i64 (kz.length:Int)),(20,.int .i64 ((i+1:Nat):Int))] ⟨rfl,rfl,rfl,Ze (Zd (n:=i+1) (by omega)),trivial⟩
       (by simp [Zh,under,ZM]) rfl (by simp [YJ,ZM,Zh,under]) (LoopI.go (m-1) (by omega) ⟨i+1,_,by omega,rfl,rfl,rfl⟩)
    · exfalso;simp at hb;omega
  · have e : i = kz.length := by omega
    subst e
    repeat' first|refine Jt ?_|refine Jz ?_ ?_|refine Jo ?_|intro hb
    · exfalso;simp at hb
    · simp [ZkT]
theorem Qp (a b:Int):Xo E0 .eql 30 (.int .i64 a) (.int .i64 b)=some (.bool (decide (a=b))):=by
 show some (PV.bool (a==b))=_
 by_cases h:a=b<;>simp [h]
theorem WM (a b:Int):Xo E0 .neq 30 (.int .i64 a) (.int .i64 b)=some (.bool (!decide (a=b))):=by
 show some (PV.bool (!(a==b)))=_
 by_cases h:a=b<;>simp [h]
theorem Zv1 (ht:t.Ok) (hs:t.size≤100000):∀ H,CallOk E0 Tryz.prog 142 [.agg t.cells] H (.bool (t.plainB true)) H:=by
 have hN:=ZvG ht hs
 have hE:=evP ht
 rw [ZnZ] at hE
 unfold Tm.plainB
 have hq:=Qp (t.nf true).2 0
 by_cases h:(t.nf true).2=0
 · obtain ⟨n1, n2⟩ := Ztz (c := true) ht h
   have hS:=Zrv ⟨n1,by omega⟩ ⟨ht,hs⟩
   generalize decide ((t.nf true).1.cmp t=0)=S at hS ⊢
   generalize t.dsB=D at hE ⊢
   rw [decide_eq_true h,h] at hq
   rw [decide_eq_true h,Bool.true_and]
   rw [h] at hN
   generalize (t.nf true).1=U at hN hS
   obtain ⟨k,nm,s,b,kz⟩:=t
   obtain ⟨k2,nm2,s2,b2,kz2⟩:=U
   simp only [Tm.cells] at hN hE hS ⊢
   refine Jw tOk fe142.ok rfl ?_
   cases S
   · skip
     repeat' first|refine Jk ?_|refine Jc (hN _) ?_|refine Jc (hS _) ?_|refine Ji ?_|refine Jt ?_|refine Jo ?_|fail
     all_goals rfl
   · cases D
     all_goals
      repeat' first|(apply qCl;rfl;rfl;rfl;rfl;first|exact hN _|exact hS _|exact hE _)|refine Ji ?_|refine Jt ?_|refine Jo ?_|fail
      all_goals rfl
 · rw [decide_eq_false h] at hq
   rw [decide_eq_false h]
   generalize (t.nf true).2=v at hN hq
   generalize (t.nf true).1=U at hN ⊢
   obtain ⟨k,nm,s,b,kz⟩:=t
   obtain ⟨k2,nm2,s2,b2,kz2⟩:=U
   simp only [Tm.cells] at hN ⊢
   refine Jw tOk fe142.ok rfl ?_
   repeat' first|refine Jk ?_|refine Jc (hN _) ?_|refine Ji ?_|refine Jt ?_|refine Jo ?_|fail
   all_goals rfl
theorem ZtP (ht:t.Ok) (hs:t.size≤100000):∀ H,CallOk E0 Tryz.prog 106 [.agg t.cells] H (.bool (t.plainB false)) H:=by
 have hN:=Zt1 ht hs
 have hA:=ZtD ht hs
 have hal:=t.all_len
 have hB:t.dsB=t.all.all ds1:=rfl
 unfold Tm.plainB
 rw [hB]
 have hq:=WM (t.nf false).2 0
 by_cases h:(t.nf false).2=0
 · obtain ⟨n1, n2⟩ := Ztz (c := false) ht h
   have hS:=Zfe ⟨ht,by omega⟩ ⟨n1,by omega⟩
   rw [ZiP] at hS
   generalize decide ((t.nf false).1.cmp t=0)=S at hS ⊢
   rw [decide_eq_true h,h,Bool.not_true] at hq
   rw [decide_eq_true h,Bool.true_and]
   rw [h] at hN
   generalize (t.nf false).1=U at hN hS
   generalize t.all=l at hA hal ⊢
   obtain ⟨k,nm,s,b,kz⟩:=t
   obtain ⟨k2,nm2,s2,b2,kz2⟩:=U
   simp only [Tm.cells] at hN hA hS ⊢
   refine Jw tOk fe106.ok rfl ?_
   cases S
   · skip
     repeat' first|refine Jc (hN _) ?_|refine Jc (hS _) ?_|refine Ji ?_|refine Jt ?_|refine Jo ?_|fail
     all_goals rfl
   · rw [Bool.true_and]
     repeat' first|(apply qCl;rfl;rfl;rfl;rfl;first|exact hN _|exact hS _|exact hA _)|refine Ji ?_|refine Jt ?_|refine Jo ?_|fail
     refine Wp.while (fun m tm H=>∃ (i:Nat),∃ base,i+m=l.length∧l.all ds1=(l.drop i).all ds1∧tm=ovr base [(5,slV false 4 (Za l)),(6,.int .i64 (i:Int))]∧H=⟨[.cells 4 [[.int .i64 k,.str nm,.int .i64 s,slV b 4 (Za kz)]],.cells 4 [[.int .i64 k2,.str nm2,.int .i64 s2,slV b2 4 (Za kz2)]]],0,[],0⟩)
      (fun m tm H hI=>?_) l.length _ _ ⟨0,_,by omega,by simp,Zf ⟨rfl,rfl,trivial⟩,rfl⟩
     obtain ⟨i,base,hi,hall,rfl,rfl⟩:=hI
     rw [hall]
     have hcl:=Zb l
     by_cases hlt:i<l.length
     · obtain ⟨x, hx⟩ : ∃ x, l[i]? = some x := ⟨l[i], by simp⟩
       rw [Zl1 hx]
       obtain ⟨k',nm',s',b',kz'⟩:=x
       have hj:=Zk hx
       have hc2:=ZsZ nm'
       have hlx:=Zq (i:Int) ((Za l).length:Int)
       rw [decide_eq_true (by omega)] at hlx
       have q1:=Z6 k' 3
       have q2:=Z6 (YA nm').kind 3
       simp only [ds1]
       generalize (YA nm').kind=B at hc2 q2 ⊢
       generalize decide (k'=3)=C1 at q1 ⊢
       generalize decide (B=3)=C2 at q2 ⊢
       cases C1
       · skip
         repeat' first|refine Jk ?_|refine Ji ?_|refine Jl ?_|refine Jx ?_|refine Jt ?_|refine Jo ?_|fail
         exact LoopI.go (m-1) (by omega) ⟨i+1,_,by omega,rfl,Zf ⟨rfl,Ze (Zd (n:=i+1) (by omega)),trivial⟩,rfl⟩
       · cases C2
         · skip
           repeat' first|refine Jc (hc2 _) ?_|refine Ji ?_|refine Jl ?_|refine Jx ?_|refine Jt ?_|refine Jo ?_|fail
           exact LoopI.go (m-1) (by omega) ⟨i+1,_,by omega,rfl,Zf ⟨rfl,Ze (Zd (n:=i+1) (by omega)),trivial⟩,rfl⟩
         · skip
           repeat' first|refine Jc (hc2 _) ?_|refine Ji ?_|refine Jl ?_|refine Jx ?_|refine Jt ?_|refine Jo ?_|fail
           all_goals rfl
     · have e : i = l.length := by omega
       subst e
       have hlx:=Zq (l.length:Int) ((Za l).length:Int)
       rw [decide_eq_false (by omega)] at hlx
       repeat' first|refine Ji ?_|refine Jl ?_|refine Jt ?_|refine Jo ?_|fail
       rw [List.drop_length];rfl
 · rw [decide_eq_false h, Bool.not_false] at hq
   rw [decide_eq_false h]
   generalize (t.nf false).2=v at hN hq
   generalize (t.nf false).1=U at hN ⊢
   obtain ⟨k,nm,s,b,kz⟩:=t
   obtain ⟨k2,nm2,s2,b2,kz2⟩:=U
   simp only [Tm.cells] at hN ⊢
   refine Jw tOk fe106.ok rfl ?_
   repeat' first|refine Jk ?_|refine Jc (hN _) ?_|refine Ji ?_|refine Jt ?_|refine Jo ?_|fail
   all_goals rfl
theorem ZjO {M:List Tm} (hM:M= []↔V4 1 t.all= []):t.ground=decide (M.length=0):=by
 unfold Tm.ground
 cases h:V4 1 t.all with
 |nil=>rw [hM.2 h];rfl
 | cons a r =>
   have h2:M≠ []:=fun e=>by rw [hM.1 e] at h;cases h
   simp [h2]
theorem Zwb (ht:t.Ok) (hs:t.size≤90000):∀ H,CallOk E0 Tryz.prog 116 [.agg t.cells] H (.int .i64 t.rgt) H:=by
 have h1:=ZtE ht (by omega)
 obtain ⟨M,hM,h2⟩:=ZuZ ht hs
 have h3:=Zv1 ht (by omega)
 have hg:=ZjO hM
 unfold Tm.rgt
 rw [hg]
 have n1:=WM (if t.valid≠0 then t.valid else t.th) 0
 have hcl:=Zb M
 have n2:=Xt ((Za M).length:Int) 0
 generalize (if t.valid≠0 then t.valid else t.th)=e1 at h1 n1 ⊢
 generalize t.plainB true=f at h3 ⊢
 clear hg hM
 obtain ⟨k,nm,s,tb,kz⟩:=t
 simp only [Tm.cells] at h1 h2 h3 ⊢
 refine Jw tOk fe116.ok rfl ?_
 by_cases c1:e1=0
 · rw [decide_eq_true c1] at n1
   rw [if_neg (by omega)]
   subst c1
   by_cases c2:M.length=0
   · rw [decide_eq_true c2, if_neg (by simp)]
     rw [decide_eq_false (by omega)] at n2
     cases f
     all_goals
      repeat' first|(apply qCl;rfl;rfl;rfl;rfl;first|exact h1 _|exact h2 _|exact h3 _)|refine Ji ?_|refine Jl ?_|refine Jt ?_|refine Jo ?_|fail
      all_goals rfl
   · rw [decide_eq_false c2, if_pos rfl]
     rw [decide_eq_true (by omega)] at n2
     repeat' first|refine Jc (h1 _) ?_|refine Jc (h2 _) ?_|refine Ji ?_|refine Jl ?_|refine Jo ?_|fail
     all_goals rfl
 · rw [decide_eq_false c1] at n1
   rw [if_pos c1]
   repeat' first|refine Jc (h1 _) ?_|refine Ji ?_|refine Jo ?_|fail
   all_goals rfl
theorem ZvO (ht:t.Ok) (hs:t.size≤90000):∀ H,CallOk E0 Tryz.prog 128 [.agg t.cells] H (.int .i64 t.rgt) H:=by
 have h1:=Zuc ht (by omega)
 have h2:=Zv0 ht (by omega)
 have h3:=ZtP ht (by omega)
 rw [← Zhg] at h3
 unfold Tm.rgt
 have n1:=WM (if t.valid≠0 then t.valid else t.th) 0
 generalize (if t.valid≠0 then t.valid else t.th)=e1 at h1 n1 ⊢
 generalize t.plainB true=f at h3 ⊢
 generalize t.ground=g at h2 ⊢
 obtain ⟨k,nm,s,tb,kz⟩:=t
 simp only [Tm.cells] at h1 h2 h3 ⊢
 refine Jw tOk fe128.ok rfl ?_
 by_cases c1:e1=0
 · rw [decide_eq_true c1] at n1
   rw [if_neg (by omega)]
   subst c1
   cases g
   · skip
     repeat' first|refine Jc (h1 _) ?_|refine Jc (h2 _) ?_|refine Ji ?_|refine Jt ?_|refine Jo ?_|fail
     all_goals rfl
   · cases f
     all_goals
      repeat' first|(apply qCl;rfl;rfl;rfl;rfl;first|exact h1 _|exact h2 _|exact h3 _)|refine Ji ?_|refine Jt ?_|refine Jo ?_|fail
      all_goals rfl
 · rw [decide_eq_false c1] at n1
   rw [if_pos c1]
   repeat' first|refine Jc (h1 _) ?_|refine Ji ?_|refine Jo ?_|fail
   all_goals rfl
end Go.Vm.Seat
namespace Go.Vm
def Zr1 (m:Mo):Bool:=decide (m.num<0)||(decide (99<m.num)||(decide (m.role<0)||(decide (4≤m.role)||(decide (m.goal<0)||decide (7<m.goal)))))
theorem or6 (b0 b1 b2 b3 b4 b5:Bool):b0=true∨(b0=false∧b1=true)∨(b0=false∧b1=false∧b2=true)∨(b0=false∧b1=false∧b2=false∧b3=true)∨(b0=false∧b1=false∧b2=false∧b3=false∧b4=true)∨(b0=false∧b1=false∧b2=false∧b3=false∧b4=false∧b5=true)∨(b0=false∧b1=false∧b2=false∧b3=false∧b4=false∧b5=false):=by
 cases b0<;>cases b1<;>cases b2<;>cases b3<;>cases b4<;>cases b5<;>simp
def Zne:List Tm→Int
 | []=>0
 |t::r=>if t.rgt≠0 then t.rgt else Zne r
theorem Zd2 {l:List Tm} {i:Nat} {t:Tm} (h:l[i]? = some t):Zne (l.drop i)=if t.rgt≠0 then t.rgt else Zne (l.drop (i+1)):=by
 rw [Zy h];rfl
def Mo.alone (m:Mo):Int:=if ZcG m=false then 1 else if Zr1 m=true then 7 else if (m.agents.any fun s=> !Wa s)=true then 2 else Zne m.terms
structure Mo.Sm (m:Mo):Prop where
 ok:m.Ok
 al:m.agents.length≤1000
 tl:m.terms.length≤1000
 ts:∀ t,t∈m.terms→t.Ok∧t.size≤90000
end Go.Vm
namespace Go.Vm.Seat
open Go.Proofs
theorem c75 {m:Mo} (hm:m.Sm):∀ H,CallOk E0 Tryz.prog 75 [.agg m.cells] H (.int .i64 m.alone) H:=by
 have hF:=ZuG m
 have hN:=ZvR hm.ok.ags (by have:=hm.al;omega) m.an
 have hts:=hm.ts
 have htl:=hm.tl
 unfold Mo.alone
 generalize ZcG m=F at hF ⊢
 obtain ⟨kd,nu,ro,an,ag,go,tn,te⟩:=m
 simp only [Mo.cells,Zr1] at hF hN hts htl ⊢
 generalize (ag.any fun s=> !Wa s)=A at hN ⊢
 have x1:=Zq nu 0
 have x2:=Xt nu 99
 have x3:=Zq ro 0
 have x4:=Y0 ro 4
 have x5:=Zq go 0
 have x6:=Xt go 7
 generalize decide (nu<0)=b1 at x1 ⊢
 generalize decide (99<nu)=b2 at x2 ⊢
 generalize decide (ro<0)=b3 at x3 ⊢
 generalize decide (4≤ro)=b4 at x4 ⊢
 generalize decide (go<0)=b5 at x5 ⊢
 generalize decide (7<go)=b6 at x6 ⊢
 refine Jw tOk fe75.ok rfl ?_
 cases F with
 | false =>
   repeat' first|refine Jc (hF _) ?_|refine Jt ?_|refine Jo ?_|fail
   all_goals rfl
 | true =>
   rw [if_neg (by simp)]
   rcases or6 b1 b2 b3 b4 b5 b6 with rfl|⟨rfl,rfl⟩|⟨rfl,rfl,rfl⟩|⟨rfl,rfl,rfl,rfl⟩|⟨rfl,rfl,rfl,rfl,rfl⟩|⟨rfl,rfl,rfl,rfl,rfl,rfl⟩|⟨rfl,rfl,rfl,rfl,rfl,rfl⟩
   iterate 6
    repeat' first|refine Jk ?_|refine Jc (hF _) ?_|refine Ji ?_|refine Jt ?_|refine Jo ?_|fail
    · rfl
   rw [if_neg (by simp)]
   cases A with
   | true =>
     repeat' first|refine Jc (hN _) ?_|refine Jo ?_|fail
     all_goals rfl
   | false =>
     rw [if_neg (by simp)]
     have hcl:=Zb te
     repeat' first|refine Jc (hN _) ?_|refine Jl ?_|refine Jo ?_|fail
     refine Wp.while (fun m2 tm H=>∃ (i:Nat) (base:TM),i+m2=te.length∧Zne te=Zne (te.drop i)∧tm=ovr base [(41,slV tn 4 (Za te)),(42,.int .i64 (te.length:Int)),(43,.int .i64 (i:Int))]∧H=⟨[.cells 6 [[.int .i64 kd,.int .i64 nu,.int .i64 ro,slV an 1 (Zp ag),.int .i64 go,slV tn 4 (Za te)]]],0,[],0⟩)
      (fun m2 tm H hI=>Wp.drop ?_) te.length _ _ ⟨0,_,by omega,by simp,Zf ⟨rfl,Ze (by rw [hcl]),rfl,trivial⟩,rfl⟩
     obtain ⟨i,base,hi,hgo,rfl,rfl⟩:=hI
     rw [hgo]
     by_cases hlt:i<te.length
     · obtain ⟨t, ht⟩ : ∃ t, te[i]? = some t := ⟨te[i], by simp⟩
       have hR:=hts t (List.mem_of_getElem? ht)
       have hR:=Zwb hR.1 hR.2
       have hlx:=Zq (i:Int) (te.length:Int)
       rw [decide_eq_true (by omega)] at hlx
       rw [Zd2 ht]
       have n1:=WM t.rgt 0
       generalize t.rgt=e at hR n1 ⊢
       obtain ⟨k',nm',s',b',kz'⟩:=t
       have hj:=Zk ht
       simp only [Tm.cells] at hR
       by_cases c1:e=0
       · rw [decide_eq_true c1] at n1
         rw [if_neg (by omega)]
         repeat' first|refine Jc (hR _) ?_|refine Ji ?_|refine Jx ?_|refine Jo ?_|fail
         refine DropQ.go [(41,slV tn 4 (Za te)),(42,.int .i64 (te.length:Int)),(43,.int .i64 ((i+1:Nat):Int))] ?_ ?_ rfl ?_ ?_
         · exact ⟨rfl,rfl,Ze (Zd (n:=i+1) (by omega)),trivial⟩
         · simp [Zh,under]
         · simp [YJ,ZM,Zh,under]
         · exact LoopI.go (m2-1) (by omega) ⟨i+1,_,by omega,rfl,rfl,rfl⟩
       · rw [decide_eq_false c1] at n1
         rw [if_pos c1]
         repeat' first|refine Jc (hR _) ?_|refine Ji ?_|refine Jx ?_|refine Jo ?_|fail
         all_goals rfl
     · have e : i = te.length := by omega
       subst e
       have hlx:=Zq (te.length:Int) (te.length:Int)
       rw [decide_eq_false (by omega)] at hlx
       rw [List.drop_length]
       repeat' first|refine Ji ?_|refine Jo ?_|fail
       all_goals rfl
