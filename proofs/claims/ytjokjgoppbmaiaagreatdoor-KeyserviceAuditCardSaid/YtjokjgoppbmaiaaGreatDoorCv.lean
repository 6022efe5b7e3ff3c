/-
  The variables of a term, and what a key must be: the program's text. Credentials: names that are none; what a credential must be.
-/
import Derived.Test.YtjokjgoppbmaiaaGreatDoorAwSort
import Derived.Test.YtjokjgoppbmaiaaGreatDoorStCmp
import Derived.Test.YtjokjgoppbmaiaaGreatDoorFh
set_option maxHeartbeats 64000000
set_option maxRecDepth 100000
namespace Go.Vm.Seat
open Go.Proofs
theorem sort_tm {id : Nat} {bx : List Box} {L : List Tm} (hid : bx[id]? = some (.cells 4 (cellsL L))) (hL : L ≠ []) (hok : ∀ x, x ∈ L → x.Ok ∧ x.size ≤ 100000) (hlen : L.length ≤ 100000) :
  CallOk E0 Tryz.prog 260 [.own id 4 0 L.length,.fn 87 []] ⟨bx,0,[],0⟩ (.tup []) ⟨bx.set id (.cells 4 (cellsL (sortF L))),0,[],0⟩:=
 sort_ok (E:=E0) (E1:=E1) (H:=⟨bx,0,[],0⟩) fe260.ok fe87.ok ⟨rfl,rfl⟩ rfl
  (fun enc h4 h1 cf hO blk off cap d w eg hcmp hH hblk hsz=>AnyQ.slices_SortFunc_eq Tryz.sortTm 4 Tryz.isAgg24 Tryz.sizeOf24 enc h4 h1 cf hO 87 #[] blk off cap d w eg hcmp hH hblk hsz)
  hL (N:=100000) (fun t ht=>(hok t ht).2) (fun a b ha hb=>d87 (hok a ha).1 (hok b hb).1 (by have:=(hok a ha).2;omega) (by have:=(hok b hb).2;omega) _) (by omega) hid (Nat.zero_le _)
def Opost (id:Nat) (r:PV) (H:Heap):Prop:=∃ (M:List Tm) (D:List (List PV)),r= .own id 4 0 M.length∧M≠ []∧nth H.bx id=some (.cells 4 (cellsL M ++ D))
theorem ord_ok {id : Nat} {bx : List Box} {L : List Tm} (hid : bx[id]? = some (.cells 4 (cellsL L))) (hL : L ≠ []) (hok : ∀ x, x ∈ L → x.Ok ∧ x.size ≤ 100000) (hlen : L.length ≤ 100000) :
  ∃ r H',CallOk E0 Tryz.prog 230 [.own id 4 0 L.length] ⟨bx,0,[],0⟩ r H'∧Opost id r H':=by
 have hlt:=get_lt hid
 have hs:=sort_tm hid hL hok hlen
 have hp:=sortF_perm hL (N:=100000) fun t ht=>(hok t ht).2
 have hsl:(sortF L).length=L.length:=hp.length_eq
 have hsne:sortF L≠ []:=fun h=>by rw [h] at hsl;exact hL (List.length_eq_zero_iff.1 hsl.symm)
 have hsm:∀ x,x∈sortF L→x∈L:=fun x hx=>hp.mem_iff.1 hx
 obtain ⟨r1,H1,hc,M,D,rfl,rfl,hMl,hMne,hMm⟩:=compact_ok (id:=id) (bx:=bx.set id (.cells 4 (cellsL (sortF L)))) (L:=sortF L) (by simp [hlt]) (fun x hx=>hok x (hsm x hx)) (by omega)
 rw [hsl] at hc
 rw [List.set_set] at hc
 have hMne:=hMne hsne
 refine callOk_wpR (own:=fun _=>false) tOk fe230.ok ?_
 refine Wp.seq ?_
 repeat' first | refine κn ?_ | refine κc hs ?_ | refine κc hc ?_ | refine κg ?_ | refine κa ?_ | fail
 refine Wp.while (fun m tm H=>∃ (i:Nat) (base:TM),i+m=M.length∧tm=ovr base [(0,.own id 4 0 M.length),(9,.int .i64 (M.length:Int)),(10,.int .i64 (i:Int))]∧H=⟨bx.set id (.cells 4 (cellsL (clL (M.take i) ++ M.drop i) ++ D)),0,[],0⟩)
  (fun m tm H hI=> ?_) M.length _ _ ⟨0,_,by omega,ovr_mk ⟨rfl,rfl,rfl,trivial⟩,by simp [clL]⟩
 obtain ⟨i,base,hi,rfl,rfl⟩:=hI
 have hnb:nth (bx.set id (.cells 4 (cellsL (clL (M.take i) ++ M.drop i) ++ D))) id=some (.cells 4 (cellsL (clL (M.take i) ++ M.drop i) ++ D)):=by rw [nth_eq];simp [hlt]
 by_cases hilt:i < M.length
 · obtain ⟨x, hx⟩ : ∃ x, M[i]? = some x := ⟨M[i], by simp⟩
   have hxm:=hMm x (List.mem_of_getElem? hx)
   have hxo:=hok x (hsm x hxm)
   have hlen1:(clL (M.take i)).length=i:=by rw [cl_len,List.length_take];omega
   have hat:(clL (M.take i) ++ M.drop i)[i]? = some x:=by
    rw [List.getElem?_append_right (by omega),hlen1,Nat.sub_self,List.getElem?_drop];simpa using hx
   have hnext:(clL (M.take i) ++ M.drop i).set i x.cl=clL (M.take (i+1)) ++ M.drop (i+1):=by
    rw [clL_snoc hx,drop_cons hx,List.set_append_right _ _ (by omega),hlen1,Nat.sub_self]
    simp
   have hcell:nth (cellsL (clL (M.take i) ++ M.drop i) ++ D) i=some x.cells:=by
    obtain ⟨k,nm,s,b,kids⟩:=x
    rw [nth_eq,List.getElem?_append_left (by rw [cellsL_length];exact get_lt hat)]
    exact cellsL_get hat
   have hi1:=ia_tm (id:=id) (ix:=0) (len:=M.length) hilt
   have hl1:aLoad E0 24 (.ptr id 4 (0+i) 0) ⟨bx.set id (.cells 4 (cellsL (clL (M.take i) ++ M.drop i) ++ D)),0,[],0⟩=some (.agg x.cells):=by
    rw [Nat.zero_add]
    exact ld_agg rfl rfl hnb hcell (by obtain ⟨k,nm,s,b,kids⟩:=x;rfl)
   have hcl:=c198 hxo.1 hxo.2
   have hst:Heap.wr ⟨bx.set id (.cells 4 (cellsL (clL (M.take i) ++ M.drop i) ++ D)),0,[],0⟩ (.ptr id 4 (0+i) 0) x.cl.cells=some ⟨bx.set id (.cells 4 (cellsL (clL (M.take (i+1)) ++ M.drop (i+1)) ++ D)),0,[],0⟩:=by
    rw [Nat.zero_add,wr_of hnb hcell (by obtain ⟨k,nm,s,b,kids⟩:=x;simp [Tm.cells,Tm.cl]) (Nat.zero_le _),List.set_set, ← hnext, ← cellsL_set,List.set_append_left _ _ (by rw [cellsL_length];exact get_lt hat)]
    obtain ⟨k,nm,s,b,kids⟩:=x
    simp [Tm.cells,Tm.cl]
   obtain ⟨k,nm,s,b,kids⟩:=x
   simp only [Tm.cl,Tm.cells] at hst hl1 hcl
   repeat' first | refine κn ?_ | refine κc (hcl _) ?_ | refine κJ ?_ | (apply qLd;rfl;rfl;rfl;assumption;exact IsV.any _) | refine κz ?_ ?_ | refine κg ?_ | refine κa ?_ | intro hb
   · exact LoopI.go (m - 1) (by omega) ⟨i+1,_,by omega,ovr_mk ⟨rfl,rfl,int_eq (wrap_nat (n:=i+1) (by omega)),trivial⟩,rfl⟩
   · exfalso;simp at hb;omega
 · have e : i = M.length := by omega
   subst e
   rw [List.take_length,List.drop_length,List.append_nil] at hnb
   rw [List.take_length,List.drop_length,List.append_nil]
   repeat' first | refine κn ?_ | refine κz ?_ ?_ | refine κg ?_ | refine κa ?_ | intro hb
   · exfalso;simp at hb
   · refine RetR.ret rfl ⟨clL M, D, by rw [cl_len]; rfl, fun h => ?_, hnb⟩
     have:=cl_len M
     rw [h] at this
     exact hMne (List.length_eq_zero_iff.1 this.symm)
theorem ord_nil:∀ H,CallOk E0 Tryz.prog 230 [.nils] H .nils H:=
 okFact_ok (x:=⟨230,[.nils],.nils⟩) tOk follows fOk zOk (fuel:=100) (k:=60) (by kernel_rfl)
theorem own_tm {H:Heap} {id:Nat} {M:List Tm} {D:List (List PV)} (hM:M≠ []) (hH:nth H.bx id=some (.cells 4 (cellsL M ++ D))):frz3 0 H (.own id 4 0 M.length)=some (slV true 4 (cellsL M)):=by
 have e:slV true 4 (cellsL M)= .sl .none 4 (cellsL M):=by
  cases M with
  | nil=>exact absurd rfl hM
  | cons a r =>
    obtain ⟨k,nm,s,b,kids⟩:=a
    exact slV_cons _ _ _ _
 rw [e]
 have h1:((cellsL M ++ D).drop 0).take M.length=cellsL M:=by rw [List.drop_zero, ← cellsL_length M,List.take_left]
 show frzC 0 H (.own id 4 0 M.length)=_
 simp only [frzC,Nat.not_lt_zero,if_false,hH,true_and,Nat.zero_add,List.length_append,cellsL_length,Nat.le_add_right,if_true,h1,frzLL_cellsL]
theorem c170 {t:Tm} (ht:t.Ok) (hsz:t.size≤90000) (kk:Int):∃ M:List Tm,(M= []↔kndL kk t.all= [])∧∀ H,CallOk E0 Tryz.prog 170 [.agg t.cells,.int .i64 kk] H (slV true 4 (cellsL M)) H:=by
 have hao:=all_ok ht
 have hal:=t.all_len
 have hkl:=kndL_len kk t.all
 obtain ⟨H1,hc,v',rest',rfl,hG,hF⟩:=walk_ok kk (.cells 4 [t.cells]) ht (rest:=[]) (v:= .nils) (L:=[]) .nil (by simp;omega)
 rw [List.nil_append] at hG
 have hkm:∀ x,x∈kndL kk t.all→x.Ok∧x.size≤100000:=fun x hx=>by
  have:=hao x (List.mem_filter.1 hx).1
  exact ⟨this.1,by omega⟩
 generalize kndL kk t.all=L at hG hkl hkm ⊢
 unfold Wh at hc
 obtain ⟨k,nm,s,b,kids⟩:=t
 simp only [Tm.cells] at hc
 cases hG with
 | nil =>
   refine ⟨[],by simp,?_⟩
   rw [show slV true 4 (cellsL [])= .nils from slV_nil_true 4]
   have ho:=ord_nil ⟨.cells 4 [[.int .i64 k,.str nm,.int .i64 s,slV b 4 (cellsL kids)]] :: .cells 1 [[.int .i64 kk]] :: .cells 1 [[.nils]] :: rest',0,[],0⟩
   refine κw tOk fe170.ok rfl ?_ (by simp [frzGL,frzG,Tm.cells,frz_tm,frz1])
   repeat' first | refine κn ?_ | refine κc hc ?_ | refine κc ho ?_ | refine κg ?_ | refine κa ?_ | refine κf ?_ | fail
   all_goals rfl
 | own o L hob hL =>
   obtain ⟨r,H',ho,M,D,rfl,hMne,hnb⟩:=ord_ok (id:=o+3) (bx:= .cells 4 [[.int .i64 k,.str nm,.int .i64 s,slV b 4 (cellsL kids)]] :: .cells 1 [[.int .i64 kk]] :: .cells 1 [[.own (o+3) 4 0 L.length]] :: rest') (L:=L) (by simpa using hob) hL hkm (by omega)
   refine ⟨M,by simp [hMne,hL],?_⟩
   have hfin:=own_tm hMne hnb
   obtain ⟨bx',ro',lv',nt'⟩:=H'
   refine κw tOk fe170.ok (frz3_slV _ _ _ _ _) ?_ (by simp [frzGL,frzG,Tm.cells,frz_tm,frz1])
   repeat' first | refine κn ?_ | refine κc hc ?_ | refine κc ho ?_ | refine κg ?_ | refine κa ?_ | refine κf ?_ | fail
   exact hfin
theorem c85 {t:Tm} (ht:t.Ok) (hsz:t.size≤90000):∃ M:List Tm,(M= []↔kndL 1 t.all= [])∧∀ H,CallOk E0 Tryz.prog 85 [.agg t.cells] H (slV true 4 (cellsL M)) H:=by
 obtain ⟨M,hM,hc⟩:=c170 ht hsz 1
 refine ⟨M,hM,?_⟩
 obtain ⟨k,nm,s,tb,kids⟩:=t
 refine κw tOk fe85.ok (frz3_slV _ _ _ _ _) ?_
 repeat' first | refine κn ?_ | refine κc (hc _) ?_ | refine κg ?_ | refine κa ?_ | refine κf ?_ | fail
 exact frz3_slV _ _ _ _ _
theorem c46 {t:Tm} (ht:t.Ok) (hsz:t.size≤90000):∀ H,CallOk E0 Tryz.prog 46 [.agg t.cells] H (.int .i64 t.key) H:=by
 have h1:=c101 ht (by omega)
 obtain ⟨M,hM,h2⟩:=c85 ht hsz
 have h3:=c84 ht (by omega)
 have hg:t.ground=decide (M.length=0):=by
  unfold Tm.ground
  cases h:kndL 1 t.all with
  | nil=>rw [hM.2 h];rfl
  | cons a r =>
    have h2:M≠ []:=fun e=>by rw [hM.1 e] at h;cases h
    simp [h2]
 unfold Tm.key
 rw [hg]
 generalize t.valid=e1 at h1 h3 ⊢
 generalize t.th=e2 at h1 h3 ⊢
 generalize t.fre=f at h3 ⊢
 clear hg hM
 obtain ⟨k,nm,s,tb,kids⟩:=t
 refine κw tOk fe46.ok rfl ?_
 repeat' first | refine κn ?_ | (apply qCl;rfl;rfl;rfl;rfl;first | exact h1 _ | exact h2 _ | exact h3 _) | refine κl ?_ | refine κt ?_ | refine κb ?_ ?_ | refine κg ?_ | refine κa ?_ | refine κf ?_ | intro hb
 all_goals (refine int_eq ?_;clear h1 h2 h3)
 · have h9 : (if e1 ≠ 0 then e1 else e2) ≠ 0 := by simpa using hb
   by_cases c1:e1≠0
   · rw [if_pos c1,if_pos c1]
   · rw [if_neg c1] at h9
     rw [if_neg c1,if_neg c1,if_pos h9]
 all_goals
  have h9:(if e1≠0 then e1 else e2)=0:=by simpa using ‹((if e1≠0 then e1 else e2) != 0)=false›
  have c1:¬ e1≠0:=fun c=>by rw [if_pos c] at h9;exact c h9
  rw [if_neg c1] at h9
  rw [if_neg c1,if_neg (by omega)]
 · rw [if_pos]
   rw [cellsL_length] at hb
   have:=of_decide_eq_true hb
   exact decide_eq_false (by omega)
 all_goals
  rw [if_neg (by
   have h8:= ‹decide (0 < ((cellsL M).length:Int))=false›
   rw [cellsL_length] at h8
   have:=of_decide_eq_false h8
   rw [decide_eq_true (show M.length=0 by omega)]
   simp)]
 · rw [if_pos]
   cases f
   · rfl
   · exfalso;simp at hb;omega
 · rw [if_neg]
   intro hf
   subst hf
   simp at hb
end Go.Vm.Seat
namespace Go.Vm.Seat
open Go.Proofs
def ixW:List Bs→Nat→Int
 | [],_=> -1
 | a :: r,i=>if dottedB a=false then (i:Int) else ixW r (i+1)
theorem ixW_iff:∀ (l:List Bs) (i:Nat),0≤ixW l i↔wrongB l=true
 | [],i=>by simp [ixW,wrongB]
 | a :: r, i => by
   have ih:=ixW_iff r (i+1)
   simp only [ixW]
   by_cases h:dottedB a=false
   · rw [if_pos h];simp [wrongB,h]
   · rw [if_neg h, ih]
     have h2:dottedB a=true:=by simpa using h
     simp [wrongB,h2]
theorem ixW_wrong (l:List Bs) (i:Nat):decide (0≤ixW l i)=wrongB l:=by
 rw [Bool.eq_iff_iff,decide_eq_true_iff];exact ixW_iff l i
theorem ixW_drop {l:List Bs} {i:Nat} {a:Bs} (h:l[i]? = some a):ixW (l.drop i) i=if dottedB a=false then (i:Int) else ixW (l.drop (i+1)) (i+1):=by
 rw [drop_cons h];rfl
theorem c182 {s:Bs} (hs:s.length≤100000):∀ H,CallOk E0 Tryz.prog 182 [.str s] H (.bool (!dottedB s)) H:=by
 have hc:=c51 hs
 generalize dottedB s=d at hc
 refine κw tOk fe182.ok rfl ?_
 repeat' first | refine κn ?_ | refine κc (hc _) ?_ | refine κt ?_ | refine κb ?_ ?_ | refine κg ?_ | refine κa ?_ | refine κf ?_ | intro hb
 all_goals (refine ifq ?_;simp at hb;simp [hb])
theorem c193 {l:List Bs} (hl:∀ s,s∈l→s.length≤100000) (hlen:l.length≤100000) (b:Bool):∀ H,CallOk E0 Tryz.prog 193 [slV b 1 (strC l),.fn 182 []] H (.int .i64 (ixW l 0)) H:=by
 refine κw tOk fe193.ok rfl ?_
 repeat' first | refine κn ?_ | refine κl ?_ | refine κg ?_ | refine κa ?_ | fail
 refine Wp.while (fun m tm H=>∃ (i:Nat) (base:TM),i+m=l.length∧ixW l 0=ixW (l.drop i) i∧tm=ovr base [(0,slV b 1 (strC l)),(1,.fn 182 []),(7,.int .i64 (l.length:Int)),(8,.int .i64 (i:Int))]∧H=⟨[],0,[],0⟩)
  (fun m tm H hI=> ?_) l.length _ _ ⟨0,_,by omega,by simp,ovr_mk ⟨rfl,rfl,int_eq (by rw [strC_len]),rfl,trivial⟩,rfl⟩
 obtain ⟨i,base,hi,hgo,rfl,rfl⟩:=hI
 rw [hgo]
 by_cases hlt:i < l.length
 · obtain ⟨a, ha⟩ : ∃ a, l[i]? = some a := ⟨l[i], by simp⟩
   have hj:=strC_get ha
   have hc:=c182 (hl a (List.mem_of_getElem? ha))
   rw [ixW_drop ha]
   cases hd:dottedB a with
   | false =>
     rw [hd] at hc
     have hc:∀ H,CallOk E0 Tryz.prog 182 [.str a] H (.bool true) H:=hc
     repeat' first | refine κn ?_ | refine κc (hc _) ?_ | refine κx ?_ | refine κz ?_ ?_ | refine κg ?_ | refine κa ?_ | refine κf ?_ | intro hb
     · rfl
     · exfalso;simp at hb;omega
   | true =>
     rw [hd] at hc
     have hc:∀ H,CallOk E0 Tryz.prog 182 [.str a] H (.bool false) H:=hc
     repeat' first | refine κn ?_ | refine κc (hc _) ?_ | refine κx ?_ | refine κz ?_ ?_ | refine κg ?_ | refine κa ?_ | refine κf ?_ | intro hb
     · exact LoopI.go (m - 1) (by omega) ⟨i+1,_,by omega,rfl,ovr_mk ⟨rfl,rfl,rfl,int_eq (wrap_nat (n:=i+1) (by omega)),trivial⟩,rfl⟩
     · exfalso;simp at hb;omega
 · have e : i = l.length := by omega
   subst e
   repeat' first | refine κn ?_ | refine κz ?_ ?_ | refine κg ?_ | refine κa ?_ | refine κf ?_ | intro hb
   · exfalso;simp at hb
   · rw [List.drop_length];rfl
theorem c115 {l:List Bs} (hl:∀ s,s∈l→s.length≤100000) (hlen:l.length≤100000) (b:Bool):∀ H,CallOk E0 Tryz.prog 115 [slV b 1 (strC l),.fn 182 []] H (.bool (wrongB l)) H:=by
 have hc:=c193 hl hlen b
 rw [← ixW_wrong l 0]
 generalize ixW l 0=x at hc
 refine κw tOk fe115.ok rfl ?_
 repeat' first | refine κn ?_ | refine κc (hc _) ?_ | refine κt ?_ | refine κb ?_ ?_ | refine κg ?_ | refine κa ?_ | refine κf ?_ | intro hb
 all_goals (refine ifq ?_;simp at hb;simp [hb])
theorem c99 {l:List Bs} (hl:∀ s,s∈l→s.length≤100000) (hlen:l.length≤100000) (b:Bool):∀ H,CallOk E0 Tryz.prog 99 [slV b 1 (strC l)] H (.bool (wrongB l)) H:=by
 have hc:=c115 hl hlen b
 generalize wrongB l=w at hc
 refine κw tOk fe99.ok rfl ?_
 repeat' first | refine κn ?_ | refine κc (hc _) ?_ | refine κt ?_ | refine κb ?_ ?_ | refine κg ?_ | refine κa ?_ | refine κf ?_ | intro hb
 all_goals (cases w <;> first | rfl | cases hb)
def ixO:List Int→Nat→Int
 | [],_=> -1
 | a :: r,i=>if outB a=true then (i:Int) else ixO r (i+1)
theorem ixO_iff:∀ (l:List Int) (i:Nat),0≤ixO l i↔l.any outB=true
 | [],i=>by simp [ixO]
 | a :: r, i => by
   have ih:=ixO_iff r (i+1)
   simp only [ixO]
   by_cases h:outB a=true
   · rw [if_pos h];simp [h]
   · rw [if_neg h,ih];simp [h]
theorem ixO_out (l:List Int) (i:Nat):decide (0≤ixO l i)=l.any outB:=by
 rw [Bool.eq_iff_iff,decide_eq_true_iff];exact ixO_iff l i
theorem ixO_drop {l:List Int} {i:Nat} {a:Int} (h:l[i]? = some a):ixO (l.drop i) i=if outB a=true then (i:Int) else ixO (l.drop (i+1)) (i+1):=by
 rw [drop_cons h];rfl
theorem c97 (n:Int):∀ H,CallOk E0 Tryz.prog 97 [.int .i64 n] H (.bool (outB n)) H:=by
 refine κw tOk fe97.ok rfl ?_
 repeat' first | refine κn ?_ | refine κk ?_ | refine κt ?_ | refine κb ?_ ?_ | refine κg ?_ | refine κa ?_ | refine κf ?_ | intro hb
 all_goals (refine ifq ?_;simp [outB] at *;omega)
theorem c183 {l:List Int} (hlen:l.length≤100000) (b:Bool):∀ H,CallOk E0 Tryz.prog 183 [slV b 1 (numC l),.fn 97 []] H (.int .i64 (ixO l 0)) H:=by
 refine κw tOk fe183.ok rfl ?_
 repeat' first | refine κn ?_ | refine κl ?_ | refine κg ?_ | refine κa ?_ | fail
 refine Wp.while (fun m tm H=>∃ (i:Nat) (base:TM),i+m=l.length∧ixO l 0=ixO (l.drop i) i∧tm=ovr base [(0,slV b 1 (numC l)),(1,.fn 97 []),(7,.int .i64 (l.length:Int)),(8,.int .i64 (i:Int))]∧H=⟨[],0,[],0⟩)
  (fun m tm H hI=> ?_) l.length _ _ ⟨0,_,by omega,by simp,ovr_mk ⟨rfl,rfl,int_eq (by rw [numC_len]),rfl,trivial⟩,rfl⟩
 obtain ⟨i,base,hi,hgo,rfl,rfl⟩:=hI
 rw [hgo]
 by_cases hlt:i < l.length
 · obtain ⟨a, ha⟩ : ∃ a, l[i]? = some a := ⟨l[i], by simp⟩
   have hj:=numC_get ha
   have hc:=c97 a
   rw [ixO_drop ha]
   cases hd:outB a with
   | true =>
     rw [hd] at hc
     repeat' first | refine κn ?_ | refine κc (hc _) ?_ | refine κx ?_ | refine κz ?_ ?_ | refine κg ?_ | refine κa ?_ | refine κf ?_ | intro hb
     · rfl
     · exfalso;simp at hb;omega
   | false =>
     rw [hd] at hc
     repeat' first | refine κn ?_ | refine κc (hc _) ?_ | refine κx ?_ | refine κz ?_ ?_ | refine κg ?_ | refine κa ?_ | refine κf ?_ | intro hb
     · exact LoopI.go (m - 1) (by omega) ⟨i+1,_,by omega,rfl,ovr_mk ⟨rfl,rfl,rfl,int_eq (wrap_nat (n:=i+1) (by omega)),trivial⟩,rfl⟩
     · exfalso;simp at hb;omega
 · have e : i = l.length := by omega
   subst e
   repeat' first | refine κn ?_ | refine κz ?_ ?_ | refine κg ?_ | refine κa ?_ | refine κf ?_ | intro hb
   · exfalso;simp at hb
   · rw [List.drop_length];rfl
theorem c100 {l:List Int} (hlen:l.length≤100000) (b:Bool):∀ H,CallOk E0 Tryz.prog 100 [slV b 1 (numC l),.fn 97 []] H (.bool (l.any outB)) H:=by
 have hc:=c183 hlen b
 rw [← ixO_out l 0]
 generalize ixO l 0=x at hc
 refine κw tOk fe100.ok rfl ?_
 repeat' first | refine κn ?_ | refine κc (hc _) ?_ | refine κt ?_ | refine κb ?_ ?_ | refine κg ?_ | refine κa ?_ | refine κf ?_ | intro hb
 all_goals (refine ifq ?_;simp at hb;simp [hb])
theorem c98 (t:Tm) (nm:Bs) (n:Nat):∀ H,CallOk E0 Tryz.prog 98 [.agg t.cells,.str nm,.int .i64 (n:Int)] H (.bool (t.isB nm n)) H:=by
 obtain ⟨k,m,s,b,kids⟩:=t
 refine κw tOk fe98.ok rfl ?_ (by simp [frzGL,frzG,Tm.cells,frz_tm,frz1])
 repeat' first | refine κn ?_ | refine κk ?_ | refine κl ?_ | refine κt ?_ | refine κb ?_ ?_ | refine κg ?_ | refine κa ?_ | refine κf ?_ | intro hb
 all_goals (refine ifq ?_;show _=(decide (k=3) && ((m == nm) && decide (kids.length=n))))
 all_goals first
  | (have h1:= ‹(k == 3)=false›;simp at h1;simp [h1];done)
  | (rw [‹(m == nm)=false›];simp;done)
  | (have h1 := ‹(k == 3) = true›
     rw [‹(m == nm)=true›]
     rw [cellsL_length] at hb
     simp at h1 hb
     have h3:kids.length=n:=by omega
     simp [h1,h3]
     done)
  | (rw [cellsL_length] at hb
     simp at hb
     have h3:¬ kids.length=n:=by omega
     simp [h3]
     done)
theorem c45 (x : Cred) (h1 : x.sub.length ≤ 100000) (hk : x.key.Ok) (hks : x.key.size ≤ 90000) (hp : ∀ s, s ∈ x.per → s.length ≤ 100000) (he : ∀ s, s ∈ x.exc → s.length ≤ 100000) (hpl : x.per.length ≤ 100000) (hel : x.exc.length ≤ 100000) :
  ∀ H,CallOk E0 Tryz.prog 45 [.agg x.cells] H (.int .i64 x.valid) H:=by
 obtain ⟨sub,key,iss,pn,per,en,exc,ser,fr,till⟩:=x
 simp only [] at h1 hk hks hp he hpl hel
 have c1:=c51 h1
 have c2:=c46 hk hks
 have c3:=c98 key [112,107] 1
 have c4:=c99 hp hpl pn
 have c5:=c99 he hel en
 have c6:∀ H,CallOk E0 Tryz.prog 100 [.sl .full 1 [[.int .i64 ser],[.int .i64 fr],[.int .i64 till]],.fn 97 []] H (.bool ([ser,fr,till].any outB)) H:=fun H=>
  callOk_lift (c100 (l:=[ser,fr,till]) (by simp) true hNil) (by
   rw [show slV true 1 (numC [ser,fr,till])= .sl .none 1 [[.int .i64 ser],[.int .i64 fr],[.int .i64 till]] from slV_cons _ _ _ _]
   rfl) rfl H
 simp only [Cred.valid]
 generalize dottedB sub=d at c1
 generalize key.key=e at c2
 generalize key.isB [112,107] 1=i3 at c3
 generalize wrongB per=w1 at c4
 generalize wrongB exc=w2 at c5
 generalize [ser,fr,till].any outB=o at c6
 obtain ⟨k,nm,s,b,kids⟩:=key
 simp only [Tm.cells] at c2 c3
 simp only [Cred.cells,Tm.cells,List.cons_append,List.nil_append]
 have hco:[slV pn 1 (strC per),slV en 1 (strC exc)].all cellOk=true:=by simp only [List.all_cons,List.all_nil,cellOk_slV,Bool.and_self]
 refine κw tOk fe45.ok rfl ?_
 repeat' first | refine κn ?_ | refine κk ?_ | (apply qCl;rfl;rfl;rfl;rfl;first | exact c1 _ | exact c2 _ | exact c3 _ | exact c4 _ | exact c5 _ | exact c6 _) | refine κs ?_ | refine κl ?_ | refine κt ?_ | refine κb ?_ ?_ | refine κg ?_ | refine κa ?_ | refine κf ?_ | intro hb
 all_goals (refine int_eq ?_;clear c1 c2 c3 c4 c5 c6 h1 hp he hk hks hco)
 all_goals
  have hwr:IntKind.i64.wrap ((per.length:Int)+(exc.length:Int))=(per.length:Int)+(exc.length:Int):=IntWalk.i64_in _ (by omega)
  simp only [strC_len,hwr,Bool.not_eq_true',Bool.not_eq_false',bne_iff_ne,bne_eq_false_iff_eq,decide_eq_true_eq,decide_eq_false_iff_not,ne_eq] at *
  subst_vars
  (repeat' split) <;> first | rfl | omega | (exfalso;simp_all;done) | (simp_all;done) | (exfalso;simp_all;omega)
end Go.Vm.Seat
