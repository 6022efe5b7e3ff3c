/-
  The variables of a term: the walk. The variables of a term: terms that stand twice go. What the shelf knows of slices.SortFunc at this program's terms.
-/
import Derived.Test.YtjokjgoppbmaiaaGreatDoorVw
import Derived.Shelf.SlSortCmp.WholeK
import Derived.Test.YtjokjgoppbmaiaaGreatDoorProg
set_option maxHeartbeats 64000000
set_option maxRecDepth 100000
namespace Go.Vm.Seat
open Go.Proofs
theorem Gth.lt {rest:List Box} {v:PV} {L:List Tm} (h:Gth rest v L) {i:Nat} (hi:rest.length≤i):∀ n,v≠ .own (i+3) 4 0 n:=by
 cases h with
 | nil=>intro n hn;cases hn
 | own o L hb hL =>
   intro n hn
   have h1:=get_lt hb
   have:o+3=i+3:=(PV.own.inj hn).1
   omega
theorem Gth.app {rest:List Box} {v:PV} {L:List Tm} (h:Gth rest v L) (l:List Box):Gth (rest ++ l) v L:=by
 cases h with
 | nil=>exact .nil
 | own o L hb hL=>exact .own o L (by rw [List.getElem?_append_left (get_lt hb)];exact hb) hL
theorem Fra.app (rest:List Box) (v:PV) (l:List Box):Fra rest v (rest ++ l) v:=
 ⟨by simp,fun i b hb hv=>⟨by rw [List.getElem?_append_left (get_lt hb)];exact hb,hv⟩⟩
theorem kndL_all {kk k:Int} {nm:List UInt8} {s:Int} {b:Bool} {kids:List Tm}:kndL kk (Tm.mk k nm s b kids).all=(if (Tm.mk k nm s b kids).knd=kk then [Tm.mk k nm s b kids] else []) ++ kndL kk (allL kids):=by
 simp only [Tm.all,kndL,List.filter_cons]
 by_cases c:(Tm.mk k nm s b kids).knd=kk <;> simp [c]
theorem kndL_app {kk:Int} {l l':List Tm}:kndL kk (l ++ l')=kndL kk l ++ kndL kk l':=List.filter_append _ _
theorem walk_ok (kk : Int) (A : Box) {t : Tm} (ht : t.Ok) : ∀ {rest : List Box} {v : PV} {L : List Tm}, Gth rest v L → L.length + t.size ≤ 100000 →
  ∃ H',CallOk E0 Tryz.prog 228 [.agg t.cells,.fn 229 [.ptr 1 1 0 0,.ptr 2 1 0 0]] (Wh kk A v rest) (.tup []) H'∧Wpost kk A (L ++ kndL kk t.all) rest v H':=by
 induction ht with
 | @mk k nm s b kids hk hs hn hl hok ih=>
 intro rest v L hG hsz
 simp only [Tm.size] at hsz
 have hGt:=hG.lt (Nat.le_refl _)
 obtain ⟨H1,hc,v1,rest1,rfl,hG1,hF1⟩:=cl_ok (x:=Tm.mk k nm s b kids) kk A (hG.app [Box.cells 4 [[.int .i64 k,.str nm,.int .i64 s,slV b 4 (cellsL kids)]]]) (by omega)
 have hTB:=(hF1.bx rest.length (.cells 4 [[.int .i64 k,.str nm,.int .i64 s,slV b 4 (cellsL kids)]]) (by simp) hGt).1
 unfold Wh at hc ⊢
 refine callOk_wpP (own:=fun _=>false) tOk fe228.ok ?_
 refine Wp.seq ?_
 have hl7:aLoad E0 24 (.ptr (rest.length+3) 4 0 0) ⟨A :: .cells 1 [[.int .i64 kk]] :: .cells 1 [[v]] :: (rest ++ [Box.cells 4 [[.int .i64 k,.str nm,.int .i64 s,slV b 4 (cellsL kids)]]]),0,[],0⟩=some (.agg [.int .i64 k,.str nm,.int .i64 s,slV b 4 (cellsL kids)]):=
  ld_agg rfl rfl (nthL_last _ _ _ _ _) rfl rfl
 have hl10:aLoad E0 22 (.ptr (rest.length+3) 4 0 3) ⟨A :: .cells 1 [[.int .i64 kk]] :: .cells 1 [[v1]] :: rest1,0,[],0⟩=some (slV b 4 (cellsL kids)):=
  ld_one rfl rfl ((nthL_rest _ _ _ _ _).trans hTB) rfl rfl
 repeat' first | refine κn ?_ | refine κc hc ?_ | (apply qLd;rfl;rfl;rfl;assumption;exact IsV.any _) | refine κl ?_ | refine κg ?_ | refine κa ?_ | fail
 rw [show (Tm.mk k nm s b kids).knd=k from rfl] at hG1
 refine Wp.while (fun m tm H => ∃ (i : Nat) (base : TM) (v' : PV) (rest' : List Box), i + m = kids.length ∧ Gth rest' v' (L ++ ((if k = kk then [Tm.mk k nm s b kids] else []) ++ kndL kk (allL (kids.take i)))) ∧ Fra rest v rest' v' ∧
   tm=ovr base [(1,.fn 229 [.ptr 1 1 0 0,.ptr 2 1 0 0]),(10,slV b 4 (cellsL kids)),(11,.int .i64 (kids.length:Int)),(12,.int .i64 (i:Int))]∧H=⟨A :: .cells 1 [[.int .i64 kk]] :: .cells 1 [[v']] :: rest',0,[],0⟩)
  (fun m tm H hI=> ?_) kids.length _ _ ⟨0,_,v1,rest1,by omega,by simpa [allL,kndL] using hG1,(Fra.app rest v _).trans hF1,ovr_mk ⟨rfl,rfl,int_eq (by rw [cellsL_length]),rfl,trivial⟩,rfl⟩
 clear hl7 hl10 hG1 hF1 hTB hc
 obtain ⟨i,base,v',rest',hi,hG',hF',rfl,rfl⟩:=hI
 unfold maxLen at hl
 by_cases hlt:i < kids.length
 · obtain ⟨t', ht'⟩ : ∃ t', kids[i]? = some t' := ⟨kids[i], by simp⟩
   have hm:t'∈kids:=List.mem_of_getElem? ht'
   have hs2:=allL_snoc ht'
   have hst:=sizeL_take ht'
   have hsl:=sizeL_take_le kids (i+1)
   have hlen1:(kndL kk (allL (kids.take i))).length≤sizeL (kids.take i):=by rw [← allL_len];exact kndL_len _ _
   have hlen2:(if k=kk then [Tm.mk k nm s b kids] else []).length≤1:=by split <;> simp
   have hj0:=ht'
   obtain ⟨k',nm',s',b',kids'⟩:=t'
   have hj:=cellsL_get ht'
   obtain ⟨H1,hc,v2,rest2,rfl,hG2,hF2⟩:=ih _ hm (hG'.app [Box.cells 4 [[.int .i64 k',.str nm',.int .i64 s',slV b' 4 (cellsL kids')]]]) (by simp only [List.length_append];omega)
   unfold Wh at hc
   have hwr : Heap.wr ⟨A :: .cells 1 [[.int .i64 kk]] :: .cells 1 [[v']] :: (rest' ++ [Box.cells 4 [Zc]]), 0, [], 0⟩ (.ptr (rest'.length + 3) 4 0 0) [.int .i64 k', .str nm', .int .i64 s', slV b' 4 (cellsL kids')] =
     some ⟨A :: .cells 1 [[.int .i64 kk]] :: .cells 1 [[v']] :: (rest' ++ [Box.cells 4 [[.int .i64 k',.str nm',.int .i64 s',slV b' 4 (cellsL kids')]]]),0,[],0⟩:=by
    rw [wr_of (es:=4) (el:=[Zc]) (old:=Zc) (nthL_last _ _ _ _ _) rfl (by simp) (Nat.zero_le _)]
    simp
   have hl16:aLoad E0 24 (.ptr (rest'.length+3) 4 0 0) ⟨A :: .cells 1 [[.int .i64 kk]] :: .cells 1 [[v']] :: (rest' ++ [Box.cells 4 [[.int .i64 k',.str nm',.int .i64 s',slV b' 4 (cellsL kids')]]]),0,[],0⟩=some (.agg [.int .i64 k',.str nm',.int .i64 s',slV b' 4 (cellsL kids')]):=
    ld_agg rfl rfl (nthL_last _ _ _ _ _) rfl rfl
   repeat' first | refine κn ?_ | refine κc hc ?_ | (apply qLd;rfl;rfl;rfl;assumption;exact IsV.any _) | refine κx ?_ | refine κz ?_ ?_ | refine κg ?_ | refine κa ?_ | intro hb
   · refine LoopI.go (m - 1) (by omega) ⟨i + 1, _, v2, rest2, by omega, ?_, (hF'.trans (Fra.app rest' v' _)).trans hF2, ovr_mk ⟨rfl, rfl, rfl, int_eq (wrap_nat (n := i + 1) (by omega)), trivial⟩, rfl⟩
     rw [hs2,kndL_app]
     simpa only [List.append_assoc] using hG2
   · exfalso;simp at hb;omega
 · have e : i = kids.length := by omega
   subst e
   rw [List.take_length] at hG'
   repeat' first | refine κn ?_ | refine κz ?_ ?_ | refine κa ?_ | intro hb
   · exfalso;simp at hb
   · exact RetP.go rfl rfl ⟨v',rest',rfl,by rw [kndL_all];exact hG',hF'⟩
end Go.Vm.Seat
namespace Go.Vm.Seat
open Go.Proofs
theorem sl_lo {id k n:Nat} (h:k≤n):aSlice E0 22 (.own id 4 0 n) (some (.int .i64 (k:Int))) none none=some (.own id 4 (0+k) (n - k)):=by
 obtain ⟨ti,e,et⟩:∃ ti,E0.T 22=some ti∧ti.tk= .slice 24:=⟨_,rfl,rfl⟩
 obtain ⟨ei,e2,e3⟩:∃ ei,E0.T 24=some ei∧ei.size=4:=⟨_,rfl,rfl⟩
 have hn:nat? (.int .i64 (k:Int))=some k:=by simp [nat?]
 simp only [aSlice,e,et,e2,e3,if_true,bound,hn,if_pos h]
theorem sl_hi {id k n:Nat} (h:k≤n):aSlice E0 22 (.own id 4 0 n) none (some (.int .i64 (k:Int))) none=some (.own id 4 0 k):=by
 obtain ⟨ti,e,et⟩:∃ ti,E0.T 22=some ti∧ti.tk= .slice 24:=⟨_,rfl,rfl⟩
 obtain ⟨ei,e2,e3⟩:∃ ei,E0.T 24=some ei∧ei.size=4:=⟨_,rfl,rfl⟩
 have hn:nat? (.int .i64 (k:Int))=some k:=by simp [nat?]
 simp only [aSlice,e,et,e2,e3,if_true,bound,hn,if_pos h,Nat.sub_zero]
theorem ia_tm {id ix len j:Nat} (hj:j < len):aIndexAddr E0 22 (.own id 4 ix len) (.int .i64 (j:Int))=some (.ptr id 4 (ix+j) 0):=ia_own rfl rfl rfl rfl hj
theorem ld_tm {id j:Nat} {H:Heap} {L:List Tm} {t:Tm} (hb:nth H.bx id=some (.cells 4 (cellsL L))) (hj:L[j]? = some t):aLoad E0 24 (.ptr id 4 j 0) H=some (.agg t.cells):=by
 obtain ⟨k,nm,s,b,kids⟩:=t
 exact ld_agg rfl rfl hb ((nth_eq _ _).trans (cellsL_get hj)) rfl
theorem cellsL_set (L:List Tm) (j:Nat) (t:Tm):(cellsL L).set j t.cells=cellsL (L.set j t):=by
 simp only [cellsL_eq,List.map_set]
theorem wr_tm {id j:Nat} {H:Heap} {L:List Tm} {t u:Tm} (hb:nth H.bx id=some (.cells 4 (cellsL L))) (hj:L[j]? = some u) (hro:H.ro≤id):H.wr (.ptr id 4 j 0) t.cells=some {H with bx:=H.bx.set id (.cells 4 (cellsL (L.set j t)))}:=by
 obtain ⟨k,nm,s,b,kids⟩:=t
 obtain ⟨k',nm',s',b',kids'⟩:=u
 rw [wr_of hb ((nth_eq _ _).trans (cellsL_get hj)) (by simp [Tm.cells]) hro]
 rw [← cellsL_set]
 simp [Tm.cells]
theorem c262 {t u:Tm} (ht:t.Ok) (hu:u.Ok) (h1:t.size < 4611686018427387904) (h2:u.size < 4611686018427387904):∀ H,CallOk E0 Tryz.prog 262 [.agg t.cells,.agg u.cells] H (.bool (decide (t.cmp u=0))) H:=by
 have hc:=fun H=>toE0 (d87 ht hu h1 h2 H)
 generalize t.cmp u=c at hc ⊢
 obtain ⟨k,nm,s,b,kids⟩:=t
 obtain ⟨k',nm',s',b',kids'⟩:=u
 refine κw tOk fe262.ok rfl ?_
 repeat' first | refine κn ?_ | refine κc (hc _) ?_ | refine κt ?_ | refine κb ?_ ?_ | refine κg ?_ | refine κa ?_ | refine κf ?_ | intro hb
 all_goals (refine ifq ?_;simp at hb;simp [hb])
def Cpost (id:Nat) (bx:List Box) (L:List Tm) (r:PV) (H:Heap):Prop:=∃ (M:List Tm) (D:List (List PV)),r= .own id 4 0 M.length∧H=⟨bx.set id (.cells 4 (cellsL M ++ D)),0,[],0⟩∧M.length≤L.length∧(L≠ []→M≠ [])∧∀ x,x∈M→x∈L
theorem take_cells (M:List Tm) (k:Nat):(cellsL M).take k=cellsL (M.take k):=by simp only [cellsL_eq,List.map_take]
theorem compact_ok {id : Nat} {bx : List Box} {L : List Tm} (hid : bx[id]? = some (.cells 4 (cellsL L))) (hok : ∀ x, x ∈ L → x.Ok ∧ x.size ≤ 100000) (hlen : L.length ≤ 100000) :
  ∃ r H',CallOk E0 Tryz.prog 261 [.own id 4 0 L.length,.fn 262 []] ⟨bx,0,[],0⟩ r H'∧Cpost id bx L r H':=by
 have hlt:=get_lt hid
 have hself:bx.set id (.cells 4 (cellsL L))=bx:=by
  refine List.ext_getElem? fun k=> ?_
  rw [List.getElem?_set]
  split
  · rename_i e
    subst e
    first
     | exact hid.symm
     | (rw [if_pos hlt];exact hid.symm)
  · rfl
 have hcmp:∀ x y,x∈L→y∈L→∀ H,CallOk E0 Tryz.prog 262 [.agg x.cells,.agg y.cells] H (.bool (decide (x.cmp y=0))) H:=fun x y hx hy=>c262 (hok x hx).1 (hok y hy).1 (by have:=(hok x hx).2;omega) (by have:=(hok y hy).2;omega)
 refine callOk_wpR (own:=fun _=>false) tOk fe261.ok ?_
 refine Wp.seq ?_
 have hblt:∀ b:Box,Nat.blt id (bx.set id b).length=true:=fun b=>by rw [List.length_set];exact Nat.ble_eq_true_of_le hlt
 have hsame:Cpost id bx L (.own id 4 0 L.length) ⟨bx,0,[],0⟩:=⟨L,[],rfl,by rw [List.append_nil,hself],Nat.le_refl _,fun h=>h,fun _ h=>h⟩
 repeat' first | refine κn ?_ | refine κb ?_ ?_ | refine κg ?_ | refine κa ?_ | intro hb
 · exact RetR.ret rfl hsame
 have h2:2≤L.length:=by simp at hb;omega
 refine Wp.while (fun m tm H=>∃ (k:Nat) (base:TM),k+m=L.length∧1≤k∧tm=ovr base [(0,.own id 4 0 L.length),(1,.fn 262 []),(5,.int .i64 (k:Int))]∧H=⟨bx,0,[],0⟩)
  (fun m tm H hI=> ?_) (L.length - 1) _ _ ⟨1,_,by omega,by omega,ovr_mk ⟨rfl,rfl,rfl,trivial⟩,rfl⟩
 obtain ⟨k,base,hi,hk1,rfl,rfl⟩:=hI
 by_cases hklt:k < L.length
 · obtain ⟨x, hx⟩ : ∃ x, L[k]? = some x := ⟨L[k], by simp⟩
   obtain ⟨y,hy⟩:∃ y,L[k - 1]? = some y:=⟨L[k - 1]'(by omega),by simp⟩
   have hnb:nth bx id=some (.cells 4 (cellsL L)):=(nth_eq _ _).trans hid
   have hwr:IntKind.i64.wrap ((k:Int) - 1)=((k - 1:Nat):Int):=by
    rw [show (k:Int) - 1=((k - 1:Nat):Int) by omega]
    exact IntWalk.i64_in _ (by omega)
   have hi1:=ia_tm (id:=id) (ix:=0) (len:=L.length) hklt
   have hi2:aIndexAddr E0 22 (.own id 4 0 L.length) (.int .i64 (IntKind.i64.wrap ((k:Int) - 1)))=some (.ptr id 4 (0+(k - 1)) 0):=by rw [hwr];exact ia_tm (by omega)
   have hl1:aLoad E0 24 (.ptr id 4 (0+k) 0) ⟨bx,0,[],0⟩=some (.agg x.cells):=by rw [Nat.zero_add];exact ld_tm hnb hx
   have hl2:aLoad E0 24 (.ptr id 4 (0+(k - 1)) 0) ⟨bx,0,[],0⟩=some (.agg y.cells):=by rw [Nat.zero_add];exact ld_tm hnb hy
   have hc:=hcmp x y (List.mem_of_getElem? hx) (List.mem_of_getElem? hy)
   generalize decide (x.cmp y=0)=B at hc
   have hsl:=sl_lo (id:=id) (Nat.le_of_lt hklt)
   have hblt0:Nat.blt id bx.length=true:=by have:=hblt (.cells 4 (cellsL L));rwa [hself] at this
   cases B with
   | false =>
     repeat' first | refine κn ?_ | refine κb ?_ ?_ | refine κg ?_ | refine κd (hc _) ?_ | refine κK ?_ | (apply dLd;rfl;rfl;rfl;assumption;exact IsV.any _;(first | rfl | (show Nat.blt _ _=true;first | assumption | (simp [Nat.blt];done)))) | refine κh ?_ | refine κa ?_ | (apply Wp.draw tOk follows;kernel_rfl) | intro hb
     · exact LoopI.go (m - 1) (by omega) ⟨k+1,_,by omega,by omega,ovr_mk ⟨rfl,rfl,int_eq (wrap_nat (n:=k+1) (by omega)),trivial⟩,rfl⟩
     · exfalso;simp at hb;omega
   | true =>
     repeat' first | refine κn ?_ | refine κS ?_ | refine κb ?_ ?_ | refine κg ?_ | refine κd (hc _) ?_ | refine κK ?_ | (apply dLd;rfl;rfl;rfl;assumption;exact IsV.any _;(first | rfl | (show Nat.blt _ _=true;first | assumption | (simp [Nat.blt];done)))) | refine κh ?_ | refine κa ?_ | (apply Wp.draw tOk follows;kernel_rfl) | intro hb
     rotate_left
     · exfalso;simp at hb;omega
     clear hc hl1 hl2 hi1 hi2 hx hy hwr
     refine Wp.while (fun m2 tm H => ∃ (kk k2 : Nat) (M : List Tm) (base : TM), k + k2 + m2 = L.length ∧ k ≤ kk ∧ kk < k + k2 ∧ M.length = L.length ∧ (∀ x, x ∈ M → x ∈ L) ∧
       tm=ovr base [(0,.own id 4 0 L.length),(1,.fn 262 []),(5,.int .i64 (kk:Int)),(6,.own id 4 (0+k) (L.length - k)),(7,.int .i64 (k2:Int))]∧H=⟨bx.set id (.cells 4 (cellsL M)),0,[],0⟩)
      (fun m2 tm H hI=> ?_) (L.length - k - 1) _ _ ⟨k,1,L,_,by omega,by omega,by omega,rfl,fun _ h=>h,ovr_mk ⟨rfl,rfl,rfl,rfl,rfl,trivial⟩,by rw [hself]⟩
     obtain ⟨kk,k2,M,base2,hi2,hk2,hk3,hM,hMm,rfl,rfl⟩:=hI
     have hnb:nth (bx.set id (.cells 4 (cellsL M))) id=some (.cells 4 (cellsL M)):=by rw [nth_eq];simp [hlt]
     by_cases hlt2:k2 < L.length - k
     · obtain ⟨x, hx⟩ : ∃ x, M[k + k2]? = some x := ⟨M[k + k2]'(by omega), by simp⟩
       obtain ⟨y,hy⟩:∃ y,M[k+(k2 - 1)]? = some y:=⟨M[k+(k2 - 1)]'(by omega),by simp⟩
       obtain ⟨u,hu⟩:∃ u,M[kk]? = some u:=⟨M[kk]'(by omega),by simp⟩
       have hwr:IntKind.i64.wrap ((k2:Int) - 1)=((k2 - 1:Nat):Int):=by
        rw [show (k2:Int) - 1=((k2 - 1:Nat):Int) by omega]
        exact IntWalk.i64_in _ (by omega)
       have hi1:=ia_tm (id:=id) (ix:=0+k) hlt2
       have hi2:aIndexAddr E0 22 (.own id 4 (0+k) (L.length - k)) (.int .i64 (IntKind.i64.wrap ((k2:Int) - 1)))=some (.ptr id 4 (0+k+(k2 - 1)) 0):=by rw [hwr];exact ia_tm (by omega)
       have hi3:=ia_tm (id:=id) (ix:=0) (len:=L.length) (j:=kk) (by omega)
       have hl1:aLoad E0 24 (.ptr id 4 (0+k+k2) 0) ⟨bx.set id (.cells 4 (cellsL M)),0,[],0⟩=some (.agg x.cells):=by rw [Nat.zero_add];exact ld_tm hnb hx
       have hl2:aLoad E0 24 (.ptr id 4 (0+k+(k2 - 1)) 0) ⟨bx.set id (.cells 4 (cellsL M)),0,[],0⟩=some (.agg y.cells):=by rw [Nat.zero_add];exact ld_tm hnb hy
       have hc:=hcmp x y (hMm x (List.mem_of_getElem? hx)) (hMm y (List.mem_of_getElem? hy))
       generalize decide (x.cmp y=0)=B at hc
       have hst:Heap.wr ⟨bx.set id (.cells 4 (cellsL M)),0,[],0⟩ (.ptr id 4 (0+kk) 0) x.cells=some ⟨bx.set id (.cells 4 (cellsL (M.set kk x))),0,[],0⟩:=by
        rw [Nat.zero_add,wr_tm hnb hu (Nat.zero_le _),List.set_set]
       have hblt2:=hblt (.cells 4 (cellsL M))
       have hset:∀ z,z∈M.set kk x→z∈L:=fun z hz=>by
        rcases List.mem_or_eq_of_mem_set hz with h | h
        · exact hMm z h
        · rw [h];exact hMm x (List.mem_of_getElem? hx)
       obtain ⟨k',nm',s',b',kids'⟩:=x
       simp only [Tm.cells] at hst hl1
       repeat' first | refine κn ?_ | refine κJ ?_ | (apply qLd;rfl;rfl;rfl;assumption;exact IsV.any _) | refine κb ?_ ?_ | refine κg ?_ | refine κd (hc _) ?_ | refine κK ?_ | (apply dLd;rfl;rfl;rfl;assumption;exact IsV.any _;(first | rfl | (show Nat.blt _ _=true;first | assumption | (simp [Nat.blt];done)))) | (apply dB (ty:=4);rfl;rfl;rfl;rfl) | refine κh ?_ | refine κa ?_ | (apply Wp.draw tOk follows;kernel_rfl) | intro hb
       · exact LoopI.go (m2 - 1) (by omega) ⟨kk+1,k2+1,_,_,by omega,by omega,by omega,by rw [List.length_set];exact hM,hset,ovr_mk ⟨rfl,rfl,int_eq (wrap_nat (n:=kk+1) (by omega)),rfl,int_eq (wrap_nat (n:=k2+1) (by omega)),trivial⟩,rfl⟩
       · exact LoopI.go (m2 - 1) (by omega) ⟨kk,k2+1,M,_,by omega,by omega,by omega,hM,hMm,ovr_mk ⟨rfl,rfl,rfl,rfl,int_eq (wrap_nat (n:=k2+1) (by omega)),trivial⟩,rfl⟩
       · exfalso;simp at hb;omega
     · have e2 : k2 = L.length - k := by omega
       subst e2
       have hsl2:=sl_lo (id:=id) (k:=kk) (n:=L.length) (by omega)
       have hsl3:=sl_hi (id:=id) (k:=kk) (n:=L.length) (by omega)
       have hclr:∃ D,aClear E0 22 (.own id 4 (0+kk) (L.length - kk)) ⟨bx.set id (.cells 4 (cellsL M)),0,[],0⟩=some (.tup [],⟨bx.set id (.cells 4 (cellsL (M.take kk) ++ D)),0,[],0⟩):=by
        have h:=clear_of (E:=E0) (t:=22) (e:=24) (es:=4) (el:=cellsL M) (ix:=0+kk) (len:=L.length - kk) (H:=⟨bx.set id (.cells 4 (cellsL M)),0,[],0⟩) rfl rfl rfl rfl rfl (by decide) rfl hnb (Nat.zero_le _) (by rw [cellsL_length];omega)
        rw [List.set_set,Nat.zero_add,take_cells] at h
        rw [Nat.zero_add]
        exact ⟨_,h⟩
       obtain ⟨D,hclr⟩:=hclr
       have hlt3:(M.take kk).length=kk:=by rw [List.length_take];omega
       repeat' first | refine κn ?_ | refine κS ?_ | (apply qClr;rfl;rfl;assumption) | refine κb ?_ ?_ | refine κg ?_ | refine κh ?_ | refine κa ?_ | (apply Wp.draw tOk follows;kernel_rfl) | intro hb
       · exfalso;simp at hb
       · refine RetR.ret rfl ⟨M.take kk, D, by rw [hlt3]; rfl, rfl, by omega, fun _ h => ?_, fun x hx => hMm x (List.mem_of_mem_take hx)⟩
         rw [h] at hlt3
         simp at hlt3
         omega
 · have e : k = L.length := by omega
   subst e
   repeat' first | refine κn ?_ | refine κb ?_ ?_ | refine κg ?_ | refine κh ?_ | refine κa ?_ | (apply Wp.draw tOk follows;kernel_rfl) | intro hb
   · exfalso;simp at hb
   · exact RetR.ret rfl hsame
end Go.Vm.Seat
namespace Go.Proofs
open Go.Shelf
def Tryz.sortTm_ren:Go.Shelf.Ren:=⟨fun | 6=>260 | 15=>292 | 14=>291 | 28=>320 | 29=>302 | 20=>312 | 21=>313 | 22=>314 | 23=>315 | 24=>316 | 25=>317 | 26=>318 | 27=>319 | 46=>327 | 47=>328 | 48=>329 | 49=>330 | 50=>331 | 57=>332 | n=>n,fun | 22=>22 | 24=>24 | 25=>80 | 3=>3 | 39=>228 | 0=>0 | 53=>257 | 55=>241 | 4=>4 | 46=>274 | 45=>273 | 50=>200 | 5=>5 | 9=>9 | 66=>289 | 70=>132 | 76=>296 | 77=>297 | n=>n,fun | n=>n⟩
theorem Tryz.sortTm:Go.Proofs.SlLaysF0.n6 Tryz.prog Tryz.sortTm_ren:={
 mixed:=by kernel_rfl
 f6:=⟨Tryz.f260.name,by decide,Tryz.func260.trans (congrArg some (by kernel_rfl))⟩
 f14:=⟨Tryz.f291.name,by decide,Tryz.func291.trans (congrArg some (by kernel_rfl))⟩
 f15:=Tryz.func292.trans (congrArg some (by kernel_rfl))
 f20:=⟨Tryz.f312.name,by decide,Tryz.func312.trans (congrArg some (by kernel_rfl))⟩
 f21:=⟨Tryz.f313.name,by decide,Tryz.func313.trans (congrArg some (by kernel_rfl))⟩
 f22:=⟨Tryz.f314.name,by decide,Tryz.func314.trans (congrArg some (by kernel_rfl))⟩
 f23:=⟨Tryz.f315.name,by decide,Tryz.func315.trans (congrArg some (by kernel_rfl))⟩
 f24:=⟨Tryz.f316.name,by decide,Tryz.func316.trans (congrArg some (by kernel_rfl))⟩
 f25:=⟨Tryz.f317.name,by decide,Tryz.func317.trans (congrArg some (by kernel_rfl))⟩
 f26:=⟨Tryz.f318.name,by decide,Tryz.func318.trans (congrArg some (by kernel_rfl))⟩
 f27:=⟨Tryz.f319.name,by decide,Tryz.func319.trans (congrArg some (by kernel_rfl))⟩
 f28:=Tryz.func320.trans (congrArg some (by kernel_rfl))
 f29:=Tryz.func302.trans (congrArg some (by kernel_rfl))
 f46:=⟨Tryz.f327.name,by decide,Tryz.func327.trans (congrArg some (by kernel_rfl))⟩
 f47:=Tryz.func328.trans (congrArg some (by kernel_rfl))
 f48:=Tryz.func329.trans (congrArg some (by kernel_rfl))
 f49:=⟨Tryz.f330.name,by decide,Tryz.func330.trans (congrArg some (by kernel_rfl))⟩
 f50:=⟨Tryz.f331.name,by decide,Tryz.func331.trans (congrArg some (by kernel_rfl))⟩
 f57:=⟨Tryz.f332.name,by decide,Tryz.func332.trans (congrArg some (by kernel_rfl))⟩
 t0:=Tryz.underlying0
 a0:=Tryz.isAgg0
 z0:=Tryz.sizeOf0
 v0:=Tryz.zeroValue0
 t3:=Tryz.underlying3
 a3:=Tryz.isAgg3
 z3:=Tryz.sizeOf3
 v3:=Tryz.zeroValue3
 t4:=Tryz.underlying4
 a4:=Tryz.isAgg4
 z4:=Tryz.sizeOf4
 v4:=Tryz.zeroValue4
 t5:=Tryz.underlying5
 a5:=Tryz.isAgg5
 z5:=Tryz.sizeOf5
 v5:=Tryz.zeroValue5
 t9:=Tryz.underlying9
 a9:=Tryz.isAgg9
 z9:=Tryz.sizeOf9
 v9:=Tryz.zeroValue9
 t22:=Tryz.underlying22
 a22:=Tryz.isAgg22
 z22:=Tryz.sizeOf22
 v22:=Tryz.zeroValue22
 t25:=Tryz.underlying80
 a25:=Tryz.isAgg80
 z25:=Tryz.sizeOf80
 v25:=Tryz.zeroValue80
 t39:=Tryz.underlying228
 a39:=Tryz.isAgg228
 z39:=Tryz.sizeOf228
 v39:=Tryz.zeroValue228
 t45:=Tryz.underlying273
 a45:=Tryz.isAgg273
 z45:=Tryz.sizeOf273
 v45:=Tryz.zeroValue273
 t46:=Tryz.underlying274
 a46:=Tryz.isAgg274
 z46:=Tryz.sizeOf274
 v46:=Tryz.zeroValue274
 t50:=Tryz.underlying200
 a50:=Tryz.isAgg200
 z50:=Tryz.sizeOf200
 v50:=Tryz.zeroValue200
 t53:=Tryz.underlying257
 a53:=Tryz.isAgg257
 z53:=Tryz.sizeOf257
 v53:=Tryz.zeroValue257
 t55:=Tryz.underlying241
 a55:=Tryz.isAgg241
 z55:=Tryz.sizeOf241
 v55:=Tryz.zeroValue241
 t66:=Tryz.underlying289
 a66:=Tryz.isAgg289
 z66:=Tryz.sizeOf289
 v66:=Tryz.zeroValue289
 t70:=Tryz.underlying132
 a70:=Tryz.isAgg132
 z70:=Tryz.sizeOf132
 v70:=Tryz.zeroValue132
 t76:=Tryz.underlying296
 a76:=Tryz.isAgg296
 z76:=Tryz.sizeOf296
 v76:=Tryz.zeroValue296
 t77:=Tryz.underlying297
 a77:=Tryz.isAgg297
 z77:=Tryz.sizeOf297
 v77:=Tryz.zeroValue297}
end Go.Proofs
