/-
  The variables of a term: the program's text. The variables of a term: walking over it.
-/
import Derived.Test.YtjokjgoppbmaiaaGreatDoorRv
import Derived.Test.YtjokjgoppbmaiaaGreatDoorFh
import Derived.Test.YtjokjgoppbmaiaaGreatDoorFg
set_option maxHeartbeats 64000000
set_option maxRecDepth 100000
namespace Go.Vm.Seat
open Go.Proofs
theorem cellsL_mk1 (t:Tm):cellsL [t]= [t.cells]:=by obtain ⟨k,nm,s,b,kids⟩:=t;rfl
theorem apV_cells {b:Bool} {es:Nat} {L:List (List PV)} {out:PV} {lv:List Nat} {nt:Nat} (h:ApV b es L out lv nt) (k:Int) (nm:List UInt8) (s:Int):[PV.int .i64 k,.str nm,.int .i64 s,out].all cellOk=true:=by cases h <;> rfl
theorem apV_tok {es:Nat} {L:List (List PV)} {out:PV} {lv:List Nat} {nt:Nat} (h:ApV true es L out lv nt) (hL:L≠ []):∃ k,out= .sl (.tok k) es L:=by
 cases h with
 | nil=>exact absurd rfl hL
 | full _ _ _ h=>cases h
 | tok L k=>exact ⟨k,rfl⟩
theorem frz3_tm (m:Nat) (H:Heap) (k:Int) (nm:List UInt8) (s:Int) (b:Bool) (l:List (List PV)):frz3 m H (.agg [.int .i64 k,.str nm,.int .i64 s,slV b 4 l])=some (.agg [.int .i64 k,.str nm,.int .i64 s,slV b 4 l]):=by
 rw [frz3_agg]
 simp only [frzCL,frzC_slV]
 rfl
theorem apV_tm {b:Bool} {L:List (List PV)} {out:PV} {lv:List Nat} {nt:Nat} (h:ApV b 4 L out lv nt) (m:Nat) (H:Heap) (k:Int) (nm:List UInt8) (s:Int):frz3 m H (.agg [.int .i64 k,.str nm,.int .i64 s,out])=some (.agg [.int .i64 k,.str nm,.int .i64 s,slV b 4 L]):=by
 rw [frz3_agg]
 simp only [frzCL,h.frzC]
 rfl
theorem c198 {t:Tm} (ht:t.Ok):t.size≤100000→∀ H,CallOk E0 Tryz.prog 198 [.agg t.cells] H (.agg t.cl.cells) H:=by
 induction ht with
 | @mk k nm s b kids hk hs hn hl hok ih=>
 intro hsz
 simp only [Tm.size] at hsz
 have hkl:kids.length≤sizeL kids:=by
  rw [← allL_len]
  have:∀ l:List Tm,l.length≤(allL l).length:=by
   intro l
   induction l with
   | nil=>simp
   | cons a r ih =>
     have:=a.all_len
     have:=size_pos a
     simp only [allL,List.length_append,List.length_cons]
     omega
  exact this kids
 simp only [Tm.cl,Tm.cells]
 refine κw tOk fe198.ok (frz3_tm _ _ _ _ _ _ _) ?_
 repeat' first | refine κn ?_ | refine κl ?_ | refine κg ?_ | refine κa ?_ | fail
 refine Wp.while (fun m tm H => ∃ (i : Nat) (base : TM) (out : PV) (lv : List Nat) (nt : Nat), i + m = kids.length ∧ ApV true 4 (cellsL (clL (kids.take i))) out lv nt ∧
   tm=ovr base [(1,.ptr 0 4 0 0),(2,.ptr 1 4 0 0),(9,slV b 4 (cellsL kids)),(10,.int .i64 (kids.length:Int)),(11,.int .i64 (i:Int))]∧H=⟨[.cells 4 [[.int .i64 k,.str nm,.int .i64 s,out]],.cells 4 [[.int .i64 0,.str [],.int .i64 0,.nils]]],0,lv,nt⟩)
  (fun m tm H hI=>Wp.drop ?_) kids.length _ _ ⟨0,_,_,_,_,by omega,.nil _ _ rfl,ovr_mk ⟨rfl,rfl,rfl,int_eq (by rw [cellsL_length]),rfl,trivial⟩,rfl⟩
 obtain ⟨i,base,out,lv,nt,hi,hA,rfl,rfl⟩:=hI
 by_cases hlt:i < kids.length
 · obtain ⟨t', ht'⟩ : ∃ t', kids[i]? = some t' := ⟨kids[i], by simp⟩
   have hm:t'∈kids:=List.mem_of_getElem? ht'
   have hle:=size_le hm
   have hs:=clL_snoc ht'
   have hc:=ih t' hm (by omega)
   have hlen1:(clL (kids.take i)).length≤kids.length:=by
    rw [cl_len,List.length_take];omega
   obtain ⟨out',lv',nt',hap,hA', -⟩:=hA.app apT_tm (.sl .full 4 (cellsL [t'.cl])) (cellsL_cellOk _) (fits_of (by simp only [cellsL_length,List.length_cons,List.length_nil];omega) (by decide)) (noB_cellsL _)
   rw [← cellsL_append, ← hs] at hA'
   obtain ⟨kc,nc,sc,bc,lc,ec⟩:∃ kc nc sc bc lc,t'.cl= .mk kc nc sc bc lc:=by
    obtain ⟨k',nm',s',b',kids'⟩:=t'
    exact ⟨_,_,_,_,_,rfl⟩
   rw [ec] at hc hap
   rw [cells_one] at hap
   obtain ⟨kt,rfl⟩:=apV_tok hA' (by rw [hs,cellsL_append,cellsL_mk1];simp)
   obtain ⟨k',nm',s',b',kids'⟩:=t'
   have hj:=cellsL_get ht'
   repeat' first | refine κn ?_ | refine κx ?_ | refine κz ?_ ?_ | refine κg ?_ | refine κd (hc _) ?_ | refine κB ?_ | (apply dAp;rfl;rfl;rfl;rfl;rfl;(first | assumption | solve_by_elim);rfl) | refine κh ?_ | refine κa ?_ | (apply Wp.drawS tOk follows;kernel_rfl;rfl) | intro hb
   · exact DropQ.go [(1, .ptr 0 4 0 0), (2, .ptr 1 4 0 0), (9, slV b 4 (cellsL kids)), (10, .int .i64 (kids.length : Int)), (11, .int .i64 ((i + 1 : Nat) : Int))] ⟨rfl, rfl, rfl, rfl, int_eq (wrap_nat (n := i + 1) (by omega)), trivial⟩
       (by simp [under_slV,under]) rfl (by simp [boxU,underL,under]) (LoopI.go (m - 1) (by omega) ⟨i+1,_,_,lv',nt',by omega,hA',rfl,rfl⟩)
   · exfalso;simp at hb;omega
 · have e : i = kids.length := by omega
   subst e
   rw [List.take_length] at hA
   have hco:=apV_cells hA k nm s
   repeat' first | refine κn ?_ | refine κz ?_ ?_ | refine κg ?_ | refine κa ?_ | refine κf ?_ | intro hb
   · exfalso;simp at hb
   · exact apV_tm hA _ _ _ _ _
end Go.Vm.Seat
namespace Go.Vm.Seat
open Go.Proofs
inductive Gth (rest:List Box):PV→List Tm→Prop
 | nil:Gth rest .nils []
 | own (o:Nat) (L:List Tm) (hb:rest[o]? = some (.cells 4 (cellsL L))) (hL:L≠ []):Gth rest (.own (o+3) 4 0 L.length) L
structure Fra (rest:List Box) (v:PV) (rest':List Box) (v':PV):Prop where
 len:rest.length≤rest'.length
 bx:∀ i b,rest[i]? = some b→(∀ n,v≠ .own (i+3) 4 0 n)→rest'[i]? = some b∧∀ n,v'≠ .own (i+3) 4 0 n
theorem Fra.rfl (rest:List Box) (v:PV):Fra rest v rest v:=⟨Nat.le_refl _,fun _ _ h hv=>⟨h,hv⟩⟩
theorem Fra.trans {r v r' v' r2 v2} (h:Fra r v r' v') (h2:Fra r' v' r2 v2):Fra r v r2 v2:=
 ⟨Nat.le_trans h.len h2.len,fun i b hb hv=>let ⟨a,c⟩:=h.bx i b hb hv;h2.bx i b a c⟩
theorem nthL_last (A K S:Box) (rest:List Box) (b:Box):nth (A :: K :: S :: (rest ++ [b])) (rest.length+3)=some b:=by
 rw [nth_eq];simp
theorem nthL_rest (A K S:Box) (rest:List Box) (i:Nat):nth (A :: K :: S :: rest) (i+3)=rest[i]? :=by
 rw [nth_eq];simp
theorem frzLL_cellsL (l:List Tm):frzLL (cellsL l)=some (cellsL l):=by
 induction l with
 | nil=>rfl
 | cons a r ih =>
   obtain ⟨k,nm,s,b,kids⟩:=a
   show frzLL ([.int .i64 k,.str nm,.int .i64 s,slV b 4 (cellsL kids)] :: cellsL r)=_
   simp only [frzLL,frz_tm,ih]
   rfl
def Wh (kk:Int) (A:Box) (v:PV) (rest:List Box):Heap:=⟨A :: .cells 1 [[.int .i64 kk]] :: .cells 1 [[v]] :: rest,0,[],0⟩
def Wpost (kk:Int) (A:Box) (L:List Tm) (rest:List Box) (v:PV) (H:Heap):Prop:=∃ v' rest',H=Wh kk A v' rest'∧Gth rest' v' L∧Fra rest v rest' v'
abbrev Zc:List PV:=[.int .i64 0,.str [],.int .i64 0,.nils]
theorem app_nil (A K S X:Box) (rest:List Box):aAppendOwn E0 22 22 .nils (.sl .full 4 [Zc]) ⟨A :: K :: S :: (rest ++ [X]),0,[],0⟩=some (.own (rest.length+4) 4 0 1,⟨A :: K :: S :: ((rest ++ [X]) ++ [Box.cells 4 ([] ++ [Zc])]),0,[],0⟩):=by
 have he:=apElems_of (s:= .nils) apT_tm (ElV.sl .full 4 [Zc]) rfl rfl rfl ⟨A :: K :: S :: (rest ++ [X]),0,[],0⟩
 simp only [aAppendOwn,he,slFull]
 rw [if_pos (fits_of (by simp) (by decide))]
 simp [Heap.push]
theorem app_own (A K S X : Box) {rest : List Box} {o : Nat} {L : List Tm} (hb : rest[o]? = some (.cells 4 (cellsL L))) (hL : L ≠ []) (hlen : L.length ≤ 100000) :
  aAppendOwn E0 22 22 (.own (o+3) 4 0 L.length) (.sl .full 4 [Zc]) ⟨A :: K :: S :: (rest ++ [X]),0,[],0⟩=some (.own (rest.length+4) 4 0 (L.length+1),⟨A :: K :: S :: ((rest ++ [X]).set o .dead ++ [Box.cells 4 (cellsL L ++ [Zc])]),0,[],0⟩):=by
 have ho:o < rest.length:=get_lt hb
 have hn:nth (A :: K :: S :: (rest ++ [X])) (o+3)=some (.cells 4 (cellsL L)):=by
  rw [nthL_rest,List.getElem?_append_left ho];exact hb
 have hs:slElems ⟨A :: K :: S :: (rest ++ [X]),0,[],0⟩ (.own (o+3) 4 0 L.length)=some (cellsL L):=by
  simp only [slElems,hn]
  rw [if_pos ⟨trivial,by rw [cellsL_length];omega⟩,List.drop_zero, ← cellsL_length L,List.take_length]
  exact frzLL_cellsL L
 have hpos:0 < L.length:=List.length_pos_iff.2 hL
 have he:=apElems_of (s:= .own (o+3) 4 0 L.length) apT_tm (ElV.sl .full 4 [Zc]) rfl rfl rfl ⟨A :: K :: S :: (rest ++ [X]),0,[],0⟩
 simp only [aAppendOwn,he,slFull,aBoxApp,hs]
 rw [if_pos ⟨trivial,Nat.zero_le _,cellsL_length L,fits_of (by rw [cellsL_length];simp;omega) (by decide)⟩]
 simp [cellsL_length]
theorem cl_ok {x : Tm} (kk : Int) (A : Box) {rest : List Box} {v : PV} {L : List Tm} (hG : Gth rest v L) (hlen : L.length ≤ 100000) :
  ∃ H',CallOk E0 Tryz.prog 229 [.agg x.cells,.ptr 1 1 0 0,.ptr 2 1 0 0] (Wh kk A v rest) (.tup []) H'∧Wpost kk A (L ++ if x.knd=kk then [x] else []) rest v H':=by
 obtain ⟨k,nm,s,b,kids⟩:=x
 unfold Wh
 refine callOk_wpP (own:=fun d=>Nat.beq d 12 || Nat.beq d 30006) tOk fe229.ok ?_
 refine Wp.seq ?_
 have hl5:aLoad E0 3 (.ptr (rest.length+3) 4 0 0) ⟨A :: .cells 1 [[.int .i64 kk]] :: .cells 1 [[v]] :: (rest ++ [Box.cells 4 [[.int .i64 k,.str nm,.int .i64 s,slV b 4 (cellsL kids)]]]),0,[],0⟩=some (.int .i64 k):=
  ld_one (ti:=⟨.int .i64,1,8,.int .i64 0⟩) rfl rfl (nthL_last _ _ _ _ _) rfl rfl
 have hl9:aLoad E0 24 (.ptr (rest.length+3) 4 0 0) ⟨A :: .cells 1 [[.int .i64 kk]] :: .cells 1 [[v]] :: (rest ++ [Box.cells 4 [[.int .i64 k,.str nm,.int .i64 s,slV b 4 (cellsL kids)]]]),0,[],0⟩=some (.agg [.int .i64 k,.str nm,.int .i64 s,slV b 4 (cellsL kids)]):=
  ld_agg rfl rfl (nthL_last _ _ _ _ _) rfl rfl
 cases hG with
 | nil =>
   repeat' first | refine κn ?_ | (apply qLd;rfl;rfl;rfl;assumption;exact IsV.any _) | refine κb ?_ ?_ | refine κg ?_ | refine κh ?_ | refine κa ?_ | (apply Wp.drawS tOk follows;kernel_rfl;rfl) | intro hb
   · apply dLd
     · rfl
     · rfl
     · rfl
     · exact hl9
     · exact IsV.any _
     · show Nat.blt _ _ = true
       simp [Nat.blt]
     repeat' first | refine κB ?_ | refine κh ?_ | fail
     have hap:=app_nil A (.cells 1 [[.int .i64 kk]]) (.cells 1 [[.nils]]) (.cells 4 [[.int .i64 k,.str nm,.int .i64 s,slV b 4 (cellsL kids)]]) rest
     have hia:aIndexAddr E0 22 (.own (rest.length+4) 4 0 1) (.int .i64 0)=some (.ptr (rest.length+4) 4 0 0):=ia_own (j:=0) rfl rfl rfl rfl (by omega)
     have hwr : Heap.wr ⟨A :: .cells 1 [[.int .i64 kk]] :: .cells 1 [[.nils]] :: ((rest ++ [Box.cells 4 [[.int .i64 k, .str nm, .int .i64 s, slV b 4 (cellsL kids)]]]) ++ [Box.cells 4 ([] ++ [Zc])]), 0, [], 0⟩ (.ptr (rest.length + 4) 4 0 0) [.int .i64 k, .str nm, .int .i64 s, slV b 4 (cellsL kids)] =
       some ⟨A :: .cells 1 [[.int .i64 kk]] :: .cells 1 [[.nils]] :: ((rest ++ [Box.cells 4 [[.int .i64 k,.str nm,.int .i64 s,slV b 4 (cellsL kids)]]]) ++ [Box.cells 4 (cellsL [Tm.mk k nm s b kids])]),0,[],0⟩:=by
      rw [wr_of (es:=4) (el:=[Zc]) (old:=Zc) (by rw [nth_eq];simp) rfl (by simp) (Nat.zero_le _)]
      simp [cells_one]
     apply dApO
     · rfl
     · rfl
     · rfl
     · rfl
     · rfl
     · rfl
     · exact hap
     · simp
     apply dIa
     · rfl
     · rfl
     · rfl
     · rfl
     · exact hia
     · exact IsV.any _
     apply dSt
     · rfl
     · rfl
     · rfl
     · rfl
     · exact IsL.n
     · rfl
     · simp only [List.all_cons,List.all_nil,cellOk_slV,Bool.and_true];rfl
     · exact hwr
     · exact IsH.mkN
     · simp [nth_eq]
     · show true = Nat.ble _ _
       symm
       exact Nat.ble_eq_true_of_le (by simp)
     · rfl
     apply dSt
     · rfl
     · rfl
     · rfl
     · rfl
     · exact IsL.n
     · rfl
     · rfl
     · rfl
     · exact IsH.mkN
     · rfl
     · show false = Nat.ble _ _
       symm
       rw [Bool.eq_false_iff]
       intro h
       have:=Nat.le_of_ble_eq_true h
       simp at this
     · rfl
     apply DrwQ.nil
     have hkk:k=kk:=by simpa using hb
     refine RetP.go rfl rfl ⟨_,(rest ++ [Box.cells 4 [[.int .i64 k,.str nm,.int .i64 s,slV b 4 (cellsL kids)]]]) ++ [Box.cells 4 (cellsL [Tm.mk k nm s b kids])],rfl,?_,?_⟩
     · rw [if_pos (show (Tm.mk k nm s b kids).knd = kk from hkk), List.nil_append]
       exact Gth.own (rest.length+1) [Tm.mk k nm s b kids] (by simp) (by simp)
     · refine ⟨by simp, fun i bx hbx _ => ?_⟩
       have hi:=get_lt hbx
       refine ⟨by rw [List.append_assoc,List.getElem?_append_left hi];exact hbx,fun n hn=> ?_⟩
       have:rest.length+4=i+3:=(PV.own.inj hn).1
       omega
   · have hkk : ¬ k = kk := by simpa using hb
     refine RetP.go rfl rfl ⟨_,rest ++ [Box.cells 4 [[.int .i64 k,.str nm,.int .i64 s,slV b 4 (cellsL kids)]]],rfl,?_,?_⟩
     · rw [if_neg (show ¬ (Tm.mk k nm s b kids).knd = kk from hkk), List.append_nil]
       exact .nil
     · refine ⟨by simp,fun i bx hbx _=>⟨by rw [List.getElem?_append_left (get_lt hbx)];exact hbx,fun n hn=>by cases hn⟩⟩
 | own o L hob hL =>
   have ho:o < rest.length:=get_lt hob
   repeat' first | refine κn ?_ | (apply qLd;rfl;rfl;rfl;assumption;exact IsV.any _) | refine κb ?_ ?_ | refine κg ?_ | refine κh ?_ | refine κa ?_ | (apply Wp.drawS tOk follows;kernel_rfl;rfl) | intro hb
   · apply dLd
     · rfl
     · rfl
     · rfl
     · exact hl9
     · exact IsV.any _
     · show Nat.blt _ _ = true
       simp [Nat.blt]
     repeat' first | refine κB ?_ | refine κh ?_ | fail
     have hap:=app_own A (.cells 1 [[.int .i64 kk]]) (.cells 1 [[.own (o+3) 4 0 L.length]]) (.cells 4 [[.int .i64 k,.str nm,.int .i64 s,slV b 4 (cellsL kids)]]) hob hL hlen
     have hia:aIndexAddr E0 22 (.own (rest.length+4) 4 0 (L.length+1)) (.int .i64 (L.length:Int))=some (.ptr (rest.length+4) 4 (0+L.length) 0):=ia_own rfl rfl rfl rfl (by omega)
     have hwr : Heap.wr ⟨A :: .cells 1 [[.int .i64 kk]] :: .cells 1 [[.own (o + 3) 4 0 L.length]] :: ((rest ++ [Box.cells 4 [[.int .i64 k, .str nm, .int .i64 s, slV b 4 (cellsL kids)]]]).set o .dead ++ [Box.cells 4 (cellsL L ++ [Zc])]), 0, [], 0⟩ (.ptr (rest.length + 4) 4 (0 + L.length) 0) [.int .i64 k, .str nm, .int .i64 s, slV b 4 (cellsL kids)] =
       some ⟨A :: .cells 1 [[.int .i64 kk]] :: .cells 1 [[.own (o+3) 4 0 L.length]] :: ((rest ++ [Box.cells 4 [[.int .i64 k,.str nm,.int .i64 s,slV b 4 (cellsL kids)]]]).set o .dead ++ [Box.cells 4 (cellsL (L ++ [Tm.mk k nm s b kids]))]),0,[],0⟩:=by
      rw [wr_of (es:=4) (el:=cellsL L ++ [Zc]) (old:=Zc) (by rw [nth_eq];simp) (by rw [nth_eq,Nat.zero_add,List.getElem?_append_right (by rw [cellsL_length];omega)];simp [cellsL_length]) (by simp) (Nat.zero_le _)]
      have e2:(cellsL L ++ [Zc]).set (0+L.length) (List.take 0 Zc ++ ([.int .i64 k,.str nm,.int .i64 s,slV b 4 (cellsL kids)] ++ List.drop (0+ [PV.int .i64 k,.str nm,.int .i64 s,slV b 4 (cellsL kids)].length) Zc))=cellsL (L ++ [Tm.mk k nm s b kids]):=by
       rw [cellsL_append,cells_one,Nat.zero_add,List.set_append_right _ _ (by rw [cellsL_length];omega)]
       simp [cellsL_length]
      rw [e2]
      simp
     apply dApO
     · rfl
     · rfl
     · rfl
     · rfl
     · rfl
     · rfl
     · exact hap
     · simp
     apply dIa
     · rfl
     · rfl
     · rfl
     · rfl
     · exact hia
     · exact IsV.any _
     apply dSt
     · rfl
     · rfl
     · rfl
     · rfl
     · exact IsL.n
     · rfl
     · simp only [List.all_cons,List.all_nil,cellOk_slV,Bool.and_true];rfl
     · exact hwr
     · exact IsH.mkN
     · simp [nth_eq]
     · show true = Nat.ble _ _
       symm
       exact Nat.ble_eq_true_of_le (by simp)
     · rfl
     apply dSt
     · rfl
     · rfl
     · rfl
     · rfl
     · exact IsL.n
     · rfl
     · rfl
     · rfl
     · exact IsH.mkN
     · rfl
     · show false = Nat.ble _ _
       symm
       rw [Bool.eq_false_iff]
       intro h
       have:=Nat.le_of_ble_eq_true h
       simp at this
     · rfl
     apply DrwQ.nil
     have hkk:k=kk:=by simpa using hb
     refine RetP.go rfl rfl ⟨_,(rest ++ [Box.cells 4 [[.int .i64 k,.str nm,.int .i64 s,slV b 4 (cellsL kids)]]]).set o .dead ++ [Box.cells 4 (cellsL (L ++ [Tm.mk k nm s b kids]))],rfl,?_,?_⟩
     · rw [if_pos (show (Tm.mk k nm s b kids).knd = kk from hkk)]
       have:=Gth.own (rest:=(rest ++ [Box.cells 4 [[.int .i64 k,.str nm,.int .i64 s,slV b 4 (cellsL kids)]]]).set o .dead ++ [Box.cells 4 (cellsL (L ++ [Tm.mk k nm s b kids]))]) (rest.length+1) (L ++ [Tm.mk k nm s b kids]) (by simp) (by simp)
       rw [List.length_append] at this
       exact this
     · refine ⟨by simp; omega, fun i bx hbx hv => ?_⟩
       have hi:=get_lt hbx
       have hio:i≠o:=fun e=>hv L.length (by rw [e])
       refine ⟨?_,fun n hn=> ?_⟩
       · rw [List.getElem?_append_left (by simp; omega), List.getElem?_set_ne (Ne.symm hio), List.getElem?_append_left hi]
         exact hbx
       · have : rest.length + 4 = i + 3 := (PV.own.inj hn).1
         omega
   · have hkk : ¬ k = kk := by simpa using hb
     refine RetP.go rfl rfl ⟨_,rest ++ [Box.cells 4 [[.int .i64 k,.str nm,.int .i64 s,slV b 4 (cellsL kids)]]],rfl,?_,?_⟩
     · rw [if_neg (show ¬ (Tm.mk k nm s b kids).knd = kk from hkk), List.append_nil]
       exact .own o L (by rw [List.getElem?_append_left ho];exact hob) hL
     · refine ⟨by simp,fun i bx hbx hv=>⟨by rw [List.getElem?_append_left (get_lt hbx)];exact hbx,hv⟩⟩
end Go.Vm.Seat
