/-
  The key of a name in a log: keyservice.Current, and the reference's. The ledger of the program: copies, heads, the reading of proofs.
-/
import Derived.Test.YtjokjgoppbmaiaaGreatDoorDf
import Derived.Test.YtjokjgoppbmaiaaGreatDoorFi
set_option maxHeartbeats 64000000
set_option maxRecDepth 100000
namespace Go.Vm.Seat
open Go.Proofs
theorem c123 {t:Tm} (ht:t.Ok) (hs:t.size≤100000):∀ H,CallOk E0 Tryz.prog 123 [.agg t.cells,.nils] H (.tup [.agg t.cl.cells,.int .i64 0]) H:=by
 have hc:=c198 ht hs
 have hfr:=frz3_te 0 hNil t.cl 0
 generalize t.cl=u at hc hfr ⊢
 obtain ⟨k,nm,s,b,kids⟩:=t
 obtain ⟨k',nm',s',b',kids'⟩:=u
 simp only [Tm.cells] at hc hfr ⊢
 refine κw tOk fe123.ok hfr ?_
 repeat' first | refine κn ?_ | refine κg ?_ | refine κa ?_ | fail
 refine Wp.while (fun m tm H=>∃ base:TM,tm=ovr base [(2,.ptr 0 4 0 0),(4,.ptr 1 4 0 0),(9,.int .i64 0),(10,.int .i64 0)]∧H=⟨[.cells 4 [[.int .i64 k,.str nm,.int .i64 s,slV b 4 (cellsL kids)]],.cells 4 [[.int .i64 0,.str [],.int .i64 0,.nils]]],0,[],0⟩)
  (fun m tm H hI=> ?_) 0 _ _ ⟨_,ovr_mk ⟨rfl,rfl,rfl,rfl,trivial⟩,rfl⟩
 obtain ⟨base,rfl,rfl⟩:=hI
 repeat' first | refine κn ?_ | refine κc (hc _) ?_ | (apply qF (ty:=0);rfl;rfl;rfl) | refine κg ?_ | refine κa ?_ | refine κf ?_ | fail
 all_goals exact frz3_te _ _ (.mk k' nm' s' b' kids') 0
theorem c60 {t:Tm} (ht:t.Ok) (hs:t.size≤100000):∀ H,CallOk E0 Tryz.prog 60 [.agg t.cells] H (.agg t.cl.cells) H:=by
 have hc:=c123 ht hs
 generalize t.cl=u at hc ⊢
 obtain ⟨k,nm,s,b,kids⟩:=t
 obtain ⟨k',nm',s',b',kids'⟩:=u
 simp only [Tm.cells] at hc ⊢
 refine κw tOk fe60.ok (frz3_tm _ _ _ _ _ _ _) ?_
 repeat' first | refine κn ?_ | refine κc (hc _) ?_ | refine κg ?_ | refine κa ?_ | refine κf ?_ | fail
 all_goals exact frz3_tm _ _ _ _ _ _ _
end Go.Vm.Seat
namespace Go.Vm.Seat
open Go.Proofs
theorem c128 {t:Tm} (ht:t.Ok):t.size≤100000→∀ H,CallOk E0 Tryz.prog 128 [.agg t.cells] H (.agg t.cl.cells) H:=by
 induction ht with
 | @mk k nm s b kids hk hs hn hl hok ih=>
 intro hsz
 simp only [Tm.size] at hsz
 have hkl:kids.length≤sizeL kids:=by
  rw [← allL_len]
  have:∀ l:List Tm,l.length≤(allL l).length:=by
   intro l
   induction l with
   | nil=>simp
   | cons a r ih =>
     have:=a.all_len
     have:=size_pos a
     simp only [allL,List.length_append,List.length_cons]
     omega
  exact this kids
 simp only [Tm.cl,Tm.cells]
 refine κw tOk fe128.ok (frz3_tm _ _ _ _ _ _ _) ?_
 repeat' first | refine κn ?_ | refine κl ?_ | refine κg ?_ | refine κa ?_ | fail
 refine Wp.while (fun m tm H => ∃ (i : Nat) (base : TM) (out : PV) (lv : List Nat) (nt : Nat), i + m = kids.length ∧ ApV true 4 (cellsL (clL (kids.take i))) out lv nt ∧
   tm=ovr base [(2,.ptr 1 4 0 0),(3,.ptr 2 4 0 0),(9,slV b 4 (cellsL kids)),(10,.int .i64 (kids.length:Int)),(11,.int .i64 (i:Int))]∧H=⟨[.cells 4 [[.int .i64 k,.str nm,.int .i64 s,slV b 4 (cellsL kids)]],.cells 4 [[.int .i64 0,.str [],.int .i64 0,.nils]],.cells 4 [[.int .i64 k,.str nm,.int .i64 s,out]]],0,lv,nt⟩)
  (fun m tm H hI=>Wp.drop ?_) kids.length _ _ ⟨0,_,_,_,_,by omega,.nil _ _ rfl,ovr_mk ⟨rfl,rfl,rfl,int_eq (by rw [cellsL_length]),rfl,trivial⟩,rfl⟩
 obtain ⟨i,base,out,lv,nt,hi,hA,rfl,rfl⟩:=hI
 by_cases hlt:i < kids.length
 · obtain ⟨t', ht'⟩ : ∃ t', kids[i]? = some t' := ⟨kids[i], by simp⟩
   have hm:t'∈kids:=List.mem_of_getElem? ht'
   have hle:=size_le hm
   have hs:=clL_snoc ht'
   have hc:=ih t' hm (by omega)
   have hlen1:(clL (kids.take i)).length≤kids.length:=by
    rw [cl_len,List.length_take];omega
   obtain ⟨out',lv',nt',hap,hA', -⟩:=hA.app apT_tm (.sl .full 4 (cellsL [t'.cl])) (cellsL_cellOk _) (fits_of (by simp only [cellsL_length,List.length_cons,List.length_nil];omega) (by decide)) (noB_cellsL _)
   rw [← cellsL_append, ← hs] at hA'
   obtain ⟨kc,nc,sc,bc,lc,ec⟩:∃ kc nc sc bc lc,t'.cl= .mk kc nc sc bc lc:=by
    obtain ⟨k',nm',s',b',kids'⟩:=t'
    exact ⟨_,_,_,_,_,rfl⟩
   rw [ec] at hc hap
   rw [cells_one] at hap
   obtain ⟨kt,rfl⟩:=apV_tok hA' (by rw [hs,cellsL_append,cellsL_mk1];simp)
   obtain ⟨k',nm',s',b',kids'⟩:=t'
   have hj:=cellsL_get ht'
   repeat' first | refine κn ?_ | refine κx ?_ | refine κz ?_ ?_ | refine κg ?_ | refine κd (hc _) ?_ | refine κB ?_ | (apply dAp;rfl;rfl;rfl;rfl;rfl;(first | assumption | solve_by_elim);rfl) | refine κh ?_ | refine κa ?_ | (apply Wp.drawS tOk follows;kernel_rfl;rfl) | intro hb
   · exact DropQ.go [(2, .ptr 1 4 0 0), (3, .ptr 2 4 0 0), (9, slV b 4 (cellsL kids)), (10, .int .i64 (kids.length : Int)), (11, .int .i64 ((i + 1 : Nat) : Int))] ⟨rfl, rfl, rfl, rfl, int_eq (wrap_nat (n := i + 1) (by omega)), trivial⟩
       (by simp [under_slV,under]) rfl (by simp [boxU,underL,under,under_slV]) (LoopI.go (m - 1) (by omega) ⟨i+1,_,_,lv',nt',by omega,hA',rfl,rfl⟩)
   · exfalso;simp at hb;omega
 · have e : i = kids.length := by omega
   subst e
   rw [List.take_length] at hA
   have hco:=apV_cells hA k nm s
   repeat' first | refine κn ?_ | refine κz ?_ ?_ | refine κg ?_ | refine κa ?_ | refine κf ?_ | intro hb
   · exfalso;simp at hb
   · exact apV_tm hA _ _ _ _ _
end Go.Vm.Seat
