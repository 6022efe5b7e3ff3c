/-
  Credentials: what the reference reads out of a term.
-/
import Derived.Test.YtjokjgoppbmaiaaGreatDoorDa
set_option maxHeartbeats 64000000
set_option maxRecDepth 100000
namespace Go.Vm.Seat
open Go.Proofs
def nextV (t:Tm):PV:=match isPair t with
 | some (x,y)=> .tup [.agg x.cells,.agg y.cells,.bool true]
 | none=> .tup [.agg Tm.zero.cells,.agg Tm.zero.cells,.bool false]
theorem frz3_two (m:Nat) (H:Heap) (x y:Tm) (b:Bool):frz3 m H (.tup [.agg x.cells,.agg y.cells,.bool b])=some (.tup [.agg x.cells,.agg y.cells,.bool b]):=by
 have h:∀ t:Tm,frz2 m H (.agg t.cells)=some (.agg t.cells):=fun t=>frz3_cells m H t
 show (match frz2L m H [.agg x.cells,.agg y.cells,.bool b] with | some vs'=>some (PV.tup vs') | none=>none)=_
 simp only [frz2L,h]
 rfl
theorem pair_isF {k:Int} {nm:Bs} {s:Int} {b:Bool} {l:List Tm}:(isPair (.mk k nm s b l)).isSome=(isF k nm [112,97,105,114] && decide (l.length=2)):=by
 rw [← pair_isB]
 simp [Tm.isB,isF,Bool.and_assoc]
theorem c157 (t:Tm):∀ H,CallOk E0 Tryz.prog 157 [.agg t.cells] H (nextV t) H:=by
 have hfr:frz3 0 hNil (nextV t)=some (nextV t):=by
  unfold nextV
  cases isPair t with
  | none=>exact frz3_two _ _ _ _ _
  | some p=>exact frz3_two _ _ _ _ _
 have hz:=zero_cells
 cases hp:isPair t with
 | some p =>
   obtain ⟨x,y⟩:=p
   have hn:nextV t= .tup [.agg x.cells,.agg y.cells,.bool true]:=by unfold nextV;rw [hp]
   rw [hn] at hfr ⊢
   obtain ⟨s,b,rfl⟩:=isPair_some hp
   have c1:∀ H,CallOk E0 Tryz.prog 94 [.agg [.int .i64 3,.str [112,97,105,114],.int .i64 s,slV b 4 (cellsL [x,y])],.str [112,97,105,114]] H (.bool true) H:=c94 3 [112,97,105,114] s b [x,y] [112,97,105,114]
   have hj0:(cellsL [x,y])[0]? = some x.cells:=rfl
   have hj1:(cellsL [x,y])[1]? = some y.cells:=rfl
   have hl:(cellsL [x,y]).length=2:=rfl
   simp only [Tm.cells]
   generalize cellsL [x,y]=L at c1 hj0 hj1 hl ⊢
   have hft:=fun m H=>frz3_two m H x y true
   clear hn hp
   obtain ⟨k1,nm1,s1,b1,kids1⟩:=x
   obtain ⟨k2,nm2,s2,b2,kids2⟩:=y
   simp only [Tm.cells] at hj0 hj1 hft hfr ⊢
   refine callOk_wp (own:=(fun d=>[29999,50064,50073].any (Nat.beq d))) tOk fe157.ok (by simp only [frzGL,frzG,frzL,frz1_slV];rfl) hfr ?_
   refine Wp.seq ?_
   repeat' first | refine κn ?_ | refine κc (c1 _) ?_ | refine κl ?_ | refine κt ?_ | refine κb ?_ ?_ | refine κg ?_ | refine κI ?_ | (apply dT (ty:=4);rfl;rfl;rfl;rfl) | refine κh ?_ | refine κa ?_ | (apply Wp.drawS tOk follows;kernel_rfl;rfl) | refine κf ?_ | intro hb
   all_goals first
    | exact hft _ _
    | (exfalso;rw [hl] at hb;simp at hb;done)
 | none =>
   have hn:nextV t= .tup [.agg Tm.zero.cells,.agg Tm.zero.cells,.bool false]:=by unfold nextV;rw [hp]
   rw [hn] at hfr ⊢
   obtain ⟨k,nm,s,b,kids⟩:=t
   have c1:=c94 k nm s b kids [112,97,105,114]
   have hpf:=pair_isF (k:=k) (nm:=nm) (s:=s) (b:=b) (l:=kids)
   rw [hp] at hpf
   have hpf:false=(isF k nm [112,97,105,114] && decide (kids.length=2)):=hpf
   generalize isF k nm [112,97,105,114]=B at c1 hpf
   clear hn hp
   rw [hz] at hfr ⊢
   simp only [Tm.cells]
   refine callOk_wp (own:=(fun d=>[29999,50064,50073].any (Nat.beq d))) tOk fe157.ok (by simp only [frzGL,frzG,frzL,frz1_slV];rfl) hfr ?_
   refine Wp.seq ?_
   cases B with
   | false =>
     repeat' first | refine κn ?_ | refine κk ?_ | refine κc (c1 _) ?_ | refine κt ?_ | refine κg ?_ | refine κa ?_ | refine κf ?_ | fail
     all_goals rfl
   | true =>
     have hl:¬ kids.length=2:=by simpa using hpf
     repeat' first | refine κn ?_ | refine κc (c1 _) ?_ | refine κl ?_ | refine κt ?_ | refine κb ?_ ?_ | refine κg ?_ | refine κh ?_ | refine κa ?_ | (apply Wp.drawS tOk follows;kernel_rfl;rfl) | refine κf ?_ | intro hb
     all_goals first
      | rfl
      | (exfalso;have h9:= ‹(((cellsL kids).length:Int) != 2)=false›;rw [cellsL_length] at h9;simp at h9;omega)
def elemsV (t:Tm):PV:=if t.parts.2.cmp endT=0 then .tup [slV true 4 (cellsL t.parts.1),.bool true] else .tup [.nils,.bool false]
theorem c218 {t:Tm} (ht:t.Ok) (hsz:t.size≤90000):∀ H,CallOk E0 Tryz.prog 218 [.agg t.cells] H (elemsV t) H:=by
 have hat:=c257
 rw [atomT_cells] at hat
 have hfr:frz3 0 hNil (elemsV t)=some (elemsV t):=by
  unfold elemsV
  split
  · exact frz3_svb _ _ _ _ _ _
  · rfl
 have hcells:∃ k nm s b kids,t= .mk k nm s b kids:=by obtain ⟨k,nm,s,b,kids⟩:=t;exact ⟨_,_,_,_,_,rfl⟩
 obtain ⟨P,hP⟩:∃ P,P=t.parts:=⟨_,rfl⟩
 have hV:elemsV t=if P.2.cmp endT=0 then .tup [slV true 4 (cellsL P.1),.bool true] else .tup [.nils,.bool false]:=by rw [hP];rfl
 rw [hV] at hfr ⊢
 clear hV
 refine callOk_wp (own:=fun d=>Nat.beq d 5023) tOk fe218.ok (by obtain ⟨k,nm,s,b,kids⟩:=t;simp [frzGL,frzG,Tm.cells,frz_tm]) hfr ?_
 refine Wp.seq ?_
 obtain ⟨k0,nm0,s0,b0,kids0,ht0⟩:=hcells
 rw [show t.cells= [.int .i64 k0,.str nm0,.int .i64 s0,slV b0 4 (cellsL kids0)] by rw [ht0];rfl]
 repeat' first | refine κn ?_ | refine κt ?_ | refine κg ?_ | refine κa ?_ | fail
 refine Wp.while (fun m tm H => ∃ (acc : List Tm) (u : Tm) (base : TM) (out : PV) (lv : List Nat) (nt : Nat), u.size ≤ m ∧ acc.length + u.size ≤ t.size ∧ u.within t ∧ P = (acc ++ u.parts.1, u.parts.2) ∧ ApV true 4 (cellsL acc) out lv nt ∧
   tm=ovr base [(1,.ptr 0 4 0 0),(4,out)]∧H=⟨[.cells 4 [u.cells]],0,lv,nt⟩)
  (fun m tm H hI=>Wp.drop ?_) t.size _ _ ⟨[],t,_,_,_,_,Nat.le_refl _,by simp,within_refl t,by rw [hP];rfl,.nil _ _ rfl,ovr_mk ⟨rfl,rfl,trivial⟩,by rw [ht0];rfl⟩
 obtain ⟨acc,u,base,out,lv,nt,hm,hal,hw,hpq,hA,rfl,rfl⟩:=hI
 clear hfr hP
 have hsame:=c15 (ht.part hw) end_ok (by have:=hw.1;omega) (by decide)
 rw [show endT.cells= [.int .i64 2,.str [101,110,100],.int .i64 5,.nils] from atomT_cells _ _] at hsame
 have hnx:=c157 u
 unfold nextV at hnx
 by_cases he:u.cmp endT=0
 · rw [decide_eq_true he] at hsame
   rw [parts_none (end_none he)] at hpq
   simp only [List.append_nil] at hpq
   subst hpq
   rw [if_pos he]
   obtain ⟨k,nm,s,b,kids⟩:=u
   simp only [Tm.cells] at hsame ⊢
   repeat' first | refine κn ?_ | refine κt ?_ | refine κg ?_ | refine κd (hat _) ?_ | refine κd (hsame _) ?_ | (apply dF (ty:=4);rfl;rfl;rfl;rfl) | refine κh ?_ | refine κa ?_ | (apply Wp.drawS tOk follows;kernel_rfl;rfl) | refine κf ?_ | fail
   all_goals exact frz3_sb hA _ _ _
 · rw [decide_eq_false he] at hsame
   cases hp:isPair u with
   | none =>
     rw [hp] at hnx
     rw [parts_none hp] at hpq
     simp only [List.append_nil] at hpq
     subst hpq
     rw [if_neg he]
     have hnx2:∀ H,CallOk E0 Tryz.prog 157 [.agg u.cells] H (.tup [.agg Tm.zero.cells,.agg Tm.zero.cells,.bool false]) H:=hnx
     clear hnx
     rw [zero_cells] at hnx2
     obtain ⟨k,nm,s,b,kids⟩:=u
     simp only [Tm.cells] at hsame hnx2 ⊢
     repeat' first | refine κn ?_ | refine κc (hnx2 _) ?_ | refine κt ?_ | refine κg ?_ | refine κd (hat _) ?_ | refine κd (hsame _) ?_ | (apply dT (ty:=4);rfl;rfl;rfl;rfl) | refine κh ?_ | refine κa ?_ | (apply Wp.drawS tOk follows;kernel_rfl;rfl) | refine κf ?_ | fail
     all_goals rfl
   | some q =>
     obtain ⟨x,y⟩:=q
     rw [hp] at hnx
     have hnx2:∀ H,CallOk E0 Tryz.prog 157 [.agg u.cells] H (.tup [.agg x.cells,.agg y.cells,.bool true]) H:=hnx
     clear hnx
     obtain ⟨w1,w2,w3⟩:=isPair_within hp
     rw [parts_pair hp] at hpq
     have hx:=size_pos x
     obtain ⟨out',lv',nt',hap,hA', -⟩:=hA.app apT_tm (.sl .full 4 (cellsL [x])) (cellsL_cellOk _) (fits_of (by simp only [cellsL_length,List.length_cons,List.length_nil];omega) (by decide)) (noB_cellsL _)
     rw [← cellsL_append] at hA'
     rw [cellsL_mk1] at hap
     have wy:=within_trans w2 hw
     have hus:u.size≤m:=hm
     have hq2:P=((acc ++ [x]) ++ y.parts.1,y.parts.2):=by rw [hpq];simp
     obtain ⟨kt,rfl⟩:=apV_tok hA' (by simp [cellsL_append,cellsL_mk1])
     clear hpq hp w1 w2 he
     obtain ⟨k,nm,s,b,kids⟩:=u
     obtain ⟨k1,nm1,s1,b1,kids1⟩:=x
     obtain ⟨k2,nm2,s2,b2,kids2⟩:=y
     simp only [Tm.cells] at hsame hnx2 hap ⊢
     repeat' first | refine κn ?_ | refine κc (hnx2 _) ?_ | refine κt ?_ | refine κg ?_ | refine κd (hat _) ?_ | refine κd (hsame _) ?_ | refine κB ?_ | (apply dAq;rfl;rfl;rfl;rfl;rfl;rfl;(first | assumption | solve_by_elim)) | (apply dT (ty:=4);rfl;rfl;rfl;rfl) | refine κh ?_ | refine κa ?_ | (apply Wp.drawS tOk follows;kernel_rfl;rfl) | fail
     exact DropQ.go [(1,.ptr 0 4 0 0),(4,.sl (.tok kt) 4 (cellsL (acc ++ [Tm.mk k1 nm1 s1 b1 kids1])))] ⟨rfl,rfl,trivial⟩
      (by simp [under]) rfl (by simp [boxU,underL,under,under_slV]) (LoopI.go (Tm.mk k2 nm2 s2 b2 kids2).size (by omega) ⟨acc ++ [Tm.mk k1 nm1 s1 b1 kids1],Tm.mk k2 nm2 s2 b2 kids2,_,_,lv',nt',Nat.le_refl _,by simp;omega,wy,hq2,hA',rfl,rfl⟩)
theorem addS {a b:Bs} (h:a.length+b.length≤1000000):aBin E0 .add 9 (.str a) (.str b)=some (.str (a ++ b)):=by
 show aStr .add a b=_
 simp only [aStr]
 rw [if_pos (by omega)]
theorem c158 {t:Tm} (ht:t.Ok) (hs:Small t):∀ H,CallOk E0 Tryz.prog 158 [.agg t.cells] H (.tup [.str (refName t).1,.bool (refName t).2]) H:=by
 have hc:=c218 ht (by have:=hs.1;omega)
 have hjl:=rdName_len hs
 have hpl:=parts_len t
 have hts:=hs.1
 simp only [rdName] at hjl
 have hrn:∀ x,x∈t.parts.1→x.nm.length≤24:=fun x hx=>hs.2 x ((parts_mem hx).2 x (mem_all x))
 simp only [refName]
 unfold elemsV at hc
 by_cases he:t.parts.2.cmp endT=0
 · rw [if_pos he] at hc ⊢
   generalize t.parts.1=l at hc hjl hpl hrn ⊢
   clear he
   obtain ⟨k,nm,s,b,kids⟩:=t
   simp only [Tm.cells] at hc
   refine κw tOk fe158.ok rfl ?_
   repeat' first | refine κn ?_ | refine κc (hc _) ?_ | refine κt ?_ | refine κg ?_ | refine κa ?_ | fail
   refine Wp.while (fun m tm H => ∃ (i : Nat) (base : TM), i + m = l.length ∧
     tm=ovr base [(4,slV true 4 (cellsL l)),(5,.bool true),(6,.str (joinB [46] ((l.take i).map Tm.nm))),(7,.int .i64 (i:Int))]∧H=⟨[.cells 4 [[.int .i64 k,.str nm,.int .i64 s,slV b 4 (cellsL kids)]]],0,[],0⟩)
    (fun m tm H hI=> ?_) l.length _ _ ⟨0,_,by omega,ovr_mk ⟨rfl,rfl,rfl,rfl,trivial⟩,rfl⟩
   obtain ⟨i,base,hi,rfl,rfl⟩:=hI
   by_cases hlt:i < l.length
   · obtain ⟨x, hx⟩ : ∃ x, l[i]? = some x := ⟨l[i], by simp⟩
     have hxn:=hrn x (List.mem_of_getElem? hx)
     have hm:=joinB_mono (l:=l.map Tm.nm) (i:=i)
     rw [← List.map_take] at hm
     have hsn:(l.take (i+1)).map Tm.nm=(l.take i).map Tm.nm ++ [x.nm]:=by simp [List.take_add_one,hx]
     have hj1:i=0→joinB [46] ((l.take (i+1)).map Tm.nm)=joinB [46] ((l.take i).map Tm.nm) ++ x.nm:=fun e=>by rw [hsn,e];simp [joinB]
     have hj2:i≠0→joinB [46] ((l.take (i+1)).map Tm.nm)=(joinB [46] ((l.take i).map Tm.nm) ++ [46]) ++ x.nm:=fun e=>by
      rw [hsn,joinB_snoc]
      intro e2
      have:((l.take i).map Tm.nm).length=0:=by rw [e2];rfl
      rw [List.length_map,List.length_take] at this
      omega
     generalize joinB [46] ((l.take i).map Tm.nm)=S at hm hj1 hj2 ⊢
     obtain ⟨k',nm',s',b',kids'⟩:=x
     simp only [Tm.nm] at hj1 hj2 hxn
     have a1:=addS (a:=S) (b:=nm') (by omega)
     have a2:=addS (a:=S) (b:=[46]) (by simp;omega)
     have a3:=addS (a:=S ++ [46]) (b:=nm') (by simp;omega)
     have hj:=cellsL_get hx
     have hbi:aBin E0 .lss 3 (.int .i64 (i:Int)) (.int .i64 ((cellsL l).length:Int))=some (.bool true):=by
      show some (PV.bool (decide ((i:Int) < ((cellsL l).length:Int))))=_
      rw [cellsL_length]
      simp [hlt]
     have hbp:aBin E0 .add 3 (.int .i64 (i:Int)) (.int .i64 1)=some (.int .i64 ((i+1:Nat):Int)):=by
      show some (PV.int .i64 (IntKind.i64.wrap ((i:Int)+1)))=_
      rw [show IntKind.i64.wrap ((i:Int)+1)=((i+1:Nat):Int) from wrap_nat (n:=i+1) (by omega)]
     by_cases h0:i=0
     · have hbg : aBin E0 .gtr 3 (.int .i64 (i : Int)) (.int .i64 0) = some (.bool false) := by
         show some (PV.bool (decide ((0:Int) < (i:Int))))=_
         simp [h0]
       repeat' first | refine κn ?_ | refine κi ?_ | refine κl ?_ | refine κx ?_ | refine κg ?_ | refine κa ?_ | fail
       exact LoopI.go (m - 1) (by omega) ⟨i+1,_,by omega,ovr_mk ⟨rfl,rfl,by rw [hj1 h0];rfl,rfl,trivial⟩,rfl⟩
     · have hbg : aBin E0 .gtr 3 (.int .i64 (i : Int)) (.int .i64 0) = some (.bool true) := by
         show some (PV.bool (decide ((0:Int) < (i:Int))))=_
         rw [decide_eq_true (by omega)]
       repeat' first | refine κn ?_ | refine κi ?_ | refine κl ?_ | refine κx ?_ | refine κg ?_ | refine κa ?_ | fail
       exact LoopI.go (m - 1) (by omega) ⟨i+1,_,by omega,ovr_mk ⟨rfl,rfl,by rw [hj2 h0];rfl,rfl,trivial⟩,rfl⟩
   · have e : i = l.length := by omega
     subst e
     rw [List.take_length]
     have hbi:aBin E0 .lss 3 (.int .i64 (l.length:Int)) (.int .i64 ((cellsL l).length:Int))=some (.bool false):=by
      show some (PV.bool (decide ((l.length:Int) < ((cellsL l).length:Int))))=_
      rw [cellsL_length]
      simp
     repeat' first | refine κn ?_ | refine κi ?_ | refine κl ?_ | refine κt ?_ | refine κg ?_ | refine κa ?_ | refine κf ?_ | fail
     all_goals rfl
 · rw [if_neg he] at hc ⊢
   clear he hjl hpl hrn hs hts
   obtain ⟨k,nm,s,b,kids⟩:=t
   simp only [Tm.cells] at hc
   refine κw tOk fe158.ok rfl ?_
   repeat' first | refine κn ?_ | refine κc (hc _) ?_ | refine κt ?_ | refine κg ?_ | refine κa ?_ | fail
   refine Wp.loop ?_
   repeat' first | refine κn ?_ | refine κt ?_ | refine κg ?_ | refine κa ?_ | fail
   refine LoopQ.exit ?_
   repeat' first | refine κn ?_ | refine κt ?_ | refine κg ?_ | refine κa ?_ | refine κf ?_ | fail
   all_goals rfl
theorem c159 {t:Tm} (ht:t.Ok) (hs:Small t):∀ H,CallOk E0 Tryz.prog 159 [.agg t.cells] H (.tup [slV true 1 (strC (refNames t).1),.bool (refNames t).2]) H:=by
 have hc:=c218 ht (by have:=hs.1;omega)
 have hpl:=parts_len t
 have hts:=hs.1
 simp only [refNames]
 have hok:∀ x,x∈t.parts.1→x.Ok∧Small x:=fun x hx=>⟨ht.part (parts_mem hx),hs.part (parts_mem hx)⟩
 unfold elemsV at hc
 by_cases he:t.parts.2.cmp endT=0
 · rw [if_pos he] at hc ⊢
   generalize t.parts.1=l at hc hpl hok ⊢
   clear he
   obtain ⟨k,nm,s,b,kids⟩:=t
   simp only [Tm.cells] at hc
   refine κw tOk fe159.ok (frz3_svb _ _ _ _ _ _) ?_
   repeat' first | refine κn ?_ | refine κc (hc _) ?_ | refine κt ?_ | refine κg ?_ | refine κa ?_ | fail
   refine Wp.while (fun m tm H => ∃ (i : Nat) (base : TM) (out : PV) (lv : List Nat) (nt : Nat), i + m = l.length ∧ ApV true 1 (strC ((l.take i).map fun x => (refName x).1)) out lv nt ∧
     tm=ovr base [(4,slV true 4 (cellsL l)),(5,.bool ((l.take i).all fun x=>(refName x).2)),(6,out),(7,.int .i64 (i:Int))]∧H=⟨[.cells 4 [[.int .i64 k,.str nm,.int .i64 s,slV b 4 (cellsL kids)]]],0,lv,nt⟩)
    (fun m tm H hI=> ?_) l.length _ _ ⟨0,_,_,_,_,by omega,.nil _ _ rfl,ovr_mk ⟨rfl,by simp;rfl,rfl,rfl,trivial⟩,rfl⟩
   obtain ⟨i,base,out,lv,nt,hi,hA,rfl,rfl⟩:=hI
   by_cases hlt:i < l.length
   · obtain ⟨x, hx⟩ : ∃ x, l[i]? = some x := ⟨l[i], by simp⟩
     obtain ⟨kt,lv',nt',hap,hA'⟩:=apS hA (refName x).1 (by simp;omega)
     have hs:((l.take i).map fun x=>(refName x).1) ++ [(refName x).1]=(l.take (i+1)).map fun x=>(refName x).1:=by simp [List.take_add_one,hx]
     have hs2:((l.take (i+1)).all fun x=>(refName x).2)=(((l.take i).all fun x=>(refName x).2) && (refName x).2):=by simp [List.take_add_one,hx]
     rw [hs] at hA' hap
     have hok1:=hok x (List.mem_of_getElem? hx)
     have hcn:=c158 hok1.1 hok1.2
     generalize hG:((l.take i).all fun x=>(refName x).2)=A at hs2 ⊢
     generalize (refName x).1=N at hcn hap
     generalize (refName x).2=B at hcn hs2
     obtain ⟨k',nm',s',b',kids'⟩:=x
     have hj:=cellsL_get hx
     simp only [Tm.cells] at hcn
     clear hG
     cases A <;> cases B
     all_goals
      repeat' first | refine κn ?_ | refine κk ?_ | refine κc (hcn _) ?_ | refine κs ?_ | refine κA ?_ | refine κl ?_ | refine κx ?_ | refine κt ?_ | refine κb ?_ ?_ | refine κg ?_ | refine κa ?_ | refine κf ?_ | intro hb
      all_goals first
       | (exfalso;rw [cellsL_length] at hb;simp at hb;omega)
       | skip
      exact LoopI.go (m - 1) (by omega) ⟨i+1,_,_,lv',nt',by omega,hA',ovr_mk ⟨rfl,by rw [hs2];rfl,rfl,int_eq (wrap_nat (n:=i+1) (by omega)),trivial⟩,rfl⟩
   · have e : i = l.length := by omega
     subst e
     rw [List.take_length] at hA ⊢
     repeat' first | refine κn ?_ | refine κl ?_ | refine κg ?_ | refine κa ?_ | (apply Wp.cond;rfl) | refine κf ?_ | intro hb
     all_goals first
      | (exfalso;rw [cellsL_length] at hb;simp at hb;done)
      | exact frz3_sb hA _ _ _
 · rw [if_neg he] at hc ⊢
   clear he hpl hok hs hts
   obtain ⟨k,nm,s,b,kids⟩:=t
   simp only [Tm.cells] at hc
   rw [show slV true 1 (strC [])= .nils from slV_nil_true 1]
   refine κw tOk fe159.ok rfl ?_
   repeat' first | refine κn ?_ | refine κc (hc _) ?_ | refine κt ?_ | refine κg ?_ | refine κa ?_ | fail
   refine Wp.loop ?_
   repeat' first | refine κn ?_ | refine κt ?_ | refine κg ?_ | refine κa ?_ | fail
   refine LoopQ.exit ?_
   repeat' first | refine κn ?_ | refine κt ?_ | refine κg ?_ | refine κa ?_ | refine κf ?_ | fail
   all_goals rfl
theorem c160 {t:Tm} (hl:t.nm.length≤100000):∀ H,CallOk E0 Tryz.prog 160 [.agg t.cells] H (.int .i64 (numR t.nm)) H:=by
 obtain ⟨k,nm,s,b,kids⟩:=t
 simp only [Tm.nm] at hl ⊢
 rw [numR_eq]
 refine κw tOk fe160.ok rfl ?_
 simp only [Tm.cells]
 repeat' first | refine κn ?_ | refine κg ?_ | refine κa ?_ | fail
 refine Wp.while (fun m tm H => ∃ (i : Nat) (base : TM), 1 ≤ i ∧ i + m = 6 ∧ (i = 1 ∨ i ≤ nm.length) ∧
   tm=ovr base [(1,.ptr 0 4 0 0),(3,.int .i64 (((nm.take i).drop 1).foldl stepR 0)),(4,.int .i64 (i:Int))]∧H=⟨[.cells 4 [[.int .i64 k,.str nm,.int .i64 s,slV b 4 (cellsL kids)]]],0,[],0⟩)
  (fun m tm H hI=> ?_) 5 _ _ ⟨1,_,by omega,by omega,.inl rfl,ovr_mk ⟨rfl,by cases nm <;> rfl,rfl,trivial⟩,rfl⟩
 obtain ⟨i,base,hi1,hi,hin,rfl,rfl⟩:=hI
 have hpb:=pre_bound nm i (by omega)
 by_cases hlt:i < nm.length∧i < 6
 · obtain ⟨c, hx⟩ : ∃ c, nm[i]? = some c := ⟨nm[i]'hlt.1, by simp⟩
   have hps:=pre_step hx hi1
   have hix:=idxS2 hx
   have hc:=c.toNat_lt
   generalize ((nm.take i).drop 1).foldl stepR 0=n at hpb hps ⊢
   repeat' first | refine κn ?_ | refine κk ?_ | refine κX ?_ | refine κt ?_ | refine κb ?_ ?_ | refine κg ?_ | refine κa ?_ | refine κf ?_ | intro hb
   all_goals first
    | (exfalso;simp at hb;omega)
    | skip
   refine LoopI.go (m - 1) (by omega) ⟨i+1,_,by omega,by omega,.inr (by omega),ovr_mk ⟨rfl,?_,int_eq (wrap_nat (n:=i+1) (by omega)),trivial⟩,rfl⟩
   rw [hps]
   refine int_eq ?_
   simp only [stepR]
   rw [IntWalk.i64_in (10 * n) (by omega),IntWalk.i64_in (c.toNat:Int) (by omega),IntWalk.i64_in (10 * n+(c.toNat:Int)) (by omega),IntWalk.i64_in _ (by omega)]
 · have hend : ((nm.take 6).drop 1).foldl stepR 0 = ((nm.take i).drop 1).foldl stepR 0 := by
     by_cases h6:i=6
     · rw [h6]
     · have hle : nm.length ≤ i := by omega
       rw [List.take_of_length_le (by omega),List.take_of_length_le (by omega)]
   rw [hend]
   by_cases hn:i < nm.length
   ·
     repeat' first | refine κn ?_ | refine κk ?_ | refine κt ?_ | refine κb ?_ ?_ | refine κg ?_ | refine κa ?_ | refine κf ?_ | intro hb
     all_goals first
      | rfl
      | (exfalso;simp at hb;omega)
      | (exfalso;have h9:= ‹decide ((i:Int) < Int.ofNat nm.length)=false›;simp at h9;omega)
   ·
     repeat' first | refine κn ?_ | refine κk ?_ | refine κt ?_ | refine κb ?_ ?_ | refine κg ?_ | refine κa ?_ | refine κf ?_ | intro hb
     all_goals first
      | rfl
      | (exfalso;simp at hb;omega)
      | (exfalso;have h9:= ‹decide ((i:Int) < Int.ofNat nm.length)=true›;simp at h9;omega)
end Go.Vm.Seat
