/-
  Credentials: what the program reads out of a term. Credentials: names that the program reads out of a term. Credentials: read by the program's text.
-/
import Derived.Test.YtjokjgoppbmaiaaGreatDoorCx
import Derived.Test.YtjokjgoppbmaiaaGreatDoorFi
set_option maxHeartbeats 64000000
set_option maxRecDepth 100000
namespace Go.Vm.Seat
open Go.Proofs
theorem c138 {t u:Tm} (ht:t.Ok) (hu:u.Ok) (h1:t.size≤1000000) (h2:u.size≤1000000):∀ H,CallOk E0 Tryz.prog 138 [.agg t.cells,.agg u.cells] H (.bool (decide (t.cmp u=0))) H:=by
 have hc:∀ H,CallOk E0 Tryz.prog 87 [.agg t.cells,.agg u.cells] H (.int .i64 (t.cmp u)) H:=fun H=>toE0 (d87 ht hu (by omega) (by omega) H)
 generalize t.cmp u=c at hc
 obtain ⟨k,nm,s,b,kids⟩:=t
 obtain ⟨k',nm',s',b',kids'⟩:=u
 refine κw tOk fe138.ok rfl ?_
 repeat' first | refine κn ?_ | refine κc (hc _) ?_ | refine κt ?_ | refine κb ?_ ?_ | refine κg ?_ | refine κa ?_ | refine κf ?_ | intro hb
 all_goals (refine ifq ?_;simp at hb;simp [hb])
theorem c15 {t u:Tm} (ht:t.Ok) (hu:u.Ok) (h1:t.size≤1000000) (h2:u.size≤1000000):∀ H,CallOk E0 Tryz.prog 15 [.agg t.cells,.agg u.cells] H (.bool (decide (t.cmp u=0))) H:=by
 have hc:∀ H,CallOk E0 Tryz.prog 40 [.agg t.cells,.agg u.cells] H (.int .i64 (t.cmp u)) H:=fun H=>toE0 (d40 ht hu (by omega) (by omega) H)
 generalize t.cmp u=c at hc
 obtain ⟨k,nm,s,b,kids⟩:=t
 obtain ⟨k',nm',s',b',kids'⟩:=u
 refine κw tOk fe15.ok rfl ?_
 repeat' first | refine κn ?_ | refine κc (hc _) ?_ | refine κt ?_ | refine κb ?_ ?_ | refine κg ?_ | refine κa ?_ | refine κf ?_ | intro hb
 all_goals (refine ifq ?_;simp at hb;simp [hb])
theorem frz2_slV (m:Nat) (H:Heap) (b:Bool) (es:Nat) (el:List (List PV)):frz2 m H (slV b es el)=some (slV b es el):=by
 unfold slV
 cases el with
 | nil=>cases b <;> rfl
 | cons c r=>rfl
theorem frz3_sb {b:Bool} {es:Nat} {L:List (List PV)} {out:PV} {lv:List Nat} {nt:Nat} (h:ApV b es L out lv nt) (m:Nat) (H:Heap) (x:Bool):frz3 m H (.tup [out,.bool x])=some (.tup [slV b es L,.bool x]):=by
 have h1:=h.frz2 m H
 show (match frz2L m H [out,.bool x] with | some vs'=>some (PV.tup vs') | none=>none)=_
 simp only [frz2L,h1]
 rfl
theorem frz3_svb (m:Nat) (H:Heap) (b:Bool) (es:Nat) (L:List (List PV)) (x:Bool):frz3 m H (.tup [slV b es L,.bool x])=some (.tup [slV b es L,.bool x]):=by
 show (match frz2L m H [slV b es L,.bool x] with | some vs'=>some (PV.tup vs') | none=>none)=_
 simp only [frz2L,frz2_slV]
 rfl
theorem c202 {t:Tm} (ht:t.Ok) (hsz:t.size≤90000):∀ H,CallOk E0 Tryz.prog 202 [.agg t.cells] H (.tup [slV true 4 (cellsL t.parts.1),.bool (decide (t.parts.2.cmp endT=0))]) H:=by
 have hsame:=c138 (ht.part (parts_rest t)) end_ok (by have:=(parts_rest t).1;omega) (by decide)
 have hat:=c103 [101,110,100] 5
 rw [show endT.cells= [.int .i64 2,.str [101,110,100],.int .i64 5,.nils] from atomT_cells _ _] at hsame
 rw [atomT_cells] at hat
 have hcells:∃ k nm s b kids,t= .mk k nm s b kids:=by obtain ⟨k,nm,s,b,kids⟩:=t;exact ⟨_,_,_,_,_,rfl⟩
 obtain ⟨P,hP⟩:∃ P,P=t.parts:=⟨_,rfl⟩
 rw [← hP] at hsame ⊢
 obtain ⟨l,e⟩:=P
 simp only at hsame ⊢
 generalize decide (e.cmp endT=0)=R at hsame ⊢
 refine callOk_wp (own:=fun d=>Nat.beq d 5013) tOk fe202.ok (by obtain ⟨k,nm,s,b,kids⟩:=t;simp [frzGL,frzG,Tm.cells,frz_tm]) (frz3_svb _ _ _ _ _ _) ?_
 refine Wp.seq ?_
 obtain ⟨k0,nm0,s0,b0,kids0,ht0⟩:=hcells
 rw [show t.cells= [.int .i64 k0,.str nm0,.int .i64 s0,slV b0 4 (cellsL kids0)] by rw [ht0];rfl]
 repeat' first | refine κn ?_ | refine κt ?_ | refine κg ?_ | refine κa ?_ | fail
 refine Wp.while (fun m tm H => ∃ (acc : List Tm) (u : Tm) (base : TM) (out : PV) (lv : List Nat) (nt : Nat), u.size ≤ m ∧ acc.length + u.size ≤ t.size ∧ u.within t ∧ (l, e) = (acc ++ u.parts.1, u.parts.2) ∧ ApV true 4 (cellsL acc) out lv nt ∧
   tm=ovr base [(1,.ptr 0 4 0 0),(4,out)]∧H=⟨[.cells 4 [u.cells]],0,lv,nt⟩)
  (fun m tm H hI=> ?_) t.size _ _ ⟨[],t,_,_,_,_,Nat.le_refl _,by simp,within_refl t,by rw [hP];rfl,.nil _ _ rfl,ovr_mk ⟨rfl,rfl,trivial⟩,by rw [ht0];rfl⟩
 obtain ⟨acc,u,base,out,lv,nt,hm,hal,hw,hpq,hA,rfl,rfl⟩:=hI
 have his:=c98 u [112,97,105,114] 2
 rw [pair_isB] at his
 cases hp:isPair u with
 | none =>
   rw [hp] at his
   rw [parts_none hp] at hpq
   simp only [List.append_nil,Prod.mk.injEq] at hpq
   obtain ⟨rfl,rfl⟩:=hpq
   have his2:∀ H,CallOk E0 Tryz.prog 98 [.agg e.cells,.str [112,97,105,114],.int .i64 2] H (.bool false) H:=his
   clear his
   obtain ⟨k,nm,s,b,kids⟩:=e
   simp only [Tm.cells] at his2 hsame ⊢
   cases R
   all_goals
    repeat' first | refine κn ?_ | refine κc (his2 _) ?_ | refine κg ?_ | refine κd (hat _) ?_ | refine κd (hsame _) ?_ | (apply dT (ty:=4);rfl;rfl;rfl;rfl) | (apply dF (ty:=4);rfl;rfl;rfl;rfl) | refine κh ?_ | refine κa ?_ | (apply Wp.drawS tOk follows;kernel_rfl;rfl) | refine κf ?_ | fail
    all_goals exact frz3_sb hA _ _ _
 | some q =>
   obtain ⟨x,y⟩:=q
   rw [hp] at his
   obtain ⟨w1,w2,w3⟩:=isPair_within hp
   rw [parts_pair hp] at hpq
   obtain ⟨s,b,rfl⟩:=isPair_some hp
   have his2:∀ H,CallOk E0 Tryz.prog 98 [.agg (Tm.mk 3 [112,97,105,114] s b [x,y]).cells,.str [112,97,105,114],.int .i64 2] H (.bool true) H:=his
   clear his
   have hx:=size_pos x
   obtain ⟨out',lv',nt',hap,hA', -⟩:=hA.app apT_tm (.sl .full 4 (cellsL [x])) (cellsL_cellOk _) (fits_of (by simp only [cellsL_length,List.length_cons,List.length_nil];omega) (by decide)) (noB_cellsL _)
   rw [← cellsL_append] at hA'
   rw [cellsL_mk1] at hap
   have hj0:(cellsL [x,y])[0]? = some x.cells:=rfl
   have hj1:(cellsL [x,y])[1]? = some y.cells:=rfl
   simp only [Tm.cells] at his2 ⊢
   generalize cellsL [x,y]=L at his2 hj0 hj1 ⊢
   obtain ⟨k1,nm1,s1,b1,kids1⟩:=x
   obtain ⟨k2,nm2,s2,b2,kids2⟩:=y
   simp only [Tm.cells] at hj0 hj1 hap
   repeat' first | refine κn ?_ | refine κc (his2 _) ?_ | refine κg ?_ | refine κB ?_ | (apply dAq;rfl;rfl;rfl;rfl;rfl;rfl;(first | assumption | solve_by_elim)) | refine κI ?_ | refine κh ?_ | refine κa ?_ | (apply Wp.drawS tOk follows;kernel_rfl;rfl) | fail
   refine LoopI.go (Tm.mk k2 nm2 s2 b2 kids2).size (by omega) ⟨acc ++ [Tm.mk k1 nm1 s1 b1 kids1],Tm.mk k2 nm2 s2 b2 kids2,_,out',lv',nt',Nat.le_refl _,by simp;omega,within_trans w2 hw,by rw [hpq];simp,hA',ovr_mk ⟨rfl,rfl,trivial⟩,rfl⟩
end Go.Vm.Seat
namespace Go.Vm.Seat
open Go.Proofs
theorem apT_str:ApT E0 47 47 1 16:=⟨_,_,_,_,_,rfl,rfl,rfl,rfl,rfl,rfl,rfl,by decide,rfl⟩
theorem noB_strC (l:List Bs):noB (strC l)=true:=by
 simp only [strC,noB,List.all_map,List.all_eq_true]
 intro x _
 rfl
theorem strC_ok (l:List Bs):(strC l).all (fun c=>c.all cellOk)=true:=by
 simp only [strC,List.all_map,List.all_eq_true]
 intro x _
 rfl
theorem strC_append (a b:List Bs):strC (a ++ b)=strC a ++ strC b:=by simp [strC]
theorem apS {l : List Bs} {out : PV} {lv : List Nat} {nt : Nat} (h : ApV true 1 (strC l) out lv nt) (s : Bs) (hl : l.length ≤ 100000) :
  ∃ k lv' nt',(∀ bx ro,aAppend E0 47 47 out (.sl .full 1 [[.str s]]) ⟨bx,ro,lv,nt⟩=some (.sl (.tok k) 1 (strC (l ++ [s])),⟨bx,ro,lv',nt'⟩))∧ApV true 1 (strC (l ++ [s])) (.sl (.tok k) 1 (strC (l ++ [s]))) lv' nt':=by
 obtain ⟨out',lv',nt',hap,hA', -⟩:=h.app apT_str (.sl .full 1 (strC [s])) (strC_ok _) (fits_of (by simp only [strC_len,List.length_cons,List.length_nil];omega) (by decide)) (noB_strC _)
 rw [← strC_append] at hA'
 obtain ⟨k,rfl⟩:=apV_tok hA' (by simp [strC])
 exact ⟨k,lv',nt',hap,hA'⟩
theorem joinO {l:List Bs} {out:PV} {lv:List Nat} {nt:Nat} (hA:ApV true 1 (strC l) out lv nt) (h1:l.length≤1000000) (h2:(joinB [46] l).length≤1000000) (bx:List Box):CallOk E0 Tryz.prog 203 [out,.str [46]] ⟨bx,0,lv,nt⟩ (.str (joinB [46] l)) ⟨bx,0,lv,nt⟩:=by
 refine (z203 [out,.str [46]] _ _ _ ?_).1
 have g1:(Nat.ble l.length 1000000 && Nat.ble (joinB [46] l).length 1000000)=true:=by
  rw [Nat.ble_eq_true_of_le h1,Nat.ble_eq_true_of_le h2];rfl
 generalize hL:strC l=L at hA
 cases hA with
 | nil =>
   have:l= []:=by cases l with
    | nil=>rfl
    | cons a r=>simp [strC] at hL
   subst this
   rfl
 | full _ _ _ h=>cases h
 | tok =>
   subst hL
   simp only [joinZ,strsL_C,g1]
theorem frz3_strb (m:Nat) (H:Heap) (s:Bs) (x:Bool):frz3 m H (.tup [.str s,.bool x])=some (.tup [.str s,.bool x]):=rfl
theorem c135 {t:Tm} (ht:t.Ok) (hs:Small t):∀ H,CallOk E0 Tryz.prog 135 [.agg t.cells] H (.tup [.str (rdName t).1,.bool (rdName t).2]) H:=by
 have hc:=c202 ht (by have:=hs.1;omega)
 have hjl:=rdName_len hs
 have hpl:=parts_len t
 have hts:=hs.1
 simp only [rdName] at hjl ⊢
 have hok:∀ x,x∈t.parts.1→x.Ok:=fun x hx=>ht.part (parts_mem hx)
 generalize t.parts.1=l at hc hjl hpl hok ⊢
 generalize decide (t.parts.2.cmp endT=0)=R at hc ⊢
 obtain ⟨k,nm,s,b,kids⟩:=t
 simp only [Tm.cells] at hc
 refine κw tOk fe135.ok (frz3_strb _ _ _ _) ?_
 repeat' first | refine κn ?_ | refine κc (hc _) ?_ | refine κl ?_ | refine κt ?_ | refine κg ?_ | refine κa ?_ | fail
 refine Wp.while (fun m tm H => ∃ (i : Nat) (base : TM) (out : PV) (lv : List Nat) (nt : Nat), i + m = l.length ∧ ApV true 1 (strC ((l.take i).map Tm.nm)) out lv nt ∧
   tm=ovr base [(5,.bool R),(6,out),(14,slV true 4 (cellsL l)),(15,.int .i64 (l.length:Int)),(16,.int .i64 (i:Int))]∧H=⟨[.cells 4 [[.int .i64 k,.str nm,.int .i64 s,slV b 4 (cellsL kids)]]],0,lv,nt⟩)
  (fun m tm H hI=>Wp.drop ?_) l.length _ _ ⟨0,_,_,_,_,by omega,.nil _ _ rfl,ovr_mk ⟨rfl,rfl,rfl,int_eq (by rw [cellsL_length]),rfl,trivial⟩,rfl⟩
 obtain ⟨i,base,out,lv,nt,hi,hA,rfl,rfl⟩:=hI
 by_cases hlt:i < l.length
 · obtain ⟨x, hx⟩ : ∃ x, l[i]? = some x := ⟨l[i], by simp⟩
   obtain ⟨kt,lv',nt',hap,hA'⟩:=apS hA x.nm (by simp;omega)
   have hs:(l.take i).map Tm.nm ++ [x.nm]=(l.take (i+1)).map Tm.nm:=by simp [List.take_add_one,hx]
   rw [hs] at hA' hap
   obtain ⟨k',nm',s',b',kids'⟩:=x
   have hj:=cellsL_get hx
   simp only [Tm.nm] at hap
   repeat' first | refine κn ?_ | refine κs ?_ | refine κA ?_ | refine κx ?_ | refine κg ?_ | refine κa ?_ | (apply Wp.cond;rfl) | intro hb
   all_goals first
    | (exfalso;simp at hb;omega)
    | skip
   exact DropQ.go [(5, .bool R), (6, .sl (.tok kt) 1 (strC ((l.take (i + 1)).map Tm.nm))), (14, slV true 4 (cellsL l)), (15, .int .i64 (l.length : Int)), (16, .int .i64 ((i + 1 : Nat) : Int))] ⟨rfl, rfl, rfl, rfl, int_eq (wrap_nat (n := i + 1) (by omega)), trivial⟩
     (by simp [under_slV,under]) rfl (by simp [boxU,underL,under,under_slV]) (LoopI.go (m - 1) (by omega) ⟨i+1,_,_,lv',nt',by omega,hA',rfl,rfl⟩)
 · have e : i = l.length := by omega
   subst e
   rw [List.take_length] at hA
   have hz:=joinO hA (by simp;omega) (by omega)
   repeat' first | refine κn ?_ | refine κc (hz _) ?_ | refine κg ?_ | refine κa ?_ | (apply Wp.cond;rfl) | refine κf ?_ | intro hb
   all_goals first
    | (exfalso;simp at hb;done)
    | rfl
theorem c136 {t:Tm} (ht:t.Ok) (hs:Small t):∀ H,CallOk E0 Tryz.prog 136 [.agg t.cells] H (.tup [slV true 1 (strC (rdNames t).1),.bool (rdNames t).2]) H:=by
 have hc:=c202 ht (by have:=hs.1;omega)
 have hpl:=parts_len t
 have hts:=hs.1
 simp only [rdNames]
 have hok:∀ x,x∈t.parts.1→x.Ok∧Small x:=fun x hx=>⟨ht.part (parts_mem hx),hs.part (parts_mem hx)⟩
 generalize t.parts.1=l at hc hpl hok ⊢
 generalize decide (t.parts.2.cmp endT=0)=R at hc ⊢
 obtain ⟨k,nm,s,b,kids⟩:=t
 simp only [Tm.cells] at hc
 refine κw tOk fe136.ok (frz3_svb _ _ _ _ _ _) ?_
 repeat' first | refine κn ?_ | refine κc (hc _) ?_ | refine κl ?_ | refine κt ?_ | refine κg ?_ | refine κa ?_ | fail
 refine Wp.while (fun m tm H => ∃ (i : Nat) (base : TM) (out : PV) (lv : List Nat) (nt : Nat), i + m = l.length ∧ ApV true 1 (strC ((l.take i).map fun x => (rdName x).1)) out lv nt ∧
   tm=ovr base [(5,.bool (R && (l.take i).all fun x=>(rdName x).2)),(6,out),(16,slV true 4 (cellsL l)),(17,.int .i64 (l.length:Int)),(18,.int .i64 (i:Int))]∧H=⟨[.cells 4 [[.int .i64 k,.str nm,.int .i64 s,slV b 4 (cellsL kids)]]],0,lv,nt⟩)
  (fun m tm H hI=>Wp.drop ?_) l.length _ _ ⟨0,_,_,_,_,by omega,.nil _ _ rfl,ovr_mk ⟨by simp;rfl,rfl,rfl,int_eq (by rw [cellsL_length]),rfl,trivial⟩,rfl⟩
 obtain ⟨i,base,out,lv,nt,hi,hA,rfl,rfl⟩:=hI
 by_cases hlt:i < l.length
 · obtain ⟨x, hx⟩ : ∃ x, l[i]? = some x := ⟨l[i], by simp⟩
   obtain ⟨kt,lv',nt',hap,hA'⟩:=apS hA (rdName x).1 (by simp;omega)
   have hs:((l.take i).map fun x=>(rdName x).1) ++ [(rdName x).1]=(l.take (i+1)).map fun x=>(rdName x).1:=by simp [List.take_add_one,hx]
   have hs2:(R && (l.take (i+1)).all fun x=>(rdName x).2)=((R && (l.take i).all fun x=>(rdName x).2) && (rdName x).2):=by simp [List.take_add_one,hx,Bool.and_assoc]
   rw [hs] at hA' hap
   have hok1:=hok x (List.mem_of_getElem? hx)
   have hcn:=c135 hok1.1 hok1.2
   generalize hG:(R && (l.take i).all fun x=>(rdName x).2)=A at hs2 ⊢
   generalize (rdName x).1=N at hcn hap
   generalize (rdName x).2=B at hcn hs2
   obtain ⟨k',nm',s',b',kids'⟩:=x
   have hj:=cellsL_get hx
   simp only [Tm.cells] at hcn
   clear hG
   cases A <;> cases B
   all_goals
    repeat' first | refine κn ?_ | refine κk ?_ | refine κc (hcn _) ?_ | refine κs ?_ | refine κA ?_ | refine κx ?_ | refine κt ?_ | refine κz ?_ ?_ | refine κg ?_ | refine κa ?_ | refine κf ?_ | intro hb
    all_goals first
     | (exfalso;simp at hb;omega)
     | skip
    exact DropQ.go [(5, .bool (R && (l.take (i + 1)).all fun x => (rdName x).2)), (6, .sl (.tok kt) 1 (strC ((l.take (i + 1)).map fun x => (rdName x).1))), (16, slV true 4 (cellsL l)), (17, .int .i64 (l.length : Int)), (18, .int .i64 ((i + 1 : Nat) : Int))] ⟨by rw [hs2]; rfl, rfl, rfl, rfl, int_eq (wrap_nat (n := i + 1) (by omega)), trivial⟩
      (by simp [under_slV,under]) rfl (by simp [boxU,underL,under,under_slV]) (LoopI.go (m - 1) (by omega) ⟨i+1,_,_,lv',nt',by omega,hA',rfl,rfl⟩)
 · have e : i = l.length := by omega
   subst e
   rw [List.take_length] at hA ⊢
   repeat' first | refine κn ?_ | refine κg ?_ | refine κa ?_ | (apply Wp.cond;rfl) | refine κf ?_ | intro hb
   all_goals first
    | (exfalso;simp at hb;done)
    | exact frz3_sb hA _ _ _
end Go.Vm.Seat
namespace Go.Vm.Seat
open Go.Proofs
theorem cz_cells:Cred.zero.cells= [.str [],.int .i64 0,.str [],.int .i64 0,.nils,.bool false,.nils,.nils,.int .i64 0,.int .i64 0,.int .i64 0]:=by
 show .str [] :: (Tm.zero.cells ++ [.bool false,slV true 1 (strC []),slV true 1 (strC []),.int .i64 0,.int .i64 0,.int .i64 0])=_
 rw [zero_cells,show slV true 1 (strC [])= .nils from slV_nil_true 1]
 rfl
theorem frz2_cred (m:Nat) (H:Heap) (x:Cred):frz2 m H (.agg x.cells)=some (.agg x.cells):=by
 obtain ⟨sub,⟨k,nm,s,b,kids⟩,iss,pn,per,en,exc,ser,fr,till⟩:=x
 have h0:=frz3_agg m H (Cred.mk sub (.mk k nm s b kids) iss pn per en exc ser fr till).cells
 have h1:frz3 m H (.agg (Cred.mk sub (.mk k nm s b kids) iss pn per en exc ser fr till).cells)=frz2 m H (.agg (Cred.mk sub (.mk k nm s b kids) iss pn per en exc ser fr till).cells):=rfl
 rw [← h1,h0]
 simp only [Cred.cells,Tm.cells,List.cons_append,List.nil_append,frzCL,frzC_slV]
 rfl
theorem frz3_cred (m:Nat) (H:Heap) (x:Cred) (e:Int):frz3 m H (.tup [.agg x.cells,.int .i64 e])=some (.tup [.agg x.cells,.int .i64 e]):=by
 show (match frz2L m H [.agg x.cells,.int .i64 e] with | some vs'=>some (PV.tup vs') | none=>none)=_
 simp only [frz2L,frz2_cred]
 rfl
theorem idxK {tl:Tail} {l:List Tm} {i:Nat} {a:Tm} (h:l[i]? = some a):aIndexAddr E0 22 (.sl tl 4 (cellsL l)) (.int .i64 (i:Int))=some (.fptr a.cells 0):=by
 have en:nat? (.int .i64 (i:Int))=some i:=rfl
 have e:E0.T 22=some ⟨.slice 24,1,24,.nils⟩:=by kernel_rfl
 have et:E0.T 24=some ⟨.struct [(0,3),(1,9),(2,3),(3,22)],4,56,.agg [.int .i64 0,.str [],.int .i64 0,.nils]⟩:=by kernel_rfl
 obtain ⟨k,nm,s,b,kids⟩:=a
 have hn:nth (cellsL l) i=some (Tm.mk k nm s b kids).cells:=by rw [nth_eq];exact cellsL_get h
 simp only [aIndexAddr,e,en,et,if_true,hn]
theorem read_bad {t:Tm} (ht:t.Ok) (hsz:t.size≤40000) (h:t.valid≠0∨t.isB [115,105,103,110] 2=false):∀ H,CallOk E0 Tryz.prog 66 [.agg t.cells] H (.tup [.agg (readP t).1.cells,.int .i64 (readP t).2]) H:=by
 have c1:=c48 ht (by omega)
 have c2:=c98 t [115,105,103,110] 2
 unfold readP
 rw [readF_A _ _ _ h]
 have hfr:=frz3_cred 0 hNil Cred.zero 2
 generalize t.valid=e at c1 h
 generalize t.isB [115,105,103,110] 2=B at c2 h
 obtain ⟨k,nm,s,b,kids⟩:=t
 simp only [Tm.cells] at c1 c2
 refine κw tOk fe66.ok hfr ?_
 by_cases h1:e=0
 · subst h1
   have hB:B=false:=by simpa using h
   subst hB
   repeat' first | refine κn ?_ | refine κc (c1 _) ?_ | refine κc (c2 _) ?_ | refine κt ?_ | refine κg ?_ | refine κa ?_ | refine κf ?_ | fail
   all_goals (rw [cz_cells];rfl)
 · clear h
   repeat' first | refine κn ?_ | refine κk ?_ | refine κc (c1 _) ?_ | refine κc (c2 _) ?_ | refine κt ?_ | refine κb ?_ ?_ | refine κg ?_ | refine κa ?_ | refine κf ?_ | intro hb
   all_goals first
    | (rw [cz_cells];rfl)
    | (exfalso;have h9:= ‹(e != 0)=false›;simp at h9;exact h1 h9)
end Go.Vm.Seat
