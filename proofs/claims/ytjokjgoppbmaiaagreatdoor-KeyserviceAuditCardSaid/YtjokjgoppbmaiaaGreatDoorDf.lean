/-
  Credentials: read by the reference's text. Credentials: what the statements ask beside: small, the same. The calls of the examples of the credentials, one by one. The examples of the credentials hold in every world. CredentialReads: the law's function returns true at any term.
-/
import Derived.Test.YtjokjgoppbmaiaaGreatDoorDb
import Derived.Test.YtjokjgoppbmaiaaGreatDoorDc
import Derived.Test.YtjokjgoppbmaiaaGreatDoorDa
import Derived.Test.YtjokjgoppbmaiaaGreatDoorCrStr
import Derived.Test.YtjokjgoppbmaiaaGreatDoorStCmp
import Derived.Test.YtjokjgoppbmaiaaGreatDoorFi
set_option maxHeartbeats 64000000
set_option maxRecDepth 100000
namespace Go.Vm.Seat
open Go.Proofs
theorem readR_bad {t:Tm} (ht:t.Ok) (hsz:t.size≤40000) (h:t.valid≠0∨t.isB [115,105,103,110] 2=false):∀ H,CallOk E0 Tryz.prog 78 [.agg t.cells] H (.tup [.agg (readR t).1.cells,.int .i64 (readR t).2]) H:=by
 have c1:=c50 ht (by omega)
 unfold readR
 rw [readF_A _ _ _ h]
 have hfr:=frz3_cred 0 hNil Cred.zero 2
 generalize t.valid=e at c1 h
 obtain ⟨k,nm,s,b,kids⟩:=t
 have c2:=c94 k nm s b kids [115,105,103,110]
 have hB:(Tm.mk k nm s b kids).isB [115,105,103,110] 2=(isF k nm [115,105,103,110] && decide (kids.length=2)):=by simp [Tm.isB,isF,Bool.and_assoc]
 rw [hB] at h
 clear hB
 generalize isF k nm [115,105,103,110]=B at c2 h
 simp only [Tm.cells] at c1 c2
 refine κw tOk fe78.ok hfr ?_
 by_cases h1:e=0
 · subst h1
   cases B with
   | false =>
     repeat' first | refine κn ?_ | refine κk ?_ | refine κc (c1 _) ?_ | refine κc (c2 _) ?_ | refine κt ?_ | refine κg ?_ | refine κa ?_ | refine κf ?_ | fail
     all_goals (rw [cz_cells];rfl)
   | true =>
     have hl:¬ kids.length=2:=by simpa using h
     repeat' first | refine κn ?_ | refine κc (c1 _) ?_ | refine κc (c2 _) ?_ | refine κl ?_ | refine κt ?_ | refine κb ?_ ?_ | refine κg ?_ | refine κa ?_ | refine κf ?_ | intro hb
     all_goals first
      | (rw [cz_cells];rfl)
      | (exfalso;have h9:= ‹(((cellsL kids).length:Int) != 2)=false›;rw [cellsL_length] at h9;simp at h9;omega)
 · clear h
   repeat' first | refine κn ?_ | refine κk ?_ | refine κc (c1 _) ?_ | refine κc (c2 _) ?_ | refine κl ?_ | refine κt ?_ | refine κb ?_ ?_ | refine κg ?_ | refine κa ?_ | refine κf ?_ | intro hb
   all_goals first
    | (rw [cz_cells];rfl)
    | (exfalso;have h9:= ‹(e != 0)=false›;simp at h9;exact h1 h9)
theorem readR_good {s : Int} {b : Bool} {u key : Tm} (ht : (Tm.mk 3 [115, 105, 103, 110] s b [u, key]).Ok) (hv : (Tm.mk 3 [115, 105, 103, 110] s b [u, key]).valid = 0) :
  ∀ H,CallOk E0 Tryz.prog 78 [.agg (Tm.mk 3 [115,105,103,110] s b [u,key]).cells] H (.tup [.agg (readR (.mk 3 [115,105,103,110] s b [u,key])).1.cells,.int .i64 (readR (.mk 3 [115,105,103,110] s b [u,key])).2]) H:=by
 have hsm:=valid_small hv
 have hu:u.within (.mk 3 [115,105,103,110] s b [u,key]):=within_kid (by simp)
 have hkey:key.within (.mk 3 [115,105,103,110] s b [u,key]):=within_kid (by simp)
 have c1:=c50 ht (by have:=hsm.1;omega)
 rw [hv] at c1
 have c2:∀ H,CallOk E0 Tryz.prog 94 [.agg (Tm.mk 3 [115,105,103,110] s b [u,key]).cells,.str [115,105,103,110]] H (.bool true) H:=c94 3 [115,105,103,110] s b [u,key] [115,105,103,110]
 unfold readR
 rw [readF_B _ _ _ hv]
 have hfr:=frz3_cred 0 hNil (readB refName refNames numR (.mk 3 [115,105,103,110] s b [u,key]) key (firsts 8 u)).1 (readB refName refNames numR (.mk 3 [115,105,103,110] s b [u,key]) key (firsts 8 u)).2
 obtain ⟨F,hF⟩:∃ F,F=firsts 8 u:=⟨_,rfl⟩
 rw [← hF] at hfr ⊢
 obtain ⟨T,hT⟩:∃ T,T=Tm.mk 3 [115,105,103,110] s b [u,key]:=⟨_,rfl⟩
 have hTc:T.cells= [.int .i64 3,.str [115,105,103,110],.int .i64 s,slV b 4 (cellsL [u,key])]:=by rw [hT];rfl
 rw [← hT] at ht hsm hu hkey c1 c2 hfr ⊢
 clear hT hv
 rw [hTc] at c1 c2 ⊢
 have hj0:(cellsL [u,key])[0]? = some u.cells:=rfl
 have hj1:(cellsL [u,key])[1]? = some key.cells:=rfl
 have hLl:(cellsL [u,key]).length=2:=rfl
 generalize cellsL [u,key]=L at c1 c2 hj0 hj1 hLl hTc ⊢
 have hu0:∃ k nm s b kids,u= .mk k nm s b kids:=by obtain ⟨k,nm,s,b,kids⟩:=u;exact ⟨_,_,_,_,_,rfl⟩
 obtain ⟨ku,nmu,su,bu,kidsu,hu1⟩:=hu0
 have hj0':L[0]? = some [.int .i64 ku,.str nmu,.int .i64 su,slV bu 4 (cellsL kidsu)]:=by rw [hj0,hu1];rfl
 clear hj0
 refine callOk_wp (own:=(fun d=>[30026,30010,5055].any (Nat.beq d))) tOk fe78.ok (by simp only [frzGL,frzG,frzL,frz1_slV];rfl) hfr ?_
 refine Wp.seq ?_
 have hbn:aBin E0 .neq 3 (.int .i64 (L.length:Int)) (.int .i64 2)=some (.bool false):=by rw [hLl];rfl
 repeat' first | refine κn ?_ | refine κc (c1 _) ?_ | refine κc (c2 _) ?_ | refine κi ?_ | refine κl ?_ | refine κx ?_ | refine κt ?_ | refine κg ?_ | refine κa ?_ | fail
 clear c1 c2 hfr hbn
 refine Wp.while (fun m tm H => ∃ (acc : List Tm) (rest : Tm) (base : TM) (out : PV) (lv : List Nat) (nt : Nat), acc.length + m = 8 ∧ rest.within T ∧ (∀ x, x ∈ acc → x.within T) ∧
   (F=match firsts m rest with | some (l,r)=>some (acc ++ l,r) | none=>none)∧ApV true 4 (cellsL acc) out lv nt∧
   tm=ovr base [(1,.ptr 0 4 0 0),(2,.ptr 1 11 0 0),(4,.ptr 2 11 0 0),(5,out),(6,.ptr 3 4 0 0),(7,.int .i64 (acc.length:Int))]∧
   H=⟨[.cells 4 [[.int .i64 3,.str [115,105,103,110],.int .i64 s,slV b 4 L]],.cells 11 [[.str [],.int .i64 0,.str [],.int .i64 0,.nils,.bool false,.nils,.nils,.int .i64 0,.int .i64 0,.int .i64 0]],.cells 11 [[.str [],.int .i64 0,.str [],.int .i64 0,.nils,.bool false,.nils,.nils,.int .i64 0,.int .i64 0,.int .i64 0]],.cells 4 [rest.cells]],0,lv,nt⟩)
  (fun m tm H hI=>Wp.drop ?_) 8 _ _ ⟨[],u,_,_,_,_,rfl,hu,fun x hx=>absurd hx (by simp),by rw [hF];cases firsts 8 u <;> simp,.nil _ _ rfl,ovr_mk ⟨rfl,rfl,rfl,rfl,rfl,rfl,trivial⟩,by rw [hu1];rfl⟩
 obtain ⟨acc,rest,base,out,lv,nt,hm,hw,hacc,hf,hA,rfl,rfl⟩:=hI
 have hle:=lenA hA
 clear hu1 hj0'
 cases m with
 | succ m =>
   have hnx:=c157 rest
   unfold nextV at hnx
   rw [firsts_step] at hf
   cases hp:isPair rest with
   | none =>
     rw [hp] at hnx hf
     have hnx2:∀ H,CallOk E0 Tryz.prog 157 [.agg rest.cells] H (.tup [.agg Tm.zero.cells,.agg Tm.zero.cells,.bool false]) H:=hnx
     clear hnx
     rw [zero_cells] at hnx2
     rw [hf]
     obtain ⟨k1,nm1,s1,b1,kids1⟩:=rest
     simp only [Tm.cells] at hnx2 ⊢
     repeat' first | refine κn ?_ | refine κc (hnx2 _) ?_ | refine κs ?_ | refine κt ?_ | refine κb ?_ ?_ | refine κg ?_ | refine κa ?_ | refine κf ?_ | intro hb
     all_goals first
      | (show frz3 _ _ _=some (.tup [.agg Cred.zero.cells,.int .i64 2]);rw [cz_cells];rfl)
      | (exfalso;simp at hb;omega)
   | some q =>
     obtain ⟨x,y⟩:=q
     rw [hp] at hnx hf
     have hnx2:∀ H,CallOk E0 Tryz.prog 157 [.agg rest.cells] H (.tup [.agg x.cells,.agg y.cells,.bool true]) H:=hnx
     clear hnx
     obtain ⟨w1,w2,w3⟩:=isPair_within hp
     obtain ⟨out',lv',nt',hap,hA', -⟩:=hA.app apT_tm (.sl .full 4 (cellsL [x])) (cellsL_cellOk _) (fits_of (by simp only [cellsL_length,List.length_cons,List.length_nil];omega) (by decide)) (noB_cellsL _)
     rw [← cellsL_append] at hA'
     rw [cellsL_mk1] at hap
     have hf2:F=match firsts m y with | some (l,r)=>some ((acc ++ [x]) ++ l,r) | none=>none:=by
      rw [hf]
      simp only []
      cases firsts m y with
      | none=>rfl
      | some p=>simp
     have wy:=within_trans w2 hw
     have wx:∀ z,z∈acc ++ [x]→z.within T:=fun z hz=>by
      rcases List.mem_append.1 hz with hz | hz
      · exact hacc z hz
      · rw [List.mem_singleton.1 hz];exact within_trans w1 hw
     obtain ⟨kt,rfl⟩:=apV_tok hA' (by simp [cellsL_append,cellsL_mk1])
     clear hf hp w1 w2 w3 hw
     obtain ⟨k0,nm0,s0,b0,kids0⟩:=rest
     obtain ⟨k1,nm1,s1,b1,kids1⟩:=x
     obtain ⟨k3,nm3,s3,b3,kids3⟩:=y
     simp only [Tm.cells] at hnx2 hap ⊢
     repeat' first | refine κn ?_ | refine κc (hnx2 _) ?_ | refine κs ?_ | refine κt ?_ | refine κb ?_ ?_ | refine κg ?_ | refine κB ?_ | (apply dAq;rfl;rfl;rfl;rfl;rfl;rfl;(first | assumption | solve_by_elim)) | refine κh ?_ | refine κa ?_ | (apply dWS tOk follows;rfl;kernel_rfl;rfl) | intro hb
     all_goals first
      | (exfalso;simp at hb;omega)
      | skip
     exact DropQ.go [(1,.ptr 0 4 0 0),(2,.ptr 1 11 0 0),(4,.ptr 2 11 0 0),(5,.sl (.tok kt) 4 (cellsL (acc ++ [Tm.mk k1 nm1 s1 b1 kids1]))),(6,.ptr 3 4 0 0),(7,.int .i64 ((acc ++ [Tm.mk k1 nm1 s1 b1 kids1]).length:Int))] ⟨rfl,rfl,rfl,rfl,rfl,int_eq (by rw [List.length_append];exact wrap_nat (n:=acc.length+1) (by omega)),trivial⟩
      (by simp [under]) rfl (by simp [boxU,underL,under,under_slV]) (LoopI.go m (by omega) ⟨acc ++ [Tm.mk k1 nm1 s1 b1 kids1],Tm.mk k3 nm3 s3 b3 kids3,_,_,lv',nt',by simp;omega,wy,wx,hf2,hA',rfl,rfl⟩)
 | zero =>
   have hl8:acc.length=8:=by omega
   obtain ⟨out',lv',nt',hap,hA', -⟩:=hA.app apT_tm (.sl .full 4 (cellsL [rest])) (cellsL_cellOk _) (fits_of (by simp only [cellsL_length,List.length_cons,List.length_nil];omega) (by decide)) (noB_cellsL _)
   rw [← cellsL_append] at hA'
   rw [cellsL_mk1] at hap
   obtain ⟨kt,rfl⟩:=apV_tok hA' (by simp [cellsL_append,cellsL_mk1])
   simp only [firsts,List.append_nil] at hf
   rw [hf]
   rcases acc with _ | ⟨a0,_ | ⟨a1,_ | ⟨a2,_ | ⟨a3,_ | ⟨a4,_ | ⟨a5,_ | ⟨a6,_ | ⟨a7,_ | ⟨a8,l⟩⟩⟩⟩⟩⟩⟩⟩⟩
   all_goals first
    | (exfalso;simp at hl8;done)
    | skip
   have x1:aIndexAddr E0 22 (.sl (.tok kt) 4 (cellsL [a0,a1,a2,a3,a4,a5,a6,a7,rest])) (.int .i64 1)=some (.fptr a1.cells 0):=idxK (tl:= .tok kt) (l:=[a0,a1,a2,a3,a4,a5,a6,a7,rest]) (i:=1) (a:=a1) rfl
   have x2:aIndexAddr E0 22 (.sl (.tok kt) 4 (cellsL [a0,a1,a2,a3,a4,a5,a6,a7,rest])) (.int .i64 2)=some (.fptr a2.cells 0):=idxK (tl:= .tok kt) (l:=[a0,a1,a2,a3,a4,a5,a6,a7,rest]) (i:=2) (a:=a2) rfl
   have x3:aIndexAddr E0 22 (.sl (.tok kt) 4 (cellsL [a0,a1,a2,a3,a4,a5,a6,a7,rest])) (.int .i64 3)=some (.fptr a3.cells 0):=idxK (tl:= .tok kt) (l:=[a0,a1,a2,a3,a4,a5,a6,a7,rest]) (i:=3) (a:=a3) rfl
   have x4:aIndexAddr E0 22 (.sl (.tok kt) 4 (cellsL [a0,a1,a2,a3,a4,a5,a6,a7,rest])) (.int .i64 4)=some (.fptr a4.cells 0):=idxK (tl:= .tok kt) (l:=[a0,a1,a2,a3,a4,a5,a6,a7,rest]) (i:=4) (a:=a4) rfl
   have x5:aIndexAddr E0 22 (.sl (.tok kt) 4 (cellsL [a0,a1,a2,a3,a4,a5,a6,a7,rest])) (.int .i64 5)=some (.fptr a5.cells 0):=idxK (tl:= .tok kt) (l:=[a0,a1,a2,a3,a4,a5,a6,a7,rest]) (i:=5) (a:=a5) rfl
   have x6:aIndexAddr E0 22 (.sl (.tok kt) 4 (cellsL [a0,a1,a2,a3,a4,a5,a6,a7,rest])) (.int .i64 6)=some (.fptr a6.cells 0):=idxK (tl:= .tok kt) (l:=[a0,a1,a2,a3,a4,a5,a6,a7,rest]) (i:=6) (a:=a6) rfl
   have x7:aIndexAddr E0 22 (.sl (.tok kt) 4 (cellsL [a0,a1,a2,a3,a4,a5,a6,a7,rest])) (.int .i64 7)=some (.fptr a7.cells 0):=idxK (tl:= .tok kt) (l:=[a0,a1,a2,a3,a4,a5,a6,a7,rest]) (i:=7) (a:=a7) rfl
   have x8:aIndexAddr E0 22 (.sl (.tok kt) 4 (cellsL [a0,a1,a2,a3,a4,a5,a6,a7,rest])) (.int .i64 8)=some (.fptr rest.cells 0):=idxK (tl:= .tok kt) (l:=[a0,a1,a2,a3,a4,a5,a6,a7,rest]) (i:=8) (a:=rest) rfl
   simp only [List.cons_append,List.nil_append] at hap
   have w1:=hacc a1 (by simp)
   have w2:=hacc a2 (by simp)
   have w4:=hacc a4 (by simp)
   have w5:=hacc a5 (by simp)
   have w6:=hacc a6 (by simp)
   have w7:=hacc a7 (by simp)
   have c3:=c158 (ht.part w1) (hsm.part w1)
   have c4:=c159 (ht.part w4) (hsm.part w4)
   have c5:=c159 (ht.part w5) (hsm.part w5)
   have c6:=c160 (t:=a6) (by have:=(hsm.part w6).2 a6 (mem_all a6);omega)
   have c7:=c160 (t:=a7) (by have:=(hsm.part w7).2 a7 (mem_all a7);omega)
   have c8:=c160 (t:=rest) (by have:=(hsm.part hw).2 rest (mem_all rest);omega)
   have n1:=refName_len (hsm.part w1)
   have n4:=refNames_len (hsm.part w4)
   have n5:=refNames_len (hsm.part w5)
   have s2:=(hsm.part w2).1
   have sk:=(hsm.part hkey).1
   have c9:=c79 ⟨(refName a1).1,a2,a3.nm == [121,101,115],true,(refNames a4).1,true,(refNames a5).1,numR a6.nm,numR a7.nm,numR rest.nm⟩ (key:=key) (by simp only;omega) (fun s hs=>by have:=n4.2 s hs;omega) (fun s hs=>by have:=n5.2 s hs;omega) (by simp only;omega) (by simp only;omega) (ht.part w2) (by simp only;omega) (ht.part hkey) (by omega)
   have hsi:=issue_small (x:=⟨(refName a1).1,a2,a3.nm == [121,101,115],true,(refNames a4).1,true,(refNames a5).1,numR a6.nm,numR a7.nm,numR rest.nm⟩) (key:=key) (ht.part w2) (ht.part hkey)
   have c10:=c15 ht hsi.1 (by have:=hsm.1;omega) (by have:=hsi.2;simp only at this;omega)
   have hX:=fun m H=>frz3_cred m H ⟨(refName a1).1,a2,a3.nm == [121,101,115],true,(refNames a4).1,true,(refNames a5).1,numR a6.nm,numR a7.nm,numR rest.nm⟩ 0
   obtain ⟨z1,z2,z3,z4⟩:=readB_some (rn:=refName) (rl:=refNames) (num:=numR) (t:=T) (key:=key) (l:=[a0,a1,a2,a3,a4,a5,a6,a7]) (r:=rest) rfl
   generalize readB refName refNames numR T key (some ([a0,a1,a2,a3,a4,a5,a6,a7],rest))=Z at z1 z2 z3 z4 ⊢
   generalize Cred.issue ⟨(refName a1).1,a2,a3.nm == [121,101,115],true,(refNames a4).1,true,(refNames a5).1,numR a6.nm,numR a7.nm,numR rest.nm⟩ key=I at c9 c10 hsi z2 z3 z4
   clear hsi n1 n4 n5 s2 sk w1 w2 w4 w5 w6 w7 hacc hf hl8
   generalize (refName a1).1=N1 at c3 c9 hX z4
   generalize (refName a1).2=B1 at c3 z1 z2 z3 z4
   generalize (refNames a4).1=N4 at c4 c9 hX z4
   generalize (refNames a4).2=B4 at c4 z1 z2 z3 z4
   generalize (refNames a5).1=N5 at c5 c9 hX z4
   generalize (refNames a5).2=B5 at c5 z1 z2 z3 z4
   generalize numR a6.nm=M6 at c6 c9 hX z4
   generalize numR a7.nm=M7 at c7 c9 hX z4
   generalize numR rest.nm=M8 at c8 c9 hX z4
   obtain ⟨I1,e⟩:=I
   simp only at c9 c10 z2 z3 z4
   rw [show decide (T.cmp I1=0)=decide (I1.cmp T=0) by simp only [cmp_symm (a:=T)]] at c10
   generalize hR:decide (I1.cmp T=0)=R at c10
   rw [hTc] at c10
   clear hle hA hA'
   have hlen8:decide ((([a0,a1,a2,a3,a4,a5,a6,a7]:List Tm).length:Int) < 8)=false:=by simp
   generalize cellsL [a0,a1,a2,a3,a4,a5,a6,a7,rest]=L8 at x1 x2 x3 x4 x5 x6 x7 x8 hap ⊢
   have hz1:∀ H,frz3 0 H (.tup [.agg [.str [],.int .i64 0,.str [],.int .i64 0,.nils,.bool false,.nils,.nils,.int .i64 0,.int .i64 0,.int .i64 0],.int .i64 2])=some (.tup [.agg Cred.zero.cells,.int .i64 2]):=fun H=>by rw [cz_cells];rfl
   obtain ⟨k1,nm1,s1,b1,kids1⟩:=a1
   obtain ⟨k2,nm2,s2,b2,kids2⟩:=a2
   obtain ⟨k3,nm3,s3,b3,kids3⟩:=a3
   obtain ⟨k4,nm4,s4,b4,kids4⟩:=a4
   obtain ⟨k5,nm5,s5,b5,kids5⟩:=a5
   obtain ⟨k6,nm6,s6,b6,kids6⟩:=a6
   obtain ⟨k7,nm7,s7,b7,kids7⟩:=a7
   obtain ⟨k8,nm8,s8,b8,kids8⟩:=rest
   obtain ⟨k9,nm9,s9,b9,kids9⟩:=key
   obtain ⟨kI,nmI,sI,bI,kidsI⟩:=I1
   simp only [Tm.nm] at c9 hX z4
   simp only [Cred.cells,Tm.cells,List.cons_append,List.nil_append] at c3 c4 c5 c6 c7 c8 c9 c10 hX x1 x2 x3 x4 x5 x6 x7 x8 hap hj1 ⊢
   have hco:[slV true 1 (strC N4),slV true 1 (strC N5)].all cellOk=true:=by simp only [List.all_cons,List.all_nil,cellOk_slV,Bool.and_self]
   obtain ⟨Y,hY⟩:∃ Y,(nm3 == [121,101,115])=Y:=⟨_,rfl⟩
   have hbi:aBin E0 .eql 9 (.str nm3) (.str [121,101,115])=some (.bool Y):=by
    show some (PV.bool (nm3 == [121,101,115]))=_
    rw [hY]
   rw [hY] at c9 hX z4
   clear hY
   have hbd:=buildC N4 N5
   cases B1 with
   | false =>
     rw [z1 rfl]
     clear z1 z2 z3 z4 hX c6 c7 c8 c9 c10
     repeat' first | refine κn ?_ | refine κk ?_ | (apply qCl;rfl;rfl;rfl;rfl;first | exact c3 _ | exact c4 _ | exact c5 _) | refine κs ?_ | refine κA ?_ | refine κJ ?_ | refine κt ?_ | refine κb ?_ ?_ | refine κg ?_ | refine κa ?_ | refine κf ?_ | intro hb
     all_goals exact hz1 _
   | true =>
     cases B4 with
     | false =>
       rw [z1 rfl]
       clear z1 z2 z3 z4 hX c6 c7 c8 c9 c10
       repeat' first | refine κn ?_ | refine κk ?_ | (apply qCl;rfl;rfl;rfl;rfl;first | exact c3 _ | exact c4 _ | exact c5 _) | refine κs ?_ | refine κA ?_ | refine κJ ?_ | refine κt ?_ | refine κb ?_ ?_ | refine κg ?_ | refine κa ?_ | refine κf ?_ | intro hb
       all_goals exact hz1 _
     | true =>
       cases B5 with
       | false =>
         rw [z1 rfl]
         clear z1 z2 z3 z4 hX c6 c7 c8 c9 c10
         repeat' first | refine κn ?_ | (apply qCl;rfl;rfl;rfl;rfl;first | exact c3 _ | exact c4 _ | exact c5 _) | refine κs ?_ | refine κA ?_ | refine κJ ?_ | refine κt ?_ | refine κg ?_ | refine κa ?_ | refine κf ?_ | fail
         all_goals exact hz1 _
       | true =>
         replace z2:=z2 rfl
         replace z3:=z3 rfl
         replace z4:=z4 rfl
         clear z1
         by_cases he:e=0
         · subst he
           cases R with
           | false =>
             rw [z3 (by simpa using hR)]
             repeat' first | refine κn ?_ | (apply qCl;rfl;rfl;rfl;rfl;first | exact c3 _ | exact c4 _ | exact c5 _ | exact c10 _) | refine κs ?_ | refine κA ?_ | refine κJ ?_ | refine κt ?_ | refine κg ?_ | (apply dCl;rfl;rfl;rfl;rfl;rfl;first | exact c6 _ | exact c7 _ | exact c8 _ | exact c9 _) | (apply dAl;rfl;rfl;rfl;rfl;exact IsV.ptrM;exact IsH.mkN) | refine κD ?_ | (apply dBd;rfl;rfl;rfl;assumption;exact IsV.aggN;rfl) | refine κK ?_ | refine κI ?_ | refine κh ?_ | refine κa ?_ | (apply dWB tOk follows;rfl;kernel_rfl;rfl;exact IsH.mkN) | refine κf ?_ | fail
             all_goals exact hz1 _
           | true =>
             rw [z4 rfl (by simpa using hR)]
             repeat' first | refine κn ?_ | (apply qCl;rfl;rfl;rfl;rfl;first | exact c3 _ | exact c4 _ | exact c5 _ | exact c10 _) | refine κs ?_ | refine κA ?_ | refine κJ ?_ | refine κt ?_ | refine κg ?_ | (apply dCl;rfl;rfl;rfl;rfl;rfl;first | exact c6 _ | exact c7 _ | exact c8 _ | exact c9 _) | (apply dAl;rfl;rfl;rfl;rfl;exact IsV.ptrM;exact IsH.mkN) | refine κD ?_ | (apply dBd;rfl;rfl;rfl;assumption;exact IsV.aggN;rfl) | refine κK ?_ | refine κI ?_ | refine κh ?_ | refine κa ?_ | (apply dWB tOk follows;rfl;kernel_rfl;rfl;exact IsH.mkN) | refine κf ?_ | fail
             all_goals exact hX _ _
         · rw [z2 he]
           repeat' first | refine κn ?_ | refine κk ?_ | (apply qCl;rfl;rfl;rfl;rfl;first | exact c3 _ | exact c4 _ | exact c5 _ | exact c10 _) | refine κs ?_ | refine κA ?_ | refine κJ ?_ | refine κt ?_ | refine κb ?_ ?_ | refine κg ?_ | (apply dCl;rfl;rfl;rfl;rfl;rfl;first | exact c6 _ | exact c7 _ | exact c8 _ | exact c9 _) | (apply dAl;rfl;rfl;rfl;rfl;exact IsV.ptrM;exact IsH.mkN) | refine κD ?_ | (apply dBd;rfl;rfl;rfl;assumption;exact IsV.aggN;rfl) | refine κK ?_ | refine κI ?_ | refine κh ?_ | refine κa ?_ | (apply dWB tOk follows;rfl;kernel_rfl;rfl;exact IsH.mkN) | refine κf ?_ | intro hb
           all_goals first
            | exact hz1 _
            | (exfalso;have h9:= ‹(e != 0)=false›;simp at h9;exact he h9)
end Go.Vm.Seat
namespace Go.Vm.Seat
open Go.Proofs
theorem c7 {t:Tm} (ht:t.Ok):∀ H,CallOk E0 Tryz.prog 7 [.agg t.cells] H (.bool (fewF [t] 1 450)) H:=by
 have hc:∀ H,CallOk E0 Tryz.prog 24 [.sl .full 4 [t.cells],.int .i64 1,.int .i64 450] H (.bool (fewF [t] 1 450)) H:=fun H=>
  callOk_lift (c24 (l:=[t]) (fun x hx=>by rw [List.mem_singleton.1 hx];exact ht) (by simp [maxLen]) true (n:=1) (most:=450) (by decide) (by decide) hNil) (by
   simp only [cellsL]
   rw [slV_cons]
   obtain ⟨k5,m5,s5,b5,q5⟩:=t
   rfl) rfl H
 generalize fewF [t] 1 450=F at hc ⊢
 obtain ⟨k,nm,s,b,kids⟩:=t
 simp only [Tm.cells] at hc
 refine κw tOk fe7.ok rfl ?_
 repeat' first | refine κn ?_ | refine κc (hc _) ?_ | refine κs ?_ | refine κt ?_ | refine κg ?_ | refine κa ?_ | refine κf ?_ | fail
 all_goals rfl
end Go.Vm.Seat
namespace Go.Vm.Seat
open Go.Proofs
end Go.Vm.Seat
namespace Go.Vm.Seat
open Go.Proofs
mutual
def okTm:Tm→Bool
 | .mk k nm s _ kids=>(Lit.int .i64 k).wf && ((Lit.int .i64 s).wf && (Nat.ble nm.length 1000 && (Nat.ble kids.length 1000 && okTmL kids)))
def okTmL:List Tm→Bool
 | []=>true
 | t :: r=>okTm t && okTmL r
end
mutual
theorem okTm_ok:∀ t:Tm,okTm t=true→t.Ok
 | .mk k nm s b kids, h => by
   simp only [okTm,Bool.and_eq_true,Nat.ble_eq] at h
   obtain ⟨h1,h2,h3,h4,h5⟩:=h
   exact .mk h1 h2 (by unfold maxLen;omega) (by unfold maxLen;omega) (okTmL_ok kids h5)
theorem okTmL_ok:∀ l:List Tm,okTmL l=true→∀ t,t∈l→t.Ok
 | [],_,t,h=>absurd h (by simp)
 | a :: r, h, t, ht => by
   simp only [okTmL,Bool.and_eq_true] at h
   rcases List.mem_cons.1 ht with e | ht
   · rw [e];exact okTm_ok a h.1
   · exact okTmL_ok r h.2 t ht
end
end Go.Vm.Seat
namespace Go.Vm.Seat
open Go.Proofs
theorem c66 {t:Tm} (ht:t.Ok) (hsz:t.size≤40000):∀ H,CallOk E0 Tryz.prog 66 [.agg t.cells] H (.tup [.agg (readP t).1.cells,.int .i64 (readP t).2]) H:=by
 by_cases h:t.valid≠0∨t.isB [115,105,103,110] 2=false
 · exact read_bad ht hsz h
 · have h1 : t.valid = 0 := by
     by_cases e:t.valid=0
     · exact e
     · exact absurd (.inl e) h
   have h2:t.isB [115,105,103,110] 2=true:=by
    cases e:t.isB [115,105,103,110] 2 with
    | true=>rfl
    | false=>exact absurd (.inr e) h
   obtain ⟨s,b,u,key,rfl⟩:=sign_isB h2
   exact read_good ht h1
theorem c78 {t:Tm} (ht:t.Ok) (hsz:t.size≤40000):∀ H,CallOk E0 Tryz.prog 78 [.agg t.cells] H (.tup [.agg (readP t).1.cells,.int .i64 (readP t).2]) H:=by
 rw [read_same]
 by_cases h:t.valid≠0∨t.isB [115,105,103,110] 2=false
 · exact readR_bad ht hsz h
 · have h1 : t.valid = 0 := by
     by_cases e:t.valid=0
     · exact e
     · exact absurd (.inl e) h
   have h2:t.isB [115,105,103,110] 2=true:=by
    cases e:t.isB [115,105,103,110] 2 with
    | true=>rfl
    | false=>exact absurd (.inr e) h
   obtain ⟨s,b,u,key,rfl⟩:=sign_isB h2
   exact readR_good ht h1
end Go.Vm.Seat
