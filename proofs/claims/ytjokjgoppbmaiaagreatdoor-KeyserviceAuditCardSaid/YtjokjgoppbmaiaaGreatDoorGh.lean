/-
  Readers of a service: the entry that is looked for, the key that is trusted. Readers of a service: the key that the document's reader trusts.
-/
import Derived.Test.YtjokjgoppbmaiaaGreatDoorGf
set_option maxHeartbeats 64000000
set_option maxRecDepth 100000
namespace Go.Vm.Seat
open Go.Proofs
theorem c38 {t u:Tm} (ht:t.Ok) (hu:u.Ok) (h1:t.size≤1000000) (h2:u.size≤1000000):∀ H,CallOk E0 Tryz.prog 38 [.agg t.cells,.agg u.cells] H (.bool (decide (t.cmp u=0))) H:=by
 have hc:=fun H=>toE0 (d87 ht hu (by omega) (by omega) H)
 generalize t.cmp u=c at hc ⊢
 obtain ⟨k,nm,s,b,kids⟩:=t
 obtain ⟨k',nm',s',b',kids'⟩:=u
 simp only [Tm.cells] at hc ⊢
 refine κw tOk fe38.ok rfl ?_
 repeat' first | refine κn ?_ | refine κc (hc _) ?_ | refine κt ?_ | refine κb ?_ ?_ | refine κg ?_ | refine κa ?_ | refine κf ?_ | intro hb
 all_goals first | rfl | (congr 1;simp_all;done)
theorem credN_cells (name:Bs) (key:Tm) (i t:Int):(credN name key i t).cells= .str name :: (key.cells ++ [.bool false,.nils,.nils,.int .i64 i,.int .i64 0,.int .i64 t]):=by
 simp only [credN,Cred.cells]
 rw [show strC []=([]:List (List PV)) from rfl]
 simp only [slV_nil_true]
theorem buildE (name:Bs) (key:Tm) (i t:Int):aBuild E0 52 [(0,.str name),(1,.agg key.cells),(4,.int .i64 i),(6,.int .i64 t)]=some (.agg (credN name key i t).cells):=by
 rw [credN_cells]
 obtain ⟨k,nm,s,b,kids⟩:=key
 rfl
theorem frz3_credA (m:Nat) (H:Heap) (x:Cred):frz3 m H (.agg x.cells)=some (.agg x.cells):=frz2_cred m H x
theorem c80 (name:Bs) (key:Tm) (i t:Int):∀ H,CallOk E0 Tryz.prog 80 [.str name,.agg key.cells,.int .i64 i,.int .i64 t] H (.agg (credN name key i t).cells) H:=by
 have hb:=buildE name key i t
 have hfr:=frz3_credA 0 hNil (credN name key i t)
 have hft:=fun m H=>frz3_credA m H (credN name key i t)
 rw [credN_cells] at hb hfr hft ⊢
 obtain ⟨k2,nm2,s2,b2,kids2⟩:=key
 simp only [Tm.cells,List.cons_append,List.nil_append] at hb hfr hft ⊢
 refine κw tOk fe80.ok hfr ?_
 repeat' first | refine κn ?_ | (apply qBd;rfl;rfl;rfl;assumption;exact IsV.aggN) | refine κg ?_ | refine κa ?_ | refine κf ?_ | fail
 all_goals exact hft _ _
theorem frz3_tb (m:Nat) (H:Heap) (t:Tm) (b:Bool):frz3 m H (.tup [.agg t.cells,.bool b])=some (.tup [.agg t.cells,.bool b]):=by
 have h:frz2 m H (.agg t.cells)=some (.agg t.cells):=frz3_cells m H t
 show (match frz2L m H [.agg t.cells,.bool b] with | some vs'=>some (PV.tup vs') | none=>none)=_
 simp only [frz2L,h]
 rfl
theorem size_kid {k:Int} {nm:Bs} {s:Int} {b:Bool} {x:Tm}:(Tm.mk k nm s b [x]).size=x.size+1:=by simp only [Tm.size,sizeL];omega
theorem kid_ok {k:Int} {nm:Bs} {s:Int} {b:Bool} {x:Tm} (h:(Tm.mk k nm s b [x]).Ok):x.Ok:=by
 cases h with
 | mk _ _ _ _ hk=>exact hk x (by simp)
theorem lenM (l:List Tm):aBin E0 .gtr 3 (.int .i64 ((cellsL l).length:Int)) (.int .i64 0)=some (.bool (decide (l≠ []))):=by
 show some (PV.bool (decide ((0:Int) < ((cellsL l).length:Int))))=_
 rw [cellsL_length]
 congr 2
 cases l <;> simp
theorem erq_t {a:Int} (h:a=0):aBin E0 .eql 31 (.int .i64 a) (.int .i64 0)=some (.bool true):=by
 show some (PV.bool (a == 0))=_
 rw [h,beq_self_eq_true]
theorem erq_f {a:Int} (h:a≠0):aBin E0 .eql 31 (.int .i64 a) (.int .i64 0)=some (.bool false):=by
 show some (PV.bool (a == 0))=_
 rw [beq_eq_false_iff_ne.2 h]
theorem keyB_bad (f:Tm→Tm) {c:Rd} (h:svcB c.svc=false):keyB f c=false:=by simp only [keyB,h,Bool.false_and]
theorem c37 {c:Rd} (hc:RdOk 20000 c):∃ x:Tm,(keyB Tm.cl c=true→x=kid0 c.svc)∧∀ H,CallOk E0 Tryz.prog 37 [.agg c.cells] H (.tup [.agg x.cells,.bool (keyB Tm.cl c)]) H:=by
 obtain ⟨svc,n,h,sg⟩:=c
 obtain ⟨⟨o1,z1⟩,⟨o2,z2⟩,o3,z3⟩:=hc
 simp only [] at o1 z1 o2 z2 o3 z3
 have hF:=c84 o1 (by omega)
 obtain ⟨M,hM,hV⟩:=c85 o1 (by omega)
 have hMl:=lenM M
 have hg:svc.ground=decide (M= []):=by
  unfold Tm.ground
  cases h:kndL 1 svc.all with
  | nil=>rw [hM.2 h];rfl
  | cons a r =>
    have h2:M≠ []:=fun e=>by rw [hM.1 e] at h;cases h
    simp [h2]
 by_cases hb:svcB svc=true
 · simp only [svcB, Bool.and_eq_true, decide_eq_true_eq] at hb
   obtain ⟨⟨hb1,⟨hb2,hb3⟩,hb4⟩,hb5⟩:=hb
   obtain ⟨s,b,x,rfl⟩:=svc_kid hb1 hb3
   have hx:=kid_ok o1
   rw [size_kid] at z1
   have hsv:svcB (.mk 3 [112,107] s b [x])=true:=by
    simp only [svcB,Bool.and_eq_true,decide_eq_true_eq]
    exact ⟨⟨hb1,⟨hb2,hb3⟩,hb4⟩,hb5⟩
   rw [hb5] at hg
   obtain rfl:M= []:=of_decide_eq_true hg.symm
   have hFt:(decide ((Tm.mk 3 [112,107] s b [x]).valid=0∧(Tm.mk 3 [112,107] s b [x]).th=0) && (Tm.mk 3 [112,107] s b [x]).fre)=true:=by rw [decide_eq_true ⟨hb2,hb3⟩,hb4];rfl
   rw [hFt] at hF
   have hj:(cellsL [x])[0]? = some x.cells:=rfl
   have hln:(cellsL [x]).length=1:=rfl
   have hk0:kid0 (.mk 3 [112,107] s b [x])=x:=rfl
   have hft:=fun m H b=>frz3_tb m H x b
   have hfz:∀ b,frz3 0 hNil (.tup [.agg Tm.zero.cells,.bool b])=some (.tup [.agg Tm.zero.cells,.bool b]):=fun b=>frz3_tb 0 hNil _ b
   clear hb1 hb2 hb3 hb4 hb5 hg hM hMl hFt
   simp only [cellsL,slV_nil_true] at hV
   by_cases hn:n=0
   · subst hn
     have q1:=zeroP h
     have q2:=zeroP sg
     have e:keyB Tm.cl ⟨.mk 3 [112,107] s b [x],0,h,sg⟩=(zeroB h && zeroB sg):=by
      simp only [keyB,hsv,Bool.true_and,if_true]
     refine ⟨x,fun _=>hk0.symm,?_⟩
     rw [e]
     generalize zeroB h=B1 at q1 ⊢
     generalize zeroB sg=B2 at q2 ⊢
     have hfr:=hft 0 hNil (B1 && B2)
     clear e hsv o1 o2 o3 z1 z2 z3 hx hk0
     simp only [Rd.cells,Tm.cells] at hF hV ⊢
     generalize cellsL [x]=L at hF hV hj hln ⊢
     obtain ⟨k1,nm1,s1,b1,kids1⟩:=x
     obtain ⟨k2,nm2,s2,b2,kids2⟩:=h
     obtain ⟨k3,nm3,s3,b3,kids3⟩:=sg
     simp only [Tm.cells,List.cons_append,List.nil_append] at q1 q2 hj hft hfr ⊢
     cases B1 <;> cases B2
     all_goals
      refine callOk_wp (own:=fun d=>Nat.beq d 30013) tOk fe37.ok (by simp only [frzGL,frzG,frzL,frz1_slV];rfl) hfr ?_
      refine Wp.seq ?_
      repeat' first | refine κn ?_ | refine κc (hF _) ?_ | refine κc (hV _) ?_ | refine κt ?_ | refine κg ?_ | (apply dK;rfl;rfl;rfl) | refine κd (q1 _) ?_ | refine κd (q2 _) ?_ | refine κI ?_ | (apply dT (ty:=4);rfl;rfl;rfl;rfl) | (apply dF (ty:=4);rfl;rfl;rfl;rfl) | refine κh ?_ | refine κa ?_ | (apply dWS tOk follows;rfl;kernel_rfl;rfl) | refine κf ?_ | fail
     all_goals first
      | exact hft _ _ _
      | (exfalso;rw [hln] at hb;simp at hb;done)
   · have en := eql0_f hn
     by_cases hr:n < 1∨32 < n
     · have e : keyB Tm.cl ⟨.mk 3 [112, 107] s b [x], n, h, sg⟩ = false := by
         simp only [keyB,hsv,Bool.true_and,if_neg hn,if_pos hr]
       refine ⟨.zero,(by intro hq;rw [e] at hq;cases hq),?_⟩
       rw [e]
       have hfr:=hfz false
       clear e hsv o1 o2 o3 z1 z2 z3 hx hk0
       simp only [Rd.cells,Tm.cells] at hF hV ⊢
       generalize cellsL [x]=L at hF hV hj hln ⊢
       obtain ⟨k1,nm1,s1,b1,kids1⟩:=x
       obtain ⟨k2,nm2,s2,b2,kids2⟩:=h
       obtain ⟨k3,nm3,s3,b3,kids3⟩:=sg
       simp only [Tm.cells,List.cons_append,List.nil_append] at hj hft ⊢
       by_cases h1:n < 1
       · have e1 := lss_t h1
         refine callOk_wp (own:=fun d=>Nat.beq d 30013) tOk fe37.ok (by simp only [frzGL,frzG,frzL,frz1_slV];rfl) hfr ?_
         refine Wp.seq ?_
         repeat' first | refine κn ?_ | refine κk ?_ | refine κc (hF _) ?_ | refine κc (hV _) ?_ | refine κi ?_ | refine κt ?_ | refine κg ?_ | refine κa ?_ | refine κf ?_ | fail
         all_goals (rw [zero_cells];rfl)
       · have e1 := lss_f h1
         have e2:=gtr_t (a:=n) (b:=32) (by omega)
         refine callOk_wp (own:=fun d=>Nat.beq d 30013) tOk fe37.ok (by simp only [frzGL,frzG,frzL,frz1_slV];rfl) hfr ?_
         refine Wp.seq ?_
         repeat' first | refine κn ?_ | refine κc (hF _) ?_ | refine κc (hV _) ?_ | refine κi ?_ | refine κt ?_ | refine κg ?_ | refine κa ?_ | refine κf ?_ | fail
         all_goals (rw [zero_cells];rfl)
     · have e1 := lss_f (a := n) (b := 1) (by omega)
       have e2:=gtr_f (a:=n) (b:=32) (by omega)
       have cs:=c63 o2 (by omega) hx (by omega) n
       have hso:=sign_ok Tm.cl (fun t ht=>⟨ok_clT ht,cl_size t⟩) n o2 hx
       have cq:=c38 hso.1 o3 (by omega) (by omega)
       have e:keyB Tm.cl ⟨.mk 3 [112,107] s b [x],n,h,sg⟩=(decide ((signG Tm.cl h n x).2=0) && decide ((signG Tm.cl h n x).1.cmp sg=0)):=by
        simp only [keyB,hsv,Bool.true_and,if_neg hn,if_neg hr]
        rfl
       refine ⟨x,fun _=>hk0.symm,?_⟩
       rw [e]
       clear e hsv hso
       generalize signG Tm.cl h n x=S at cs cq ⊢
       obtain ⟨S,e'⟩:=S
       simp only [] at cs cq ⊢
       generalize decide (S.cmp sg=0)=D at cq ⊢
       have hfr:=hft 0 hNil (decide (e'=0) && D)
       clear o1 o2 o3 z1 z2 z3 hx hk0
       simp only [Rd.cells,Tm.cells] at hF hV ⊢
       generalize cellsL [x]=L at hF hV hj hln ⊢
       obtain ⟨k1,nm1,s1,b1,kids1⟩:=x
       obtain ⟨k2,nm2,s2,b2,kids2⟩:=h
       obtain ⟨k3,nm3,s3,b3,kids3⟩:=sg
       obtain ⟨k4,nm4,s4,b4,kids4⟩:=S
       simp only [Tm.cells,List.cons_append,List.nil_append] at cs cq hj hft hfr ⊢
       by_cases he:e'=0
       · have e3 := erq_t he
         rw [decide_eq_true he] at hfr ⊢
         refine callOk_wp (own:=fun d=>Nat.beq d 30013) tOk fe37.ok (by simp only [frzGL,frzG,frzL,frz1_slV];rfl) hfr ?_
         refine Wp.seq ?_
         repeat' first | refine κn ?_ | refine κc (hF _) ?_ | refine κc (hV _) ?_ | refine κi ?_ | refine κt ?_ | refine κg ?_ | refine κd (cs _) ?_ | refine κd (cq _) ?_ | (apply dAl;rfl;rfl;rfl;rfl;exact IsV.ptrM;exact IsH.mkN) | refine κD ?_ | refine κI ?_ | (apply dT (ty:=4);rfl;rfl;rfl;rfl) | refine κh ?_ | refine κa ?_ | (apply dWS tOk follows;rfl;kernel_rfl;rfl) | (apply dWB tOk follows;rfl;kernel_rfl;rfl;exact IsH.mkN) | refine κf ?_ | fail
         all_goals first
          | exact hft _ _ _
          | (exfalso;rw [hln] at hb;simp at hb;done)
       · have e3 := erq_f he
         rw [decide_eq_false he] at hfr ⊢
         refine callOk_wp (own:=fun d=>Nat.beq d 30013) tOk fe37.ok (by simp only [frzGL,frzG,frzL,frz1_slV];rfl) hfr ?_
         refine Wp.seq ?_
         repeat' first | refine κn ?_ | refine κc (hF _) ?_ | refine κc (hV _) ?_ | refine κi ?_ | refine κt ?_ | refine κg ?_ | (apply dK;rfl;rfl;rfl) | refine κd (cs _) ?_ | (apply dAl;rfl;rfl;rfl;rfl;exact IsV.ptrM;exact IsH.mkN) | refine κD ?_ | refine κI ?_ | (apply dF (ty:=4);rfl;rfl;rfl;rfl) | refine κh ?_ | refine κa ?_ | (apply dWS tOk follows;rfl;kernel_rfl;rfl) | (apply dWB tOk follows;rfl;kernel_rfl;rfl;exact IsH.mkN) | refine κf ?_ | fail
         all_goals first
          | exact hft _ _ _
          | (exfalso;rw [hln] at hb;simp at hb;done)
 · have hb : svcB svc = false := by simpa using hb
   have e:=keyB_bad Tm.cl (c:=⟨svc,n,h,sg⟩) hb
   refine ⟨.zero,(by intro hq;rw [e] at hq;cases hq),?_⟩
   rw [e]
   clear e
   have hfr:frz3 0 hNil (.tup [.agg Tm.zero.cells,.bool false])=some (.tup [.agg Tm.zero.cells,.bool false]):=frz3_tb 0 hNil _ _
   simp only [svcB,hg] at hb
   generalize (decide (svc.valid=0∧svc.th=0) && svc.fre)=F at hF hb
   generalize cellsL M=LM at hV hMl
   clear hM hg o1 o2 o3 z1 z2 z3
   obtain ⟨k,nm,s,b,kids⟩:=svc
   obtain ⟨k2,nm2,s2,b2,kids2⟩:=h
   obtain ⟨k3,nm3,s3,b3,kids3⟩:=sg
   simp only [Rd.cells,Tm.cells,List.cons_append,List.nil_append] at hF hV ⊢
   by_cases h1:k=3
   · subst h1
     by_cases h2:nm= [112,107]
     · subst h2
       have hb:(F && decide (M= []))=false:=by simpa [pkB] using hb
       cases F with
       | false =>
         refine callOk_wp (own:=fun d=>Nat.beq d 30013) tOk fe37.ok (by simp only [frzGL,frzG,frzL,frz1_slV];rfl) hfr ?_
         refine Wp.seq ?_
         repeat' first | refine κn ?_ | refine κk ?_ | refine κc (hF _) ?_ | refine κt ?_ | refine κg ?_ | refine κa ?_ | refine κf ?_ | fail
         all_goals (rw [zero_cells];rfl)
       | true =>
         have hb:¬ M= []:=by simpa using hb
         rw [decide_eq_true hb] at hMl
         obtain ⟨c0,r0,rfl⟩:∃ c0 r0,LM=c0 :: r0:=by
          cases LM with
          | nil=>exact absurd hMl (by intro h;cases (show some (PV.bool false)=some (PV.bool true) from h))
          | cons c0 r0=>exact ⟨_,_,rfl⟩
         rw [slV_cons] at hV
         refine callOk_wp (own:=fun d=>Nat.beq d 30013) tOk fe37.ok (by simp only [frzGL,frzG,frzL,frz1_slV];rfl) hfr ?_
         refine Wp.seq ?_
         repeat' first | refine κn ?_ | refine κc (hF _) ?_ | refine κc (hV _) ?_ | refine κi ?_ | refine κt ?_ | refine κg ?_ | refine κa ?_ | refine κf ?_ | fail
         all_goals (rw [zero_cells];rfl)
     · have e2 := neqS_t h2
       refine callOk_wp (own:=fun d=>Nat.beq d 30013) tOk fe37.ok (by simp only [frzGL,frzG,frzL,frz1_slV];rfl) hfr ?_
       refine Wp.seq ?_
       repeat' first | refine κn ?_ | refine κk ?_ | refine κi ?_ | refine κt ?_ | refine κg ?_ | refine κa ?_ | refine κf ?_ | fail
       all_goals (rw [zero_cells];rfl)
   · have e1 := neq0_t h1
     refine callOk_wp (own:=fun d=>Nat.beq d 30013) tOk fe37.ok (by simp only [frzGL,frzG,frzL,frz1_slV];rfl) hfr ?_
     refine Wp.seq ?_
     repeat' first | refine κn ?_ | refine κk ?_ | refine κi ?_ | refine κt ?_ | refine κg ?_ | refine κa ?_ | refine κf ?_ | fail
     all_goals (rw [zero_cells];rfl)
end Go.Vm.Seat
namespace Go.Vm.Seat
open Go.Proofs
theorem pk_isF (k:Int) (nm:Bs) (s:Int) (b:Bool) (kids:List Tm):pkB (.mk k nm s b kids)=isF k nm [112,107]:=rfl
theorem c43 {c:Rd} (hc:RdOk 20000 c):∃ x:Tm,(keyB id c=true→x=kid0 c.svc)∧∀ H,CallOk E0 Tryz.prog 43 [.agg c.cells] H (.tup [.agg x.cells,.bool (keyB id c)]) H:=by
 obtain ⟨svc,n,h,sg⟩:=c
 obtain ⟨⟨o1,z1⟩,⟨o2,z2⟩,o3,z3⟩:=hc
 simp only [] at o1 z1 o2 z2 o3 z3
 have hF:=c92 o1 (by omega)
 have hG:=c93 o1 (by omega)
 by_cases hb:svcB svc=true
 · simp only [svcB, Bool.and_eq_true, decide_eq_true_eq] at hb
   obtain ⟨⟨hb1,⟨hb2,hb3⟩,hb4⟩,hb5⟩:=hb
   obtain ⟨s,b,x,rfl⟩:=svc_kid hb1 hb3
   have hx:=kid_ok o1
   rw [size_kid] at z1
   have hsv:svcB (.mk 3 [112,107] s b [x])=true:=by
    simp only [svcB,Bool.and_eq_true,decide_eq_true_eq]
    exact ⟨⟨hb1,⟨hb2,hb3⟩,hb4⟩,hb5⟩
   have hFt:(decide ((Tm.mk 3 [112,107] s b [x]).valid=0∧(Tm.mk 3 [112,107] s b [x]).th=0) && (Tm.mk 3 [112,107] s b [x]).fre)=true:=by rw [decide_eq_true ⟨hb2,hb3⟩,hb4];rfl
   rw [hFt] at hF
   rw [hb5] at hG
   have hI:∀ H,CallOk E0 Tryz.prog 94 [.agg (Tm.mk 3 [112,107] s b [x]).cells,.str [112,107]] H (.bool true) H:=c94 3 [112,107] s b [x] [112,107]
   have hj:(cellsL [x])[0]? = some x.cells:=rfl
   have hln:(cellsL [x]).length=1:=rfl
   have hk0:kid0 (.mk 3 [112,107] s b [x])=x:=rfl
   have hft:=fun m H b=>frz3_tb m H x b
   clear hb1 hb2 hb3 hb4 hb5 hFt
   by_cases hn:n=0
   · subst hn
     have q1:=zeroR h
     have q2:=zeroR sg
     have e:keyB id ⟨.mk 3 [112,107] s b [x],0,h,sg⟩=(zeroB h && zeroB sg):=by
      simp only [keyB,hsv,Bool.true_and,if_true]
     refine ⟨x,fun _=>hk0.symm,?_⟩
     rw [e]
     generalize zeroB h=B1 at q1 ⊢
     generalize zeroB sg=B2 at q2 ⊢
     have hfr:=hft 0 hNil (B1 && B2)
     clear e hsv o1 o2 o3 z1 z2 z3 hx hk0
     simp only [Rd.cells,Tm.cells] at hF hG hI ⊢
     generalize cellsL [x]=L at hF hG hI hj hln ⊢
     obtain ⟨k1,nm1,s1,b1,kids1⟩:=x
     obtain ⟨k2,nm2,s2,b2,kids2⟩:=h
     obtain ⟨k3,nm3,s3,b3,kids3⟩:=sg
     simp only [Tm.cells,List.cons_append,List.nil_append] at q1 q2 hj hft hfr ⊢
     cases B1 <;> cases B2
     all_goals
      refine κw tOk fe43.ok hfr ?_
      repeat' first | refine κn ?_ | (apply qCl;rfl;rfl;rfl;rfl;first | exact hF _ | exact hG _ | exact hI _) | refine κx ?_ | refine κt ?_ | refine κg ?_ | (apply dK;rfl;rfl;rfl) | refine κd (q1 _) ?_ | refine κd (q2 _) ?_ | (apply dT (ty:=4);rfl;rfl;rfl;rfl) | (apply dF (ty:=4);rfl;rfl;rfl;rfl) | refine κh ?_ | refine κa ?_ | (apply Wp.drawS tOk follows;kernel_rfl;rfl) | refine κf ?_ | fail
     all_goals first
      | exact hft _ _ _
      | (exfalso;rw [hln] at hb;simp at hb;done)
   · have en := eql0_f hn
     by_cases hr:n < 1∨32 < n
     · have e : keyB id ⟨.mk 3 [112, 107] s b [x], n, h, sg⟩ = false := by
         simp only [keyB,hsv,Bool.true_and,if_neg hn,if_pos hr]
       refine ⟨x,fun _=>hk0.symm,?_⟩
       rw [e]
       have hfr:=hft 0 hNil false
       clear e hsv o1 o2 o3 z1 z2 z3 hx hk0
       simp only [Rd.cells,Tm.cells] at hF hG hI ⊢
       generalize cellsL [x]=L at hF hG hI hj hln ⊢
       obtain ⟨k1,nm1,s1,b1,kids1⟩:=x
       obtain ⟨k2,nm2,s2,b2,kids2⟩:=h
       obtain ⟨k3,nm3,s3,b3,kids3⟩:=sg
       simp only [Tm.cells,List.cons_append,List.nil_append] at hj hft hfr ⊢
       by_cases h1:n < 1
       · have e1 := lss_t h1
         refine κw tOk fe43.ok hfr ?_
         repeat' first | refine κn ?_ | refine κk ?_ | (apply qCl;rfl;rfl;rfl;rfl;first | exact hF _ | exact hG _ | exact hI _) | refine κi ?_ | refine κx ?_ | refine κt ?_ | refine κg ?_ | refine κa ?_ | refine κf ?_ | fail
         all_goals first
          | exact hft _ _ _
          | (exfalso;rw [hln] at hb;simp at hb;done)
       · have e1 := lss_f h1
         have e2:=gtr_t (a:=n) (b:=32) (by omega)
         refine κw tOk fe43.ok hfr ?_
         repeat' first | refine κn ?_ | (apply qCl;rfl;rfl;rfl;rfl;first | exact hF _ | exact hG _ | exact hI _) | refine κi ?_ | refine κx ?_ | refine κt ?_ | refine κg ?_ | refine κa ?_ | refine κf ?_ | fail
         all_goals first
          | exact hft _ _ _
          | (exfalso;rw [hln] at hb;simp at hb;done)
     · have e1 := lss_f (a := n) (b := 1) (by omega)
       have e2:=gtr_f (a:=n) (b:=32) (by omega)
       have cs:=c81 o2 (by omega) hx (by omega) n
       have hso:=sign_ok id (fun t ht=>⟨ht,rfl⟩) n o2 hx
       have cq:=c15 hso.1 o3 (by omega) (by omega)
       have e:keyB id ⟨.mk 3 [112,107] s b [x],n,h,sg⟩=(decide ((signG id h n x).2=0) && decide ((signG id h n x).1.cmp sg=0)):=by
        simp only [keyB,hsv,Bool.true_and,if_neg hn,if_neg hr]
        rfl
       refine ⟨x,fun _=>hk0.symm,?_⟩
       rw [e]
       clear e hsv hso
       generalize signG id h n x=S at cs cq ⊢
       obtain ⟨S,e'⟩:=S
       simp only [] at cs cq ⊢
       generalize decide (S.cmp sg=0)=D at cq ⊢
       have hfr:=hft 0 hNil (decide (e'=0) && D)
       clear o1 o2 o3 z1 z2 z3 hx hk0
       simp only [Rd.cells,Tm.cells] at hF hG hI ⊢
       generalize cellsL [x]=L at hF hG hI hj hln ⊢
       obtain ⟨k1,nm1,s1,b1,kids1⟩:=x
       obtain ⟨k2,nm2,s2,b2,kids2⟩:=h
       obtain ⟨k3,nm3,s3,b3,kids3⟩:=sg
       obtain ⟨k4,nm4,s4,b4,kids4⟩:=S
       simp only [Tm.cells,List.cons_append,List.nil_append] at cs cq hj hft hfr ⊢
       by_cases he:e'=0
       · have e3 := erq_t he
         rw [decide_eq_true he] at hfr ⊢
         refine κw tOk fe43.ok hfr ?_
         repeat' first | refine κn ?_ | (apply qCl;rfl;rfl;rfl;rfl;first | exact hF _ | exact hG _ | exact hI _ | exact cs _) | refine κi ?_ | refine κx ?_ | refine κt ?_ | refine κg ?_ | refine κd (cq _) ?_ | refine κD ?_ | (apply dT (ty:=4);rfl;rfl;rfl;rfl) | refine κh ?_ | refine κa ?_ | (apply Wp.drawS tOk follows;kernel_rfl;rfl) | refine κf ?_ | fail
         all_goals first
          | exact hft _ _ _
          | (exfalso;rw [hln] at hb;simp at hb;done)
       · have e3 := erq_f he
         rw [decide_eq_false he] at hfr ⊢
         refine κw tOk fe43.ok hfr ?_
         repeat' first | refine κn ?_ | (apply qCl;rfl;rfl;rfl;rfl;first | exact hF _ | exact hG _ | exact hI _ | exact cs _) | refine κi ?_ | refine κx ?_ | refine κt ?_ | refine κg ?_ | (apply dK;rfl;rfl;rfl) | refine κD ?_ | (apply dF (ty:=4);rfl;rfl;rfl;rfl) | refine κh ?_ | refine κa ?_ | (apply Wp.drawS tOk follows;kernel_rfl;rfl) | refine κf ?_ | fail
         all_goals first
          | exact hft _ _ _
          | (exfalso;rw [hln] at hb;simp at hb;done)
 · have hb : svcB svc = false := by simpa using hb
   have e:=keyB_bad id (c:=⟨svc,n,h,sg⟩) hb
   refine ⟨.zero,(by intro hq;rw [e] at hq;cases hq),?_⟩
   rw [e]
   clear e
   have hfr:frz3 0 hNil (.tup [.agg Tm.zero.cells,.bool false])=some (.tup [.agg Tm.zero.cells,.bool false]):=frz3_tb 0 hNil _ _
   simp only [svcB] at hb
   generalize (decide (svc.valid=0∧svc.th=0) && svc.fre)=F at hF hb
   generalize svc.ground=G at hG hb
   clear o1 o2 o3 z1 z2 z3
   obtain ⟨k,nm,s,b,kids⟩:=svc
   have hI:=c94 k nm s b kids [112,107]
   rw [pk_isF] at hb
   generalize isF k nm [112,107]=I at hb hI
   obtain ⟨k2,nm2,s2,b2,kids2⟩:=h
   obtain ⟨k3,nm3,s3,b3,kids3⟩:=sg
   simp only [Rd.cells,Tm.cells,List.cons_append,List.nil_append] at hF hG ⊢
   cases F <;> cases G <;> cases I
   case true.true.true=>cases hb
   all_goals
    clear hb
    refine κw tOk fe43.ok hfr ?_
    repeat' first | refine κn ?_ | refine κk ?_ | (apply qCl;rfl;rfl;rfl;rfl;first | exact hF _ | exact hG _ | exact hI _) | refine κt ?_ | refine κg ?_ | refine κa ?_ | refine κf ?_ | fail
   all_goals (rw [zero_cells];rfl)
end Go.Vm.Seat
