/-
  A service with one more entry, as the document makes it. The changes of a service, as the document makes them.
-/
import Derived.Test.YtjokjgoppbmaiaaGreatDoorHg
set_option maxHeartbeats 64000000
set_option maxRecDepth 100000
namespace Go.Vm.Seat
open Go.Proofs
def addO (s:Sv) (t:Tm):Sv:=⟨s.name,s.key,false,s.log ++ [t],true,keysF (s.log ++ [t]) (s.log ++ [t]).length⟩
def addF (s:Sv) (x:Cred):Sv×Int:=if (x.issue s.key).2≠0 then (svZero,3) else if svV (addO s (x.issue s.key).1)≠0 then (svZero,3) else (addO s (x.issue s.key).1,0)
theorem addO_ok {s:Sv} (h:SvOk s) (hl:s.log.length≤32) {t:Tm} (ht:t.Ok) (hts:t.size≤900):SvOk (addO s t):=by
 have hm:∀ u,u∈s.log ++ [t]→u.Ok∧u.size≤900:=fun u hu=>by
  simp only [List.mem_append,List.mem_singleton] at hu
  rcases hu with hu | rfl
  · exact ⟨h.l u hu,h.ls u hu⟩
  · exact ⟨ht,hts⟩
 have hk:=keysF_len (s.log ++ [t]) (s.log ++ [t]).length
 have h1:(s.log ++ [t]).length=s.log.length+1:=by simp
 exact ⟨h.n,h.k,h.ks,fun u hu=>(hm u hu).1,fun u hu=>(hm u hu).2,by show (s.log ++ [t]).length≤40;omega,keysF_ok (by omega) hm _,by show (keysF _ _).length≤1000;omega⟩
theorem frzSvC (s:Sv) (x:Cred):frzGL [.agg s.cells,.agg x.cells]=some [.agg s.cells,.agg x.cells]:=by
 obtain ⟨name,⟨k,nm,z,b,kids⟩,lb,log,kb,keys⟩:=s
 obtain ⟨sub,⟨k8,nm8,s8,b8,kids8⟩,iss,pn,per,en',exc,ser,fr,till⟩:=x
 simp only [Sv.cells,Cred.cells,Tm.cells,List.cons_append,List.nil_append,frzGL,frzG,frzL,frz1_slV]
 rfl
theorem buildSv3 (name:Bs) (k:Tm) (o:PV) (h:cellOk o=true):aBuild E0 62 [(0,.str name),(1,.agg k.cells),(2,o)]=some (.agg (.str name :: (k.cells ++ [o,.nils]))):=by
 obtain ⟨kk,nm,z,b,kids⟩:=k
 cases o <;> first | rfl | cases h
theorem apv_sl {L:List (List PV)} {o:PV} {lv:List Nat} {nt:Nat} (h:ApV false 4 L o lv nt):∃ tl,o= .sl tl 4 L:=by
 cases h with
 | nil _ _ h=>cases h
 | full _ _ _ _=>exact ⟨_,rfl⟩
 | tok _ k _ _ _ _ _ _=>exact ⟨_,rfl⟩
theorem slV_or4 (b:Bool) (n:Nat) (L:List (List PV)):slV b n L= .nils∨slV b n L= .sl .none n L:=by
 cases L with
 | nil =>
   cases b
   · exact .inr (slV_false _ _)
   · exact .inl (slV_nil_true _)
 | cons a r=>exact .inr (slV_cons _ _ _ _)
theorem frz3_svT (m : Nat) (H : Heap) {sn nm : Bs} {k z e : Int} {b : Bool} {Q L : List (List PV)} {tl : Tail} {W : PV} {K : List (List PV)} (hW : W = .nils ∨ W = .sl .none 6 K) :
  frz3 m H (.tup [.agg [.str sn,.int .i64 k,.str nm,.int .i64 z,slV b 4 Q,.sl tl 4 L,W],.int .i64 e])=some (.tup [.agg [.str sn,.int .i64 k,.str nm,.int .i64 z,slV b 4 Q,slV false 4 L,W],.int .i64 e]):=by
 rw [slV_false]
 rcases hW with rfl | rfl <;> rcases slV_or4 b 4 Q with h | h <;> rw [h] <;> rfl
theorem slV_or (b:Bool) (K:List En):slV b 6 (enC K)= .nils∨slV b 6 (enC K)= .sl .none 6 (enC K):=by
 cases K with
 | nil =>
   cases b
   · exact .inr (slV_false _ _)
   · exact .inl (slV_nil_true _)
 | cons a r=>exact .inr (slV_cons _ _ _ _)
theorem c213 {s:Sv} (h:SvOk s) (hl:s.log.length≤32) {name:Bs} {key:Tm} (hn:name.length≤1000) (hk:key.Ok) (hks:key.size≤700) (hs2:s.key.size≤50) (i t:Int):∀ H,CallOk E0 Tryz.prog 213 [.agg s.cells,.agg (credN name key i t).cells] H (.tup [.agg (addF s (credN name key i t)).1.cells,.int .i64 (addF s (credN name key i t)).2]) H:=by
 have ci:=c79 (credN name key i t) (key:=s.key) (by simp only [credN];omega) (by simp [credN]) (by simp [credN]) (by simp [credN]) (by simp [credN]) hk (by simp only [credN];omega) h.k (by have:=h.ks;omega)
 have hio:=issue_small (x:=credN name key i t) (key:=s.key) hk h.k
 have hio2:((credN name key i t).issue s.key).1.size≤900:=by
  have:=hio.2
  simp only [credN] at this ⊢
  omega
 have hO:=addO_ok h hl hio.1 hio2
 have cv:=c73 hO
 have ck:=c150 (l:=s.log ++ [((credN name key i t).issue s.key).1]) hO.l hO.ls hO.ll false
 have hfz:=frzSvC s (credN name key i t)
 have hA0:ApV false 4 (cellsL []) (.sl .full 4 []) [] 0:= .full [] _ _ rfl rfl
 obtain ⟨o1,lv1,nt1,a1,A1, -⟩:=hA0.app apT_tm (.slV s.lb 4 (cellsL s.log)) (cellsL_cellOk _) (fits_of (by simp only [cellsL_length,List.length_nil];omega) (by decide)) (noB_cellsL _)
 rw [← cellsL_append,List.nil_append] at A1
 obtain ⟨o2,lv2,nt2,a2,A2, -⟩:=A1.app apT_tm (.sl .full 4 (cellsL [((credN name key i t).issue s.key).1])) (cellsL_cellOk _) (fits_of (by simp only [cellsL_length,List.length_cons,List.length_nil];omega) (by decide)) (noB_cellsL _)
 rw [← cellsL_append] at A2
 obtain ⟨tl,rfl⟩:=apv_sl A2
 have hbd:=buildSv3 s.name s.key (.sl tl 4 (cellsL (s.log ++ [((credN name key i t).issue s.key).1]))) rfl
 unfold addF
 have e1:=err_eq ((credN name key i t).issue s.key).2
 have e2:=err_eq (svV (addO s ((credN name key i t).issue s.key).1))
 have hfr3:=fun m H=>frz3_svI m H svZero 3
 have hfr0:=fun m H=>frz3_svI m H (addO s ((credN name key i t).issue s.key).1) 0
 rw [svZero_cells] at hfr3
 unfold addO at cv e2 hfr0 ⊢
 rw [credN_cells] at ci hfz ⊢
 clear hio hio2 hO hA0 A1 A2 h hl hn hk hks hs2
 generalize (credN name key i t).issue s.key=I at ci cv ck a2 hbd e1 e2 hfr0 ⊢
 obtain ⟨T,e⟩:=I
 obtain ⟨sn,⟨k,nm,z,b,kids⟩,lb,log,kb,keys⟩:=s
 simp only [] at ci cv ck a1 a2 hbd e1 e2 hfr0 ⊢
 generalize keysF (log ++ [T]) (log ++ [T]).length=K at cv ck e2 hfr0 ⊢
 generalize svV (Sv.mk sn (.mk k nm z b kids) false (log ++ [T]) true K)=V at cv e2 ⊢
 have cvf:∀ H,CallOk E0 Tryz.prog 73 [.agg [.str sn,.int .i64 k,.str nm,.int .i64 z,slV b 4 (cellsL kids),.sl tl 4 (cellsL (log ++ [T])),slV true 6 (enC K)]] H (.int .i64 V) H:=fun H=>by
  refine callOk_frz (cv H) ?_
  simp only [Sv.cells,Tm.cells,List.cons_append,List.nil_append,frzGL,frzG,frzL,frz1_slV,slV_false]
  rfl
 have ckf:∀ H,CallOk E0 Tryz.prog 150 [.sl tl 4 (cellsL (log ++ [T]))] H (slV true 6 (enC K)) H:=fun H=>by
  refine callOk_frz (ck H) ?_
  simp only [slV_false]
  rfl
 clear cv ck
 obtain ⟨k1,nm1,s1,b1,kids1⟩:=T
 obtain ⟨k2,nm2,s2,b2,kids2⟩:=key
 by_cases he:e=0
 · rw [decide_eq_false (not_not_intro he)] at e1
   rw [if_neg (not_not_intro he)]
   by_cases hv:V=0
   · rw [decide_eq_false (not_not_intro hv)] at e2
     rw [if_neg (not_not_intro hv)]
     clear hfr3
     simp only [Sv.cells,Tm.cells,List.cons_append,List.nil_append] at ci a1 a2 hbd hfz hfr0 ⊢
     rcases slV_or true K with hK | hK
     all_goals
      rw [hK] at ckf ⊢
      simp only [hK] at cvf hfr0
      refine callOk_wp (own:=(fun d=>[5026,5029,30013].any (Nat.beq d))) tOk fe213.ok hfz (hfr0 0 hNil) ?_
      refine Wp.seq ?_
      repeat' first | refine κn ?_ | (apply qCl;rfl;rfl;rfl;rfl;first | exact ci _ | exact ckf _ | exact cvf _) | refine κi ?_ | refine κg ?_ | (apply dAl;rfl;rfl;rfl;rfl;exact IsV.ptrM;exact IsH.mkN) | refine κB ?_ | (apply dAq;rfl;rfl;rfl;rfl;rfl;rfl;(first | assumption | solve_by_elim)) | (apply dBd;rfl;rfl;rfl;assumption;exact IsV.aggN;rfl) | refine κh ?_ | refine κa ?_ | (apply dWB tOk follows;rfl;kernel_rfl;rfl;exact IsH.mkN) | refine κf ?_ | fail
     · exact frz3_svT (K:=[]) _ _ (.inl rfl)
     · exact frz3_svT _ _ (.inr rfl)
   · rw [decide_eq_true hv] at e2
     rw [if_pos hv]
     clear hfr0
     simp only [svZero_cells]
     simp only [Sv.cells,Tm.cells,List.cons_append,List.nil_append] at ci a1 a2 hbd hfz ⊢
     rcases slV_or true K with hK | hK
     all_goals
      rw [hK] at ckf
      simp only [hK] at cvf
      refine callOk_wp (own:=(fun d=>[5026,5029,30013].any (Nat.beq d))) tOk fe213.ok hfz (hfr3 0 hNil) ?_
      refine Wp.seq ?_
      repeat' first | refine κn ?_ | (apply qCl;rfl;rfl;rfl;rfl;first | exact ci _ | exact ckf _ | exact cvf _) | refine κi ?_ | refine κg ?_ | (apply dAl;rfl;rfl;rfl;rfl;exact IsV.ptrM;exact IsH.mkN) | refine κB ?_ | (apply dAq;rfl;rfl;rfl;rfl;rfl;rfl;(first | assumption | solve_by_elim)) | (apply dBd;rfl;rfl;rfl;assumption;exact IsV.aggN;rfl) | refine κh ?_ | refine κa ?_ | (apply dWB tOk follows;rfl;kernel_rfl;rfl;exact IsH.mkN) | refine κf ?_ | fail
     all_goals rfl
 · rw [decide_eq_true he] at e1
   rw [if_pos he]
   clear hfr0 cvf ckf
   simp only [svZero_cells]
   simp only [Sv.cells,Tm.cells,List.cons_append,List.nil_append] at ci hfz ⊢
   refine callOk_wp (own:=(fun d=>[5026,5029,30013].any (Nat.beq d))) tOk fe213.ok hfz (hfr3 0 hNil) ?_
   refine Wp.seq ?_
   repeat' first | refine κn ?_ | refine κc (ci _) ?_ | refine κi ?_ | refine κg ?_ | refine κa ?_ | refine κf ?_ | fail
   all_goals rfl
end Go.Vm.Seat
namespace Go.Vm.Seat
open Go.Proofs
def regF (s:Sv) (name:Bs) (key:Tm):Sv×Int:=if svV s≠0 then (svZero,svV s) else if (credN name key s.log.length 9999).valid≠0 then (svZero,(credN name key s.log.length 9999).valid) else if (lookF name s.log.reverse).2.2=true then (svZero,5) else addF s (credN name key s.log.length 9999)
def rotF (s:Sv) (name:Bs) (key:Tm):Sv×Int:=if svV s≠0 then (svZero,svV s) else if (credN name key s.log.length 9999).valid≠0 then (svZero,(credN name key s.log.length 9999).valid) else if (lookF name s.log.reverse).2.2=false then (svZero,4) else
 if (lookF name s.log.reverse).1.cmp key=0 then (svZero,5) else addF s (credN name key s.log.length 9999)
def revF (s:Sv) (name:Bs):Sv×Int:=if svV s≠0 then (svZero,svV s) else if (lookF name s.log.reverse).2.2=false then (svZero,4) else addF s (credN name (lookF name s.log.reverse).1 s.log.length 0)
theorem frzSv3 (s:Sv) (name:Bs) (t:Tm):frzGL [.agg s.cells,.str name,.agg t.cells]=some [.agg s.cells,.str name,.agg t.cells]:=by
 have h:=frzSv s
 simp only [frzGL] at h ⊢
 rw [frzG_tm]
 revert h
 generalize frzG (.agg s.cells)=F
 cases F <;> simp
 rintro rfl
 rfl
theorem frzSv2 (s:Sv) (name:Bs):frzGL [.agg s.cells,.str name]=some [.agg s.cells,.str name]:=by
 have h:=frzSv s
 simp only [frzGL] at h ⊢
 revert h
 generalize frzG (.agg s.cells)=F
 cases F <;> simp
 rintro rfl
 rfl
theorem err_v (e:Int):(e=0∧aBin E0 .neq 31 (.int .i64 e) (.int .i64 0)=some (.bool false))∨(e≠0∧aBin E0 .neq 31 (.int .i64 e) (.int .i64 0)=some (.bool true)):=by
 have h:=err_eq e
 by_cases he:e=0
 · rw [decide_eq_false (not_not_intro he)] at h
   exact .inl ⟨he,h⟩
 · rw [decide_eq_true he] at h
   exact .inr ⟨he,h⟩
theorem c146 {s:Sv} (h:SvOk s) (hl:s.log.length≤32) {name:Bs} {key:Tm} (hn:name.length≤1000) (hk:key.Ok) (hks:key.size≤700) (hs2:s.key.size≤50):∀ H,CallOk E0 Tryz.prog 146 [.agg s.cells,.str name,.agg key.cells] H (.tup [.agg (regF s name key).1.cells,.int .i64 (regF s name key).2]) H:=by
 have cv:=c73 h
 have ce:=c80 name key s.log.length 9999
 have cc:=c161 (credN name key s.log.length 9999) (by simp only [credN];omega) hk (by simp only [credN];omega) (by simp [credN]) (by simp [credN]) (by simp [credN]) (by simp [credN])
 have cf:=c74 h.l h.ls h.ll (name:=name) s.lb
 have ca:=c213 h hl hn hk hks hs2 s.log.length 9999
 have hfz:=frzSv3 s name key
 have hfr:=fun m H=>frz3_svI m H
 have hln:=cellsL_length s.log
 have e1:=err_v (svV s)
 have e2:=err_v (credN name key s.log.length 9999).valid
 unfold regF
 clear h hl hn hk hks hs2
 generalize svV s=V at cv e1 ⊢
 generalize (credN name key s.log.length 9999).valid=W at cc e2 ⊢
 generalize lookF name s.log.reverse=F at cf ⊢
 generalize addF s (credN name key s.log.length 9999)=A at ca ⊢
 rw [credN_cells] at ce cc ca
 rw [← hln] at ce cc ca
 obtain ⟨X,n,ok⟩:=F
 obtain ⟨⟨an,⟨ak,anm,az,ab,akids⟩,alb,alog,akb,akeys⟩,ae⟩:=A
 obtain ⟨sn,⟨k,nm,z,b,kids⟩,lb,log,kb,keys⟩:=s
 obtain ⟨k1,nm1,s1,b1,kids1⟩:=X
 obtain ⟨k2,nm2,s2,b2,kids2⟩:=key
 simp only [] at cf hfr ⊢
 simp only [Sv.cells,Tm.cells,List.cons_append,List.nil_append] at cv ce cc cf ca hfz
 rcases e1 with ⟨h1,e1⟩ | ⟨h1,e1⟩
 · rw [if_neg (not_not_intro h1)]
   rcases e2 with ⟨h2,e2⟩ | ⟨h2,e2⟩
   · rw [if_neg (not_not_intro h2)]
     cases ok with
     | true =>
       have hf:=fun m H=>hfr m H svZero 5
       rw [if_pos rfl]
       simp only [svZero_cells] at hf ⊢
       simp only [Sv.cells,Tm.cells,List.cons_append,List.nil_append]
       refine κw tOk fe146.ok (hf 0 hNil) ?_ hfz
       repeat' first | refine κn ?_ | (apply qCl;rfl;rfl;rfl;rfl;first | exact cv _ | exact ce _ | exact cc _ | exact cf _) | refine κi ?_ | refine κl ?_ | refine κt ?_ | refine κg ?_ | refine κa ?_ | refine κf ?_ | fail
       all_goals exact hf _ _
     | false =>
       have hf:=fun m H=>hfr m H ⟨an,.mk ak anm az ab akids,alb,alog,akb,akeys⟩ ae
       rw [if_neg (by simp)]
       simp only [Sv.cells,Tm.cells,List.cons_append,List.nil_append] at hf ⊢
       refine κw tOk fe146.ok (hf 0 hNil) ?_ hfz
       repeat' first | refine κn ?_ | (apply qCl;rfl;rfl;rfl;rfl;first | exact cv _ | exact ce _ | exact cc _ | exact cf _ | exact ca _) | refine κi ?_ | refine κl ?_ | refine κt ?_ | refine κg ?_ | refine κa ?_ | refine κf ?_ | fail
       all_goals exact hf _ _
   · have hf := fun m H => hfr m H svZero W
     rw [if_pos h2]
     simp only [svZero_cells] at hf ⊢
     simp only [Sv.cells,Tm.cells,List.cons_append,List.nil_append]
     refine κw tOk fe146.ok (hf 0 hNil) ?_ hfz
     repeat' first | refine κn ?_ | (apply qCl;rfl;rfl;rfl;rfl;first | exact cv _ | exact ce _ | exact cc _) | refine κi ?_ | refine κl ?_ | refine κg ?_ | refine κa ?_ | refine κf ?_ | fail
     all_goals exact hf _ _
 · have hf := fun m H => hfr m H svZero V
   rw [if_pos h1]
   simp only [svZero_cells] at hf ⊢
   simp only [Sv.cells,Tm.cells,List.cons_append,List.nil_append]
   refine κw tOk fe146.ok (hf 0 hNil) ?_ hfz
   repeat' first | refine κn ?_ | refine κc (cv _) ?_ | refine κi ?_ | refine κg ?_ | refine κa ?_ | refine κf ?_ | fail
   all_goals exact hf _ _
theorem c147 {s:Sv} (h:SvOk s) (hl:s.log.length≤32) {name:Bs} {key:Tm} (hn:name.length≤1000) (hk:key.Ok) (hks:key.size≤700) (hs2:s.key.size≤50):∀ H,CallOk E0 Tryz.prog 147 [.agg s.cells,.str name,.agg key.cells] H (.tup [.agg (rotF s name key).1.cells,.int .i64 (rotF s name key).2]) H:=by
 have cv:=c73 h
 have ce:=c80 name key s.log.length 9999
 have cc:=c161 (credN name key s.log.length 9999) (by simp only [credN];omega) hk (by simp only [credN];omega) (by simp [credN]) (by simp [credN]) (by simp [credN]) (by simp [credN])
 have cf:=c74 h.l h.ls h.ll (name:=name) s.lb
 have hlo:=lookF_ok (name:=name) (S:=900) (by omega) (l:=s.log.reverse) fun u hu=>⟨h.l u (List.mem_reverse.1 hu),h.ls u (List.mem_reverse.1 hu)⟩
 have cq:=c15 hlo.1 hk (by have:=hlo.2.1;omega) (by omega)
 have ca:=c213 h hl hn hk hks hs2 s.log.length 9999
 have hfz:=frzSv3 s name key
 have hfr:=fun m H=>frz3_svI m H
 have hln:=cellsL_length s.log
 have e1:=err_v (svV s)
 have e2:=err_v (credN name key s.log.length 9999).valid
 unfold rotF
 clear h hl hn hk hks hs2 hlo
 generalize svV s=V at cv e1 ⊢
 generalize (credN name key s.log.length 9999).valid=W at cc e2 ⊢
 generalize lookF name s.log.reverse=F at cf cq ⊢
 generalize addF s (credN name key s.log.length 9999)=A at ca ⊢
 rw [credN_cells] at ce cc ca
 rw [← hln] at ce cc ca
 obtain ⟨X,n,ok⟩:=F
 obtain ⟨⟨an,⟨ak,anm,az,ab,akids⟩,alb,alog,akb,akeys⟩,ae⟩:=A
 obtain ⟨sn,⟨k,nm,z,b,kids⟩,lb,log,kb,keys⟩:=s
 simp only [] at cf cq hfr ⊢
 obtain ⟨D,hD⟩:∃ D,D=decide (X.cmp key=0):=⟨_,rfl⟩
 rw [← hD] at cq
 obtain ⟨k1,nm1,s1,b1,kids1⟩:=X
 obtain ⟨k2,nm2,s2,b2,kids2⟩:=key
 simp only [Sv.cells,Tm.cells,List.cons_append,List.nil_append] at cv ce cc cf cq ca hfz
 rcases e1 with ⟨h1,e1⟩ | ⟨h1,e1⟩
 · rw [if_neg (not_not_intro h1)]
   rcases e2 with ⟨h2,e2⟩ | ⟨h2,e2⟩
   · rw [if_neg (not_not_intro h2)]
     cases ok with
     | false =>
       have hf:=fun m H=>hfr m H svZero 4
       rw [if_pos rfl]
       simp only [svZero_cells] at hf ⊢
       simp only [Sv.cells,Tm.cells,List.cons_append,List.nil_append]
       refine κw tOk fe147.ok (hf 0 hNil) ?_ hfz
       repeat' first | refine κn ?_ | (apply qCl;rfl;rfl;rfl;rfl;first | exact cv _ | exact ce _ | exact cc _ | exact cf _) | refine κi ?_ | refine κl ?_ | refine κt ?_ | refine κg ?_ | refine κa ?_ | refine κf ?_ | fail
       all_goals exact hf _ _
     | true =>
       rw [if_neg (by simp)]
       cases D with
       | true =>
         have hf:=fun m H=>hfr m H svZero 5
         rw [if_pos (of_decide_eq_true hD.symm)]
         simp only [svZero_cells] at hf ⊢
         simp only [Sv.cells,Tm.cells,List.cons_append,List.nil_append]
         refine κw tOk fe147.ok (hf 0 hNil) ?_ hfz
         repeat' first | refine κn ?_ | (apply qCl;rfl;rfl;rfl;rfl;first | exact cv _ | exact ce _ | exact cc _ | exact cf _ | exact cq _) | refine κi ?_ | refine κl ?_ | refine κt ?_ | refine κg ?_ | refine κa ?_ | refine κf ?_ | fail
         all_goals exact hf _ _
       | false =>
         have hf:=fun m H=>hfr m H ⟨an,.mk ak anm az ab akids,alb,alog,akb,akeys⟩ ae
         rw [if_neg (of_decide_eq_false hD.symm)]
         simp only [Sv.cells,Tm.cells,List.cons_append,List.nil_append] at hf ⊢
         refine κw tOk fe147.ok (hf 0 hNil) ?_ hfz
         repeat' first | refine κn ?_ | (apply qCl;rfl;rfl;rfl;rfl;first | exact cv _ | exact ce _ | exact cc _ | exact cf _ | exact cq _ | exact ca _) | refine κi ?_ | refine κl ?_ | refine κt ?_ | refine κg ?_ | refine κa ?_ | refine κf ?_ | fail
         all_goals exact hf _ _
   · have hf := fun m H => hfr m H svZero W
     rw [if_pos h2]
     simp only [svZero_cells] at hf ⊢
     simp only [Sv.cells,Tm.cells,List.cons_append,List.nil_append]
     refine κw tOk fe147.ok (hf 0 hNil) ?_ hfz
     repeat' first | refine κn ?_ | (apply qCl;rfl;rfl;rfl;rfl;first | exact cv _ | exact ce _ | exact cc _) | refine κi ?_ | refine κl ?_ | refine κg ?_ | refine κa ?_ | refine κf ?_ | fail
     all_goals exact hf _ _
 · have hf := fun m H => hfr m H svZero V
   rw [if_pos h1]
   simp only [svZero_cells] at hf ⊢
   simp only [Sv.cells,Tm.cells,List.cons_append,List.nil_append]
   refine κw tOk fe147.ok (hf 0 hNil) ?_ hfz
   repeat' first | refine κn ?_ | refine κc (cv _) ?_ | refine κi ?_ | refine κg ?_ | refine κa ?_ | refine κf ?_ | fail
   all_goals exact hf _ _
theorem c148 {s:Sv} (h:SvOk s) (hl:s.log.length≤32) {name:Bs} (hn:name.length≤1000) (hks:(lookF name s.log.reverse).1.size≤700) (hs2:s.key.size≤50):∀ H,CallOk E0 Tryz.prog 148 [.agg s.cells,.str name] H (.tup [.agg (revF s name).1.cells,.int .i64 (revF s name).2]) H:=by
 have cv:=c73 h
 have hlo:=lookF_ok (name:=name) (S:=900) (by omega) (l:=s.log.reverse) fun u hu=>⟨h.l u (List.mem_reverse.1 hu),h.ls u (List.mem_reverse.1 hu)⟩
 have ce:=c80 name (lookF name s.log.reverse).1 s.log.length 0
 have cf:=c74 h.l h.ls h.ll (name:=name) s.lb
 have ca:=c213 h hl hn hlo.1 hks hs2 s.log.length 0
 have hfz:=frzSv2 s name
 have hfr:=fun m H=>frz3_svI m H
 have hln:=cellsL_length s.log
 have e1:=err_v (svV s)
 unfold revF
 clear h hl hn hks hs2 hlo
 generalize svV s=V at cv e1 ⊢
 generalize addF s (credN name (lookF name s.log.reverse).1 s.log.length 0)=A at ca ⊢
 generalize lookF name s.log.reverse=F at ce cf ca ⊢
 rw [credN_cells] at ce ca
 rw [← hln] at ce ca
 obtain ⟨X,n,ok⟩:=F
 obtain ⟨⟨an,⟨ak,anm,az,ab,akids⟩,alb,alog,akb,akeys⟩,ae⟩:=A
 obtain ⟨sn,⟨k,nm,z,b,kids⟩,lb,log,kb,keys⟩:=s
 simp only [] at ce cf ca hfr ⊢
 obtain ⟨k1,nm1,s1,b1,kids1⟩:=X
 simp only [Sv.cells,Tm.cells,List.cons_append,List.nil_append] at cv ce cf ca hfz
 rcases e1 with ⟨h1,e1⟩ | ⟨h1,e1⟩
 · rw [if_neg (not_not_intro h1)]
   cases ok with
   | false =>
     have hf:=fun m H=>hfr m H svZero 4
     rw [if_pos rfl]
     simp only [svZero_cells] at hf ⊢
     simp only [Sv.cells,Tm.cells,List.cons_append,List.nil_append]
     refine κw tOk fe148.ok (hf 0 hNil) ?_ hfz
     repeat' first | refine κn ?_ | refine κc (cv _) ?_ | refine κc (cf _) ?_ | refine κi ?_ | refine κt ?_ | refine κg ?_ | refine κa ?_ | refine κf ?_ | fail
     all_goals exact hf _ _
   | true =>
     have hf:=fun m H=>hfr m H ⟨an,.mk ak anm az ab akids,alb,alog,akb,akeys⟩ ae
     rw [if_neg (by simp)]
     simp only [Sv.cells,Tm.cells,List.cons_append,List.nil_append] at hf ⊢
     refine κw tOk fe148.ok (hf 0 hNil) ?_ hfz
     repeat' first | refine κn ?_ | refine κc (cv _) ?_ | refine κc (cf _) ?_ | refine κi ?_ | refine κt ?_ | refine κg ?_ | refine κd (ce _) ?_ | refine κd (ca _) ?_ | (apply dLn;rfl;rfl;rfl;rfl;rfl) | refine κh ?_ | refine κa ?_ | (apply Wp.drawS tOk follows;kernel_rfl;rfl) | refine κf ?_ | fail
     all_goals exact hf _ _
 · have hf := fun m H => hfr m H svZero V
   rw [if_pos h1]
   simp only [svZero_cells] at hf ⊢
   simp only [Sv.cells,Tm.cells,List.cons_append,List.nil_append]
   refine κw tOk fe148.ok (hf 0 hNil) ?_ hfz
   repeat' first | refine κn ?_ | refine κc (cv _) ?_ | refine κi ?_ | refine κg ?_ | refine κa ?_ | refine κf ?_ | fail
   all_goals exact hf _ _
end Go.Vm.Seat
