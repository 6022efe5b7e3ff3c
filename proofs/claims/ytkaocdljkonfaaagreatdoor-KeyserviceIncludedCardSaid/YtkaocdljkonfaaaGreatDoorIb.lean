/-
  A service with one more entry, as the document makes it. The changes of a service, as the document makes them.
-/
import Derived.Test.YtkaocdljkonfaaaGreatDoorJh
set_option maxHeartbeats 64000000
set_option maxRecDepth 100000
namespace Go.Vm.Seat
variable {s:Sv} {L:List (List PV)} {name:Bs} {key:Tm}
open Go.Proofs
def ZjS (s:Sv) (t:Tm):Sv:=⟨s.name,s.key,false,s.log++ [t],true,YF (s.log++ [t]) (s.log++ [t]).length⟩
def Zbj (s:Sv) (x:Cred):Sv×Int:=if (x.issue s.key).2≠0 then (svZero,3) else if svV (ZjS s (x.issue s.key).1)≠0 then (svZero,3) else (ZjS s (x.issue s.key).1,0)
theorem ZeG (h:SvOk s) (hl:s.log.length≤32) {t:Tm} (ht:t.Ok) (hts:t.size≤900):SvOk (ZjS s t):=by
 have hm:∀ u,u∈s.log++ [t]→u.Ok∧u.size≤900:=fun u hu=>by
  simp only [List.mem_append,List.mem_singleton] at hu
  rcases hu with hu|rfl
  · exact ⟨h.l u hu,h.ls u hu⟩
  · exact ⟨ht,hts⟩
 have hk:=Vs (s.log++ [t]) (s.log++ [t]).length
 have h1:(s.log++ [t]).length=s.log.length+1:=by simp
 exact ⟨h.n,h.k,h.ks,fun u hu=>(hm u hu).1,fun u hu=>(hm u hu).2,by show (s.log++ [t]).length≤40;omega,QY (by omega) hm _,by show (YF _ _).length≤1000;omega⟩
theorem Zny (s:Sv) (x:Cred):ZC [.agg s.cells,.agg x.cells]=some [.agg s.cells,.agg x.cells]:=by
 obtain ⟨name,⟨k,nm,z,b,kids⟩,lb,log,kb,keys⟩:=s
 obtain ⟨sub,⟨k8,nm8,s8,b8,kids8⟩,iss,pn,per,en',exc,ser,fr,till⟩:=x
 simp only [Sv.cells,Cred.cells,Tm.cells,List.cons_append,List.nil_append,ZC,frzG,Xm,Zu]
 rfl
theorem Zfp (name:Bs) (k:Tm) (o:PV) (h:Z3 o=true):XZ E0 27 [(0,.str name),(1,.agg k.cells),(2,o)]=some (.agg (.str name::(k.cells++ [o,.nils]))):=by
 obtain ⟨kk,nm,z,b,kids⟩:=k
 cases o<;>first|rfl|cases h
theorem ZoO {o:PV} {lv:List Nat} {nt:Nat} (h:ApV false 4 L o lv nt):∃ tl,o= .sl tl 4 L:=by
 cases h with
 |nil _ _ h=>cases h
 |full _ _ _ _=>exact ⟨_,rfl⟩
 |tok _ k _ _ _ _ _ _=>exact ⟨_,rfl⟩
theorem Zmi (b:Bool) (n:Nat) (L:List (List PV)):slV b n L= .nils∨slV b n L= .sl .none n L:=by
 cases L with
 | nil =>
   cases b
   · exact .inr (Z1 _ _)
   · exact .inl (Zq _)
 |cons a r=>exact .inr (Zw _ _ _ _)
theorem QT (m : Nat) (H : Heap) {sn nm : Bs} {k z e : Int} {b : Bool} {Q : List (List PV)} {tl : Tail} {W : PV} {K : List (List PV)} (hW : W = .nils ∨ W = .sl .none 6 K) :
  frz3 m H (.tup [.agg [.str sn,.int .i64 k,.str nm,.int .i64 z,slV b 4 Q,.sl tl 4 L,W],.int .i64 e])=some (.tup [.agg [.str sn,.int .i64 k,.str nm,.int .i64 z,slV b 4 Q,slV false 4 L,W],.int .i64 e]):=by
 rw [Z1]
 rcases hW with rfl|rfl<;>rcases Zmi b 4 Q with h|h<;>rw [h]<;>rfl
theorem ZlI (b:Bool) (K:List En):slV b 6 (enC K)= .nils∨slV b 6 (enC K)= .sl .none 6 (enC K):=by
 cases K with
 | nil =>
   cases b
   · exact .inr (Z1 _ _)
   · exact .inl (Zq _)
 |cons a r=>exact .inr (Zw _ _ _ _)
theorem c70 (h:SvOk s) (hl:s.log.length≤32) (hn:name.length≤1000) (hk:key.Ok) (hks:key.size≤700) (hs2:s.key.size≤50) (i t:Int):∀ H,CallOk E0 Tryz.prog 70 [.agg s.cells,.agg (Zj name key i t).cells] H (.tup [.agg (Zbj s (Zj name key i t)).1.cells,.int .i64 (Zbj s (Zj name key i t)).2]) H:=by
 have ci:=c88 (Zj name key i t) (key:=s.key) (by simp only [Zj];omega) (by simp [Zj]) (by simp [Zj]) (by simp [Zj]) (by simp [Zj]) hk (by simp only [Zj];omega) h.k (by have:=h.ks;omega)
 have hio:=Yv (x:=Zj name key i t) (key:=s.key) hk h.k
 have hio2:((Zj name key i t).issue s.key).1.size≤900:=by
  have:=hio.2
  simp only [Zj] at this ⊢
  omega
 have hO:=ZeG h hl hio.1 hio2
 have cv:=c14 hO
 have ck:=c47 (l:=s.log++ [((Zj name key i t).issue s.key).1]) hO.l hO.ls hO.ll false
 have hfz:=Zny s (Zj name key i t)
 have hA0:ApV false 4 (Za []) (.sl .full 4 []) [] 0:= .full [] _ _ rfl rfl
 obtain ⟨o1,lv1,nt1,a1,A1, -⟩:=hA0.app YH (.slV s.lb 4 (Za s.log)) (Zs _) (ZZ (by simp only [Zb,List.length_nil];omega) (by decide)) (ZB _)
 rw [← Zl,List.nil_append] at A1
 obtain ⟨o2,lv2,nt2,a2,A2, -⟩:=A1.app YH (.sl .full 4 (Za [((Zj name key i t).issue s.key).1])) (Zs _) (ZZ (by simp only [Zb,List.length_cons,List.length_nil];omega) (by decide)) (ZB _)
 rw [← Zl] at A2
 obtain ⟨tl,rfl⟩:=ZoO A2
 have hbd:=Zfp s.name s.key (.sl tl 4 (Za (s.log++ [((Zj name key i t).issue s.key).1]))) rfl
 unfold Zbj
 have e1:=Ye ((Zj name key i t).issue s.key).2
 have e2:=Ye (svV (ZjS s ((Zj name key i t).issue s.key).1))
 have hfr3:=fun m H=>Yp m H svZero 3
 have hfr0:=fun m H=>Yp m H (ZjS s ((Zj name key i t).issue s.key).1) 0
 rw [Zt] at hfr3
 unfold ZjS at cv e2 hfr0 ⊢
 rw [Yy] at ci hfz ⊢
 clear hio hio2 hO hA0 A1 A2 h hl hn hk hks hs2
 generalize (Zj name key i t).issue s.key=I at ci cv ck a2 hbd e1 e2 hfr0 ⊢
 obtain ⟨T,e⟩:=I
 obtain ⟨sn,⟨k,nm,z,b,kids⟩,lb,log,kb,keys⟩:=s
 simp only [] at ci cv ck a1 a2 hbd e1 e2 hfr0 ⊢
 generalize YF (log++ [T]) (log++ [T]).length=K at cv ck e2 hfr0 ⊢
 generalize svV (Sv.mk sn (.mk k nm z b kids) false (log++ [T]) true K)=V at cv e2 ⊢
 have cvf:∀ H,CallOk E0 Tryz.prog 14 [.agg [.str sn,.int .i64 k,.str nm,.int .i64 z,slV b 4 (Za kids),.sl tl 4 (Za (log++ [T])),slV true 6 (enC K)]] H (.int .i64 V) H:=fun H=>by
  refine Z9 (cv H) ?_
  simp only [Sv.cells,Tm.cells,List.cons_append,List.nil_append,ZC,frzG,Xm,Zu,Z1]
  rfl
 have ckf:∀ H,CallOk E0 Tryz.prog 47 [.sl tl 4 (Za (log++ [T]))] H (slV true 6 (enC K)) H:=fun H=>by
  refine Z9 (ck H) ?_
  simp only [Z1]
  rfl
 clear cv ck
 obtain ⟨k1,nm1,s1,b1,kids1⟩:=T
 obtain ⟨k2,nm2,s2,b2,kids2⟩:=key
 by_cases he:e=0
 · rw [decide_eq_false (not_not_intro he)] at e1
   rw [if_neg (not_not_intro he)]
   by_cases hv:V=0
   · rw [decide_eq_false (not_not_intro hv)] at e2
     rw [if_neg (not_not_intro hv)]
     clear hfr3
     simp only [Sv.cells,Tm.cells,List.cons_append,List.nil_append] at ci a1 a2 hbd hfz hfr0 ⊢
     rcases ZlI true K with hK|hK
     all_goals
      rw [hK] at ckf ⊢
      simp only [hK] at cvf hfr0
      refine Zr (own:=(fun d=>[5026,5029,30013].any (Nat.beq d))) tOk fe70.ok hfz (hfr0 0 hNil) ?_
      refine Wp.seq ?_
      repeat' first|(apply qCl;rfl;rfl;rfl;rfl;first|exact ci _|exact ckf _|exact cvf _)|refine Ji ?_|refine Jo ?_|(apply dAl;rfl;rfl;rfl;rfl;exact IsV.ptrM;exact IsH.mkN)|refine JB ?_|(apply dAq;rfl;rfl;rfl;rfl;rfl;rfl;(first|assumption|solve_by_elim))|(apply dBd;rfl;rfl;rfl;assumption;exact IsV.aggN;rfl)|refine Jh ?_|(apply dWB tOk follows;rfl;kernel_rfl;rfl;exact IsH.mkN)|fail
     · exact QT (K:=[]) _ _ (.inl rfl)
     · exact QT _ _ (.inr rfl)
   · rw [decide_eq_true hv] at e2
     rw [if_pos hv]
     clear hfr0
     simp only [Zt]
     simp only [Sv.cells,Tm.cells,List.cons_append,List.nil_append] at ci a1 a2 hbd hfz ⊢
     rcases ZlI true K with hK|hK
     all_goals
      rw [hK] at ckf
      simp only [hK] at cvf
      refine Zr (own:=(fun d=>[5026,5029,30013].any (Nat.beq d))) tOk fe70.ok hfz (hfr3 0 hNil) ?_
      refine Wp.seq ?_
      repeat' first|(apply qCl;rfl;rfl;rfl;rfl;first|exact ci _|exact ckf _|exact cvf _)|refine Ji ?_|refine Jo ?_|(apply dAl;rfl;rfl;rfl;rfl;exact IsV.ptrM;exact IsH.mkN)|refine JB ?_|(apply dAq;rfl;rfl;rfl;rfl;rfl;rfl;(first|assumption|solve_by_elim))|(apply dBd;rfl;rfl;rfl;assumption;exact IsV.aggN;rfl)|refine Jh ?_|(apply dWB tOk follows;rfl;kernel_rfl;rfl;exact IsH.mkN)|fail
     all_goals rfl
 · rw [decide_eq_true he] at e1
   rw [if_pos he]
   clear hfr0 cvf ckf
   simp only [Zt]
   simp only [Sv.cells,Tm.cells,List.cons_append,List.nil_append] at ci hfz ⊢
   refine Zr (own:=(fun d=>[5026,5029,30013].any (Nat.beq d))) tOk fe70.ok hfz (hfr3 0 hNil) ?_
   refine Wp.seq ?_
   repeat' first|refine Jc (ci _) ?_|refine Ji ?_|refine Jo ?_|fail
   all_goals rfl
open Go.Proofs
def Zfi (s:Sv) (name:Bs) (key:Tm):Sv×Int:=if svV s≠0 then (svZero,svV s) else if (Zj name key s.log.length 9999).valid≠0 then (svZero,(Zj name key s.log.length 9999).valid) else if (Zx name s.log.reverse).2.2=true then (svZero,5) else Zbj s (Zj name key s.log.length 9999)
def Zgd (s:Sv) (name:Bs) (key:Tm):Sv×Int:=if svV s≠0 then (svZero,svV s) else if (Zj name key s.log.length 9999).valid≠0 then (svZero,(Zj name key s.log.length 9999).valid) else if (Zx name s.log.reverse).2.2=false then (svZero,4) else
 if (Zx name s.log.reverse).1.cmp key=0 then (svZero,5) else Zbj s (Zj name key s.log.length 9999)
def Zga (s:Sv) (name:Bs):Sv×Int:=if svV s≠0 then (svZero,svV s) else if (Zx name s.log.reverse).2.2=false then (svZero,4) else Zbj s (Zj name (Zx name s.log.reverse).1 s.log.length 0)
theorem Zf8 (s:Sv) (name:Bs) (t:Tm):ZC [.agg s.cells,.str name,.agg t.cells]=some [.agg s.cells,.str name,.agg t.cells]:=by
 have h:=Zcl s
 simp only [ZC] at h ⊢
 rw [ZeE]
 revert h
 generalize frzG (.agg s.cells)=F
 cases F<;>simp
 rintro rfl
 rfl
theorem ZlD (s:Sv) (name:Bs):ZC [.agg s.cells,.str name]=some [.agg s.cells,.str name]:=by
 have h:=Zcl s
 simp only [ZC] at h ⊢
 revert h
 generalize frzG (.agg s.cells)=F
 cases F<;>simp
 rintro rfl
 rfl
theorem ZdC (e:Int):(e=0∧ZV E0 .neq 32 (.int .i64 e) (.int .i64 0)=some (.bool false))∨(e≠0∧ZV E0 .neq 32 (.int .i64 e) (.int .i64 0)=some (.bool true)):=by
 have h:=Ye e
 by_cases he:e=0
 · rw [decide_eq_false (not_not_intro he)] at h
   exact .inl ⟨he,h⟩
 · rw [decide_eq_true he] at h
   exact .inr ⟨he,h⟩
theorem c27 (h:SvOk s) (hl:s.log.length≤32) (hn:name.length≤1000) (hk:key.Ok) (hks:key.size≤700) (hs2:s.key.size≤50):∀ H,CallOk E0 Tryz.prog 27 [.agg s.cells,.str name,.agg key.cells] H (.tup [.agg (Zfi s name key).1.cells,.int .i64 (Zfi s name key).2]) H:=by
 have cv:=c14 h
 have ce:=c68 name key s.log.length 9999
 have cc:=c69 (Zj name key s.log.length 9999) (by simp only [Zj];omega) hk (by simp only [Zj];omega) (by simp [Zj]) (by simp [Zj]) (by simp [Zj]) (by simp [Zj])
 have cf:=c53 h.l h.ls h.ll (name:=name) s.lb
 have ca:=c70 h hl hn hk hks hs2 s.log.length 9999
 have hfz:=Zf8 s name key
 have hfr:=fun m H=>Yp m H
 have hln:=Zb s.log
 have e1:=ZdC (svV s)
 have e2:=ZdC (Zj name key s.log.length 9999).valid
 unfold Zfi
 clear h hl hn hk hks hs2
 generalize svV s=V at cv e1 ⊢
 generalize (Zj name key s.log.length 9999).valid=W at cc e2 ⊢
 generalize Zx name s.log.reverse=F at cf ⊢
 generalize Zbj s (Zj name key s.log.length 9999)=A at ca ⊢
 rw [Yy] at ce cc ca
 rw [← hln] at ce cc ca
 obtain ⟨X,n,ok⟩:=F
 obtain ⟨⟨an,⟨ak,anm,az,ab,akids⟩,alb,alog,akb,akeys⟩,ae⟩:=A
 obtain ⟨sn,⟨k,nm,z,b,kids⟩,lb,log,kb,keys⟩:=s
 obtain ⟨k1,nm1,s1,b1,kids1⟩:=X
 obtain ⟨k2,nm2,s2,b2,kids2⟩:=key
 simp only [] at cf hfr ⊢
 simp only [Sv.cells,Tm.cells,List.cons_append,List.nil_append] at cv ce cc cf ca hfz
 rcases e1 with ⟨h1,e1⟩|⟨h1,e1⟩
 · rw [if_neg (not_not_intro h1)]
   rcases e2 with ⟨h2,e2⟩|⟨h2,e2⟩
   · rw [if_neg (not_not_intro h2)]
     cases ok with
     | true =>
       have hf:=fun m H=>hfr m H svZero 5
       rw [if_pos rfl]
       simp only [Zt] at hf ⊢
       simp only [Sv.cells,Tm.cells,List.cons_append,List.nil_append]
       refine Jw tOk fe27.ok (hf 0 hNil) ?_ hfz
       repeat' first|(apply qCl;rfl;rfl;rfl;rfl;first|exact cv _|exact ce _|exact cc _|exact cf _)|refine Ji ?_|refine Jl ?_|refine Jt ?_|refine Jo ?_|fail
       all_goals exact hf _ _
     | false =>
       have hf:=fun m H=>hfr m H ⟨an,.mk ak anm az ab akids,alb,alog,akb,akeys⟩ ae
       rw [if_neg (by simp)]
       simp only [Sv.cells,Tm.cells,List.cons_append,List.nil_append] at hf ⊢
       refine Jw tOk fe27.ok (hf 0 hNil) ?_ hfz
       repeat' first|(apply qCl;rfl;rfl;rfl;rfl;first|exact cv _|exact ce _|exact cc _|exact cf _|exact ca _)|refine Ji ?_|refine Jl ?_|refine Jt ?_|refine Jo ?_|fail
       all_goals exact hf _ _
   · have hf := fun m H => hfr m H svZero W
     rw [if_pos h2]
     simp only [Zt] at hf ⊢
     simp only [Sv.cells,Tm.cells,List.cons_append,List.nil_append]
     refine Jw tOk fe27.ok (hf 0 hNil) ?_ hfz
     repeat' first|(apply qCl;rfl;rfl;rfl;rfl;first|exact cv _|exact ce _|exact cc _)|refine Ji ?_|refine Jl ?_|refine Jo ?_|fail
     all_goals exact hf _ _
 · have hf := fun m H => hfr m H svZero V
   rw [if_pos h1]
   simp only [Zt] at hf ⊢
   simp only [Sv.cells,Tm.cells,List.cons_append,List.nil_append]
   refine Jw tOk fe27.ok (hf 0 hNil) ?_ hfz
   repeat' first|refine Jc (cv _) ?_|refine Ji ?_|refine Jo ?_|fail
   all_goals exact hf _ _
theorem c29 (h:SvOk s) (hl:s.log.length≤32) (hn:name.length≤1000) (hk:key.Ok) (hks:key.size≤700) (hs2:s.key.size≤50):∀ H,CallOk E0 Tryz.prog 29 [.agg s.cells,.str name,.agg key.cells] H (.tup [.agg (Zgd s name key).1.cells,.int .i64 (Zgd s name key).2]) H:=by
 have cv:=c14 h
 have ce:=c68 name key s.log.length 9999
 have cc:=c69 (Zj name key s.log.length 9999) (by simp only [Zj];omega) hk (by simp only [Zj];omega) (by simp [Zj]) (by simp [Zj]) (by simp [Zj]) (by simp [Zj])
 have cf:=c53 h.l h.ls h.ll (name:=name) s.lb
 have hlo:=VK (name:=name) (S:=900) (by omega) (l:=s.log.reverse) fun u hu=>⟨h.l u (List.mem_reverse.1 hu),h.ls u (List.mem_reverse.1 hu)⟩
 have cq:=c23 hlo.1 hk (by have:=hlo.2.1;omega) (by omega)
 have ca:=c70 h hl hn hk hks hs2 s.log.length 9999
 have hfz:=Zf8 s name key
 have hfr:=fun m H=>Yp m H
 have hln:=Zb s.log
 have e1:=ZdC (svV s)
 have e2:=ZdC (Zj name key s.log.length 9999).valid
 unfold Zgd
 clear h hl hn hk hks hs2 hlo
 generalize svV s=V at cv e1 ⊢
 generalize (Zj name key s.log.length 9999).valid=W at cc e2 ⊢
 generalize Zx name s.log.reverse=F at cf cq ⊢
 generalize Zbj s (Zj name key s.log.length 9999)=A at ca ⊢
 rw [Yy] at ce cc ca
 rw [← hln] at ce cc ca
 obtain ⟨X,n,ok⟩:=F
 obtain ⟨⟨an,⟨ak,anm,az,ab,akids⟩,alb,alog,akb,akeys⟩,ae⟩:=A
 obtain ⟨sn,⟨k,nm,z,b,kids⟩,lb,log,kb,keys⟩:=s
 simp only [] at cf cq hfr ⊢
 obtain ⟨D,hD⟩:∃ D,D=decide (X.cmp key=0):=⟨_,rfl⟩
 rw [← hD] at cq
 obtain ⟨k1,nm1,s1,b1,kids1⟩:=X
 obtain ⟨k2,nm2,s2,b2,kids2⟩:=key
 simp only [Sv.cells,Tm.cells,List.cons_append,List.nil_append] at cv ce cc cf cq ca hfz
 rcases e1 with ⟨h1,e1⟩|⟨h1,e1⟩
 · rw [if_neg (not_not_intro h1)]
   rcases e2 with ⟨h2,e2⟩|⟨h2,e2⟩
   · rw [if_neg (not_not_intro h2)]
     cases ok with
     | false =>
       have hf:=fun m H=>hfr m H svZero 4
       rw [if_pos rfl]
       simp only [Zt] at hf ⊢
       simp only [Sv.cells,Tm.cells,List.cons_append,List.nil_append]
       refine Jw tOk fe29.ok (hf 0 hNil) ?_ hfz
       repeat' first|(apply qCl;rfl;rfl;rfl;rfl;first|exact cv _|exact ce _|exact cc _|exact cf _)|refine Ji ?_|refine Jl ?_|refine Jt ?_|refine Jo ?_|fail
       all_goals exact hf _ _
     | true =>
       rw [if_neg (by simp)]
       cases D with
       | true =>
         have hf:=fun m H=>hfr m H svZero 5
         rw [if_pos (of_decide_eq_true hD.symm)]
         simp only [Zt] at hf ⊢
         simp only [Sv.cells,Tm.cells,List.cons_append,List.nil_append]
         refine Jw tOk fe29.ok (hf 0 hNil) ?_ hfz
         repeat' first|(apply qCl;rfl;rfl;rfl;rfl;first|exact cv _|exact ce _|exact cc _|exact cf _|exact cq _)|refine Ji ?_|refine Jl ?_|refine Jt ?_|refine Jo ?_|fail
         all_goals exact hf _ _
       | false =>
         have hf:=fun m H=>hfr m H ⟨an,.mk ak anm az ab akids,alb,alog,akb,akeys⟩ ae
         rw [if_neg (of_decide_eq_false hD.symm)]
         simp only [Sv.cells,Tm.cells,List.cons_append,List.nil_append] at hf ⊢
         refine Jw tOk fe29.ok (hf 0 hNil) ?_ hfz
         repeat' first|(apply qCl;rfl;rfl;rfl;rfl;first|exact cv _|exact ce _|exact cc _|exact cf _|exact cq _|exact ca _)|refine Ji ?_|refine Jl ?_|refine Jt ?_|refine Jo ?_|fail
         all_goals exact hf _ _
   · have hf := fun m H => hfr m H svZero W
     rw [if_pos h2]
     simp only [Zt] at hf ⊢
     simp only [Sv.cells,Tm.cells,List.cons_append,List.nil_append]
     refine Jw tOk fe29.ok (hf 0 hNil) ?_ hfz
     repeat' first|(apply qCl;rfl;rfl;rfl;rfl;first|exact cv _|exact ce _|exact cc _)|refine Ji ?_|refine Jl ?_|refine Jo ?_|fail
     all_goals exact hf _ _
 · have hf := fun m H => hfr m H svZero V
   rw [if_pos h1]
   simp only [Zt] at hf ⊢
   simp only [Sv.cells,Tm.cells,List.cons_append,List.nil_append]
   refine Jw tOk fe29.ok (hf 0 hNil) ?_ hfz
   repeat' first|refine Jc (cv _) ?_|refine Ji ?_|refine Jo ?_|fail
   all_goals exact hf _ _
theorem c31 (h:SvOk s) (hl:s.log.length≤32) (hn:name.length≤1000) (hks:(Zx name s.log.reverse).1.size≤700) (hs2:s.key.size≤50):∀ H,CallOk E0 Tryz.prog 31 [.agg s.cells,.str name] H (.tup [.agg (Zga s name).1.cells,.int .i64 (Zga s name).2]) H:=by
 have cv:=c14 h
 have hlo:=VK (name:=name) (S:=900) (by omega) (l:=s.log.reverse) fun u hu=>⟨h.l u (List.mem_reverse.1 hu),h.ls u (List.mem_reverse.1 hu)⟩
 have ce:=c68 name (Zx name s.log.reverse).1 s.log.length 0
 have cf:=c53 h.l h.ls h.ll (name:=name) s.lb
 have ca:=c70 h hl hn hlo.1 hks hs2 s.log.length 0
 have hfz:=ZlD s name
 have hfr:=fun m H=>Yp m H
 have hln:=Zb s.log
 have e1:=ZdC (svV s)
 unfold Zga
 clear h hl hn hks hs2 hlo
 generalize svV s=V at cv e1 ⊢
 generalize Zbj s (Zj name (Zx name s.log.reverse).1 s.log.length 0)=A at ca ⊢
 generalize Zx name s.log.reverse=F at ce cf ca ⊢
 rw [Yy] at ce ca
 rw [← hln] at ce ca
 obtain ⟨X,n,ok⟩:=F
 obtain ⟨⟨an,⟨ak,anm,az,ab,akids⟩,alb,alog,akb,akeys⟩,ae⟩:=A
 obtain ⟨sn,⟨k,nm,z,b,kids⟩,lb,log,kb,keys⟩:=s
 simp only [] at ce cf ca hfr ⊢
 obtain ⟨k1,nm1,s1,b1,kids1⟩:=X
 simp only [Sv.cells,Tm.cells,List.cons_append,List.nil_append] at cv ce cf ca hfz
 rcases e1 with ⟨h1,e1⟩|⟨h1,e1⟩
 · rw [if_neg (not_not_intro h1)]
   cases ok with
   | false =>
     have hf:=fun m H=>hfr m H svZero 4
     rw [if_pos rfl]
     simp only [Zt] at hf ⊢
     simp only [Sv.cells,Tm.cells,List.cons_append,List.nil_append]
     refine Jw tOk fe31.ok (hf 0 hNil) ?_ hfz
     repeat' first|refine Jc (cv _) ?_|refine Jc (cf _) ?_|refine Ji ?_|refine Jt ?_|refine Jo ?_|fail
     all_goals exact hf _ _
   | true =>
     have hf:=fun m H=>hfr m H ⟨an,.mk ak anm az ab akids,alb,alog,akb,akeys⟩ ae
     rw [if_neg (by simp)]
     simp only [Sv.cells,Tm.cells,List.cons_append,List.nil_append] at hf ⊢
     refine Jw tOk fe31.ok (hf 0 hNil) ?_ hfz
     repeat' first|refine Jc (cv _) ?_|refine Jc (cf _) ?_|refine Ji ?_|refine Jt ?_|refine Jo ?_|refine Jd (ce _) ?_|refine Jd (ca _) ?_|(apply dLn;rfl;rfl;rfl;rfl;rfl)|refine Jh ?_|(apply Wp.drawS tOk follows;kernel_rfl;rfl)|fail
     all_goals exact hf _ _
 · have hf := fun m H => hfr m H svZero V
   rw [if_pos h1]
   simp only [Zt] at hf ⊢
   simp only [Sv.cells,Tm.cells,List.cons_append,List.nil_append]
   refine Jw tOk fe31.ok (hf 0 hNil) ?_ hfz
   repeat' first|refine Jc (cv _) ?_|refine Ji ?_|refine Jo ?_|fail
   all_goals exact hf _ _
end Go.Vm.Seat
