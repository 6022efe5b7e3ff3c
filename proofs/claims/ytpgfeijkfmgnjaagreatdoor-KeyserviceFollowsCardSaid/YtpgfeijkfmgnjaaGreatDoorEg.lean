/-
  The ledger of the program: copies, heads, the reading of proofs.
-/
import Derived.Test.YtpgfeijkfmgnjaaGreatDoorDb
import Derived.Test.YtpgfeijkfmgnjaaGreatDoorDc
set_option maxHeartbeats 0
set_option maxRecDepth 100000
namespace Go.Vm.Seat
variable {t:Tm}
open Go.Proofs
theorem Zig (ht:t.Ok) (hsz:t.size≤40000) (h:t.valid≠0∨t.isB [115,105,103,110] 2=false):∀ H,CallOk E0 Tryz.prog 137 [.agg t.cells] H (.tup [.agg (Zdy t).1.cells,.int .i64 (Zdy t).2]) H:=by
 have c1:=ZlD ht (by omega)
 unfold Zdy
 rw [ZeZ _ _ _ h]
 have hfr:=WV 0 hNil Cred.zero 2
 generalize t.valid=e at c1 h
 obtain ⟨k,nm,s,b,kz⟩:=t
 have c2:=Zn8 k nm s b kz [115,105,103,110]
 have hB:(Tm.mk k nm s b kz).isB [115,105,103,110] 2=(isF k nm [115,105,103,110]&&decide (kz.length=2)):=by simp [Tm.isB,isF,Bool.and_assoc]
 rw [hB] at h
 clear hB
 generalize isF k nm [115,105,103,110]=B at c2 h
 simp only [Tm.cells] at c1 c2
 refine Jw tOk fe137.ok hfr ?_
 by_cases h1:e=0
 · subst h1
   cases B with
   | false =>
     repeat' first|refine Jk ?_|refine Jc (c1 _) ?_|refine Jc (c2 _) ?_|refine Jt ?_|refine Jo ?_|fail
     all_goals (rw [X4];rfl)
   | true =>
     have hl:¬ kz.length=2:=by simpa using h
     repeat' first|refine Jc (c1 _) ?_|refine Jc (c2 _) ?_|refine Jl ?_|refine Jt ?_|refine Jb ?_ ?_|refine Jo ?_|intro hb
     all_goals first
      | (rw [X4];rfl)
      | (exfalso;have h9:= ‹(((Za kz).length:Int) != 2)=false›;rw [Zb] at h9;simp at h9;omega)
 · clear h
   repeat' first|refine Jk ?_|refine Jc (c1 _) ?_|refine Jc (c2 _) ?_|refine Jl ?_|refine Jt ?_|refine Jb ?_ ?_|refine Jo ?_|intro hb
   all_goals first
    | (rw [X4];rfl)
    | (exfalso;have h9:= ‹(e != 0)=false›;simp at h9;exact h1 h9)
theorem ZgX {s : Int} {b : Bool} {u key : Tm} (ht : (Tm.mk 3 [115, 105, 103, 110] s b [u, key]).Ok) (hv : (Tm.mk 3 [115, 105, 103, 110] s b [u, key]).valid = 0) :
  ∀ H,CallOk E0 Tryz.prog 137 [.agg (Tm.mk 3 [115,105,103,110] s b [u,key]).cells] H (.tup [.agg (Zdy (.mk 3 [115,105,103,110] s b [u,key])).1.cells,.int .i64 (Zdy (.mk 3 [115,105,103,110] s b [u,key])).2]) H:=by
 have hsm:=ZaP hv
 have hu:u.within (.mk 3 [115,105,103,110] s b [u,key]):=XH (by simp)
 have hkey:key.within (.mk 3 [115,105,103,110] s b [u,key]):=XH (by simp)
 have c1:=ZlD ht (by have:=hsm.1;omega)
 rw [hv] at c1
 have c2:∀ H,CallOk E0 Tryz.prog 135 [.agg (Tm.mk 3 [115,105,103,110] s b [u,key]).cells,.str [115,105,103,110]] H (.bool true) H:=Zn8 3 [115,105,103,110] s b [u,key] [115,105,103,110]
 unfold Zdy
 rw [Zes _ _ _ hv]
 have hfr:=WV 0 hNil (QT ZR ZS Ug (.mk 3 [115,105,103,110] s b [u,key]) key (Yi 8 u)).1 (QT ZR ZS Ug (.mk 3 [115,105,103,110] s b [u,key]) key (Yi 8 u)).2
 obtain ⟨F,hF⟩:∃ F,F=Yi 8 u:=⟨_,rfl⟩
 rw [← hF] at hfr ⊢
 obtain ⟨T,hT⟩:∃ T,T=Tm.mk 3 [115,105,103,110] s b [u,key]:=⟨_,rfl⟩
 have hTc:T.cells= [.int .i64 3,.str [115,105,103,110],.int .i64 s,slV b 4 (Za [u,key])]:=by rw [hT];rfl
 rw [← hT] at ht hsm hu hkey c1 c2 hfr ⊢
 clear hT hv
 rw [hTc] at c1 c2 ⊢
 have hj0:(Za [u,key])[0]? = some u.cells:=rfl
 have hj1:(Za [u,key])[1]? = some key.cells:=rfl
 have hLl:(Za [u,key]).length=2:=rfl
 generalize Za [u,key]=L at c1 c2 hj0 hj1 hLl hTc ⊢
 have hu0:∃ k nm s b kz,u= .mk k nm s b kz:=by obtain ⟨k,nm,s,b,kz⟩:=u;exact ⟨_,_,_,_,_,rfl⟩
 obtain ⟨ku,nmu,su,bu,kzu,hu1⟩:=hu0
 have hj0':L[0]? = some [.int .i64 ku,.str nmu,.int .i64 su,slV bu 4 (Za kzu)]:=by rw [hj0,hu1];rfl
 clear hj0
 refine Zm (own:=(fun d=>[30026,30010,5055].any (Nat.beq d))) tOk fe137.ok (by simp only [ZJ,frzG,XY,ZD];rfl) hfr ?_
 refine Wp.seq ?_
 have hbn:ZP E0 .neq 3 (.int .i64 (L.length:Int)) (.int .i64 2)=some (.bool false):=by rw [hLl];rfl
 repeat' first|refine Jc (c1 _) ?_|refine Jc (c2 _) ?_|refine Ji ?_|refine Jl ?_|refine Jx ?_|refine Jt ?_|refine Jo ?_|fail
 clear c1 c2 hfr hbn
 refine Wp.while (fun m tm H => ∃ (acc : List Tm) (rest : Tm) (base : TM) (out : PV) (lv : List Nat) (nt : Nat), acc.length + m = 8 ∧ rest.within T ∧ (∀ x, x ∈ acc → x.within T) ∧
   (F=match Yi m rest with|some (l,r)=>some (acc++l,r)|none=>none)∧ApV true 4 (Za acc) out lv nt∧
   tm=ovr base [(1,.ptr 0 4 0 0),(2,.ptr 1 11 0 0),(4,.ptr 2 11 0 0),(5,out),(6,.ptr 3 4 0 0),(7,.int .i64 (acc.length:Int))]∧
   H=⟨[.cells 4 [[.int .i64 3,.str [115,105,103,110],.int .i64 s,slV b 4 L]],.cells 11 [[.str [],.int .i64 0,.str [],.int .i64 0,.nils,.bool false,.nils,.nils,.int .i64 0,.int .i64 0,.int .i64 0]],.cells 11 [[.str [],.int .i64 0,.str [],.int .i64 0,.nils,.bool false,.nils,.nils,.int .i64 0,.int .i64 0,.int .i64 0]],.cells 4 [rest.cells]],0,lv,nt⟩)
  (fun m tm H hI=>Wp.drop ?_) 8 _ _ ⟨[],u,_,_,_,_,rfl,hu,fun x hx=>absurd hx (by simp),by rw [hF];cases Yi 8 u<;>simp,.nil _ _ rfl,Zi ⟨rfl,rfl,rfl,rfl,rfl,rfl,trivial⟩,by rw [hu1];rfl⟩
 obtain ⟨acc,rest,base,out,lv,nt,hm,hw,hacc,hf,hA,rfl,rfl⟩:=hI
 have hle:=Zso hA
 clear hu1 hj0'
 cases m with
 | succ m =>
   have hnx:=Zr8 rest
   unfold Za9 at hnx
   rw [Uy] at hf
   cases hp:Yp rest with
   | none =>
     rw [hp] at hnx hf
     have hnx2:∀ H,CallOk E0 Tryz.prog 177 [.agg rest.cells] H (.tup [.agg Tm.zero.cells,.agg Tm.zero.cells,.bool false]) H:=hnx
     clear hnx
     rw [Zk] at hnx2
     rw [hf]
     obtain ⟨k1,nm1,s1,b1,kz1⟩:=rest
     simp only [Tm.cells] at hnx2 ⊢
     repeat' first|refine Jc (hnx2 _) ?_|refine Js ?_|refine Jt ?_|refine Jb ?_ ?_|refine Jo ?_|intro hb
     all_goals first
      | (show frz3 _ _ _=some (.tup [.agg Cred.zero.cells,.int .i64 2]);rw [X4];rfl)
      | (exfalso;simp at hb;omega)
   | some q =>
     obtain ⟨x,y⟩:=q
     rw [hp] at hnx hf
     have hnx2:∀ H,CallOk E0 Tryz.prog 177 [.agg rest.cells] H (.tup [.agg x.cells,.agg y.cells,.bool true]) H:=hnx
     clear hnx
     obtain ⟨w1,w2,w3⟩:=Y0 hp
     obtain ⟨out',lv',nt',hap,hA', -⟩:=hA.app YA (.sl .full 4 (Za [x])) (Zs _) (ZZ (by simp only [Zb,List.length_cons,List.length_nil];omega) (by decide)) (ZC _)
     rw [← Zo] at hA'
     rw [ZQ] at hap
     have hf2:F=match Yi m y with|some (l,r)=>some ((acc++ [x])++l,r)|none=>none:=by
      rw [hf]
      simp only []
      cases Yi m y with
      | none=>rfl
      | some p=>simp
     have wy:=Yl w2 hw
     have wx:∀ z,z∈acc++ [x]→z.within T:=fun z hz=>by
      rcases List.mem_append.1 hz with hz|hz
      · exact hacc z hz
      · rw [List.mem_singleton.1 hz];exact Yl w1 hw
     obtain ⟨kt,rfl⟩:=Uo hA' (by simp [Zo,ZQ])
     clear hf hp w1 w2 w3 hw
     obtain ⟨k0,nm0,s0,b0,kz0⟩:=rest
     obtain ⟨k1,nm1,s1,b1,kz1⟩:=x
     obtain ⟨k3,nm3,s3,b3,kz3⟩:=y
     simp only [Tm.cells] at hnx2 hap ⊢
     repeat' first|refine Jc (hnx2 _) ?_|refine Js ?_|refine Jt ?_|refine Jb ?_ ?_|refine Jo ?_|refine JB ?_|(apply dAq;rfl;rfl;rfl;rfl;rfl;rfl;(first|assumption|solve_by_elim))|refine Jh ?_|(apply dWS tOk follows;rfl;kernel_rfl;rfl)|intro hb
     all_goals first
      | (exfalso;simp at hb;omega)
      | skip
     exact DropQ.go [(1,.ptr 0 4 0 0),(2,.ptr 1 11 0 0),(4,.ptr 2 11 0 0),(5,.sl (.tok kt) 4 (Za (acc++ [Tm.mk k1 nm1 s1 b1 kz1]))),(6,.ptr 3 4 0 0),(7,.int .i64 ((acc++ [Tm.mk k1 nm1 s1 b1 kz1]).length:Int))] ⟨rfl,rfl,rfl,rfl,rfl,Zj (by rw [List.length_append];exact Zg (n:=acc.length+1) (by omega)),trivial⟩
      (by simp [under]) rfl (by simp [Yw,ZI,under,Zl]) (LoopI.go m (by omega) ⟨acc++ [Tm.mk k1 nm1 s1 b1 kz1],Tm.mk k3 nm3 s3 b3 kz3,_,_,lv',nt',by simp;omega,wy,wx,hf2,hA',rfl,rfl⟩)
 | zero =>
   have hl8:acc.length=8:=by omega
   obtain ⟨out',lv',nt',hap,hA', -⟩:=hA.app YA (.sl .full 4 (Za [rest])) (Zs _) (ZZ (by simp only [Zb,List.length_cons,List.length_nil];omega) (by decide)) (ZC _)
   rw [← Zo] at hA'
   rw [ZQ] at hap
   obtain ⟨kt,rfl⟩:=Uo hA' (by simp [Zo,ZQ])
   simp only [Yi,List.append_nil] at hf
   rw [hf]
   rcases acc with _|⟨a0,_|⟨a1,_|⟨a2,_|⟨a3,_|⟨a4,_|⟨a5,_|⟨a6,_|⟨a7,_|⟨a8,l⟩⟩⟩⟩⟩⟩⟩⟩⟩
   all_goals first
    | (exfalso;simp at hl8;done)
    | skip
   have x1:Zp E0 24 (.sl (.tok kt) 4 (Za [a0,a1,a2,a3,a4,a5,a6,a7,rest])) (.int .i64 1)=some (.fptr a1.cells 0):=ZeX (tl:= .tok kt) (l:=[a0,a1,a2,a3,a4,a5,a6,a7,rest]) (i:=1) (a:=a1) rfl
   have x2:Zp E0 24 (.sl (.tok kt) 4 (Za [a0,a1,a2,a3,a4,a5,a6,a7,rest])) (.int .i64 2)=some (.fptr a2.cells 0):=ZeX (tl:= .tok kt) (l:=[a0,a1,a2,a3,a4,a5,a6,a7,rest]) (i:=2) (a:=a2) rfl
   have x3:Zp E0 24 (.sl (.tok kt) 4 (Za [a0,a1,a2,a3,a4,a5,a6,a7,rest])) (.int .i64 3)=some (.fptr a3.cells 0):=ZeX (tl:= .tok kt) (l:=[a0,a1,a2,a3,a4,a5,a6,a7,rest]) (i:=3) (a:=a3) rfl
   have x4:Zp E0 24 (.sl (.tok kt) 4 (Za [a0,a1,a2,a3,a4,a5,a6,a7,rest])) (.int .i64 4)=some (.fptr a4.cells 0):=ZeX (tl:= .tok kt) (l:=[a0,a1,a2,a3,a4,a5,a6,a7,rest]) (i:=4) (a:=a4) rfl
   have x5:Zp E0 24 (.sl (.tok kt) 4 (Za [a0,a1,a2,a3,a4,a5,a6,a7,rest])) (.int .i64 5)=some (.fptr a5.cells 0):=ZeX (tl:= .tok kt) (l:=[a0,a1,a2,a3,a4,a5,a6,a7,rest]) (i:=5) (a:=a5) rfl
   have x6:Zp E0 24 (.sl (.tok kt) 4 (Za [a0,a1,a2,a3,a4,a5,a6,a7,rest])) (.int .i64 6)=some (.fptr a6.cells 0):=ZeX (tl:= .tok kt) (l:=[a0,a1,a2,a3,a4,a5,a6,a7,rest]) (i:=6) (a:=a6) rfl
   have x7:Zp E0 24 (.sl (.tok kt) 4 (Za [a0,a1,a2,a3,a4,a5,a6,a7,rest])) (.int .i64 7)=some (.fptr a7.cells 0):=ZeX (tl:= .tok kt) (l:=[a0,a1,a2,a3,a4,a5,a6,a7,rest]) (i:=7) (a:=a7) rfl
   have x8:Zp E0 24 (.sl (.tok kt) 4 (Za [a0,a1,a2,a3,a4,a5,a6,a7,rest])) (.int .i64 8)=some (.fptr rest.cells 0):=ZeX (tl:= .tok kt) (l:=[a0,a1,a2,a3,a4,a5,a6,a7,rest]) (i:=8) (a:=rest) rfl
   simp only [List.cons_append,List.nil_append] at hap
   have w1:=hacc a1 (by simp)
   have w2:=hacc a2 (by simp)
   have w4:=hacc a4 (by simp)
   have w5:=hacc a5 (by simp)
   have w6:=hacc a6 (by simp)
   have w7:=hacc a7 (by simp)
   have c3:=Zsc (ht.part w1) (hsm.part w1)
   have c4:=Zss (ht.part w4) (hsm.part w4)
   have c5:=Zss (ht.part w5) (hsm.part w5)
   have c6:=Zrj (t:=a6) (by have:=(hsm.part w6).2 a6 (Vc a6);omega)
   have c7:=Zrj (t:=a7) (by have:=(hsm.part w7).2 a7 (Vc a7);omega)
   have c8:=Zrj (t:=rest) (by have:=(hsm.part hw).2 rest (Vc rest);omega)
   have n1:=ZaR (hsm.part w1)
   have n4:=QI (hsm.part w4)
   have n5:=QI (hsm.part w5)
   have s2:=(hsm.part w2).1
   have sk:=(hsm.part hkey).1
   have c9:=ZrC ⟨(ZR a1).1,a2,a3.nm== [121,101,115],true,(ZS a4).1,true,(ZS a5).1,Ug a6.nm,Ug a7.nm,Ug rest.nm⟩ (key:=key) (by simp only;omega) (fun s hs=>by have:=n4.2 s hs;omega) (fun s hs=>by have:=n5.2 s hs;omega) (by simp only;omega) (by simp only;omega) (ht.part w2) (by simp only;omega) (ht.part hkey) (by omega)
   have hsi:=Xe (x:=⟨(ZR a1).1,a2,a3.nm== [121,101,115],true,(ZS a4).1,true,(ZS a5).1,Ug a6.nm,Ug a7.nm,Ug rest.nm⟩) (key:=key) (ht.part w2) (ht.part hkey)
   have c10:=c13 ht hsi.1 (by have:=hsm.1;omega) (by have:=hsi.2;simp only at this;omega)
   have hX:=fun m H=>WV m H ⟨(ZR a1).1,a2,a3.nm== [121,101,115],true,(ZS a4).1,true,(ZS a5).1,Ug a6.nm,Ug a7.nm,Ug rest.nm⟩ 0
   obtain ⟨z1,z2,z3,z4⟩:=Qj (rn:=ZR) (rl:=ZS) (num:=Ug) (t:=T) (key:=key) (l:=[a0,a1,a2,a3,a4,a5,a6,a7]) (r:=rest) rfl
   generalize QT ZR ZS Ug T key (some ([a0,a1,a2,a3,a4,a5,a6,a7],rest))=Z at z1 z2 z3 z4 ⊢
   generalize Cred.issue ⟨(ZR a1).1,a2,a3.nm== [121,101,115],true,(ZS a4).1,true,(ZS a5).1,Ug a6.nm,Ug a7.nm,Ug rest.nm⟩ key=I at c9 c10 hsi z2 z3 z4
   clear hsi n1 n4 n5 s2 sk w1 w2 w4 w5 w6 w7 hacc hf hl8
   generalize (ZR a1).1=N1 at c3 c9 hX z4
   generalize (ZR a1).2=B1 at c3 z1 z2 z3 z4
   generalize (ZS a4).1=N4 at c4 c9 hX z4
   generalize (ZS a4).2=B4 at c4 z1 z2 z3 z4
   generalize (ZS a5).1=N5 at c5 c9 hX z4
   generalize (ZS a5).2=B5 at c5 z1 z2 z3 z4
   generalize Ug a6.nm=M6 at c6 c9 hX z4
   generalize Ug a7.nm=M7 at c7 c9 hX z4
   generalize Ug rest.nm=M8 at c8 c9 hX z4
   obtain ⟨I1,e⟩:=I
   simp only at c9 c10 z2 z3 z4
   rw [show decide (T.cmp I1=0)=decide (I1.cmp T=0) by simp only [ZkL (a:=T)]] at c10
   generalize hR:decide (I1.cmp T=0)=R at c10
   rw [hTc] at c10
   clear hle hA hA'
   have hlen8:decide ((([a0,a1,a2,a3,a4,a5,a6,a7]:List Tm).length:Int)<8)=false:=by simp
   generalize Za [a0,a1,a2,a3,a4,a5,a6,a7,rest]=L8 at x1 x2 x3 x4 x5 x6 x7 x8 hap ⊢
   have hz1:∀ H,frz3 0 H (.tup [.agg [.str [],.int .i64 0,.str [],.int .i64 0,.nils,.bool false,.nils,.nils,.int .i64 0,.int .i64 0,.int .i64 0],.int .i64 2])=some (.tup [.agg Cred.zero.cells,.int .i64 2]):=fun H=>by rw [X4];rfl
   obtain ⟨k1,nm1,s1,b1,kz1⟩:=a1
   obtain ⟨k2,nm2,s2,b2,kz2⟩:=a2
   obtain ⟨k3,nm3,s3,b3,kz3⟩:=a3
   obtain ⟨k4,nm4,s4,b4,kz4⟩:=a4
   obtain ⟨k5,nm5,s5,b5,kz5⟩:=a5
   obtain ⟨k6,nm6,s6,b6,kz6⟩:=a6
   obtain ⟨k7,nm7,s7,b7,kz7⟩:=a7
   obtain ⟨k8,nm8,s8,b8,kz8⟩:=rest
   obtain ⟨k9,nm9,s9,b9,kz9⟩:=key
   obtain ⟨kI,nmI,sI,bI,kzI⟩:=I1
   simp only [Tm.nm] at c9 hX z4
   simp only [Cred.cells,Tm.cells,List.cons_append,List.nil_append] at c3 c4 c5 c6 c7 c8 c9 c10 hX x1 x2 x3 x4 x5 x6 x7 x8 hap hj1 ⊢
   have hco:[slV true 1 (Y2 N4),slV true 1 (Y2 N5)].all Z7=true:=by simp only [List.all_cons,List.all_nil,Ya,Bool.and_self]
   obtain ⟨Y,hY⟩:∃ Y,(nm3== [121,101,115])=Y:=⟨_,rfl⟩
   have hbi:ZP E0 .eql 9 (.str nm3) (.str [121,101,115])=some (.bool Y):=by
    show some (PV.bool (nm3== [121,101,115]))=_
    rw [hY]
   rw [hY] at c9 hX z4
   clear hY
   have hbd:=ZlG N4 N5
   cases B1 with
   | false =>
     rw [z1 rfl]
     clear z1 z2 z3 z4 hX c6 c7 c8 c9 c10
     repeat' first|refine Jk ?_|(apply qCl;rfl;rfl;rfl;rfl;first|exact c3 _|exact c4 _|exact c5 _)|refine Js ?_|refine JA ?_|refine JJ ?_|refine Jt ?_|refine Jb ?_ ?_|refine Jo ?_|intro hb
     all_goals exact hz1 _
   | true =>
     cases B4 with
     | false =>
       rw [z1 rfl]
       clear z1 z2 z3 z4 hX c6 c7 c8 c9 c10
       repeat' first|refine Jk ?_|(apply qCl;rfl;rfl;rfl;rfl;first|exact c3 _|exact c4 _|exact c5 _)|refine Js ?_|refine JA ?_|refine JJ ?_|refine Jt ?_|refine Jb ?_ ?_|refine Jo ?_|intro hb
       all_goals exact hz1 _
     | true =>
       cases B5 with
       | false =>
         rw [z1 rfl]
         clear z1 z2 z3 z4 hX c6 c7 c8 c9 c10
         repeat' first|(apply qCl;rfl;rfl;rfl;rfl;first|exact c3 _|exact c4 _|exact c5 _)|refine Js ?_|refine JA ?_|refine JJ ?_|refine Jt ?_|refine Jo ?_|fail
         all_goals exact hz1 _
       | true =>
         replace z2:=z2 rfl
         replace z3:=z3 rfl
         replace z4:=z4 rfl
         clear z1
         by_cases he:e=0
         · subst he
           cases R with
           | false =>
             rw [z3 (by simpa using hR)]
             repeat' first|(apply qCl;rfl;rfl;rfl;rfl;first|exact c3 _|exact c4 _|exact c5 _|exact c10 _)|refine Js ?_|refine JA ?_|refine JJ ?_|refine Jt ?_|refine Jo ?_|(apply dCl;rfl;rfl;rfl;rfl;rfl;first|exact c6 _|exact c7 _|exact c8 _|exact c9 _)|(apply dAl;rfl;rfl;rfl;rfl;exact IsV.ptrM;exact IsH.mkN)|refine JD ?_|(apply dBd;rfl;rfl;rfl;assumption;exact IsV.aggN;rfl)|refine JK ?_|refine JI ?_|refine Jh ?_|(apply dWB tOk follows;rfl;kernel_rfl;rfl;exact IsH.mkN)|fail
             all_goals exact hz1 _
           | true =>
             rw [z4 rfl (by simpa using hR)]
             repeat' first|(apply qCl;rfl;rfl;rfl;rfl;first|exact c3 _|exact c4 _|exact c5 _|exact c10 _)|refine Js ?_|refine JA ?_|refine JJ ?_|refine Jt ?_|refine Jo ?_|(apply dCl;rfl;rfl;rfl;rfl;rfl;first|exact c6 _|exact c7 _|exact c8 _|exact c9 _)|(apply dAl;rfl;rfl;rfl;rfl;exact IsV.ptrM;exact IsH.mkN)|refine JD ?_|(apply dBd;rfl;rfl;rfl;assumption;exact IsV.aggN;rfl)|refine JK ?_|refine JI ?_|refine Jh ?_|(apply dWB tOk follows;rfl;kernel_rfl;rfl;exact IsH.mkN)|fail
             all_goals exact hX _ _
         · rw [z2 he]
           repeat' first|refine Jk ?_|(apply qCl;rfl;rfl;rfl;rfl;first|exact c3 _|exact c4 _|exact c5 _|exact c10 _)|refine Js ?_|refine JA ?_|refine JJ ?_|refine Jt ?_|refine Jb ?_ ?_|refine Jo ?_|(apply dCl;rfl;rfl;rfl;rfl;rfl;first|exact c6 _|exact c7 _|exact c8 _|exact c9 _)|(apply dAl;rfl;rfl;rfl;rfl;exact IsV.ptrM;exact IsH.mkN)|refine JD ?_|(apply dBd;rfl;rfl;rfl;assumption;exact IsV.aggN;rfl)|refine JK ?_|refine JI ?_|refine Jh ?_|(apply dWB tOk follows;rfl;kernel_rfl;rfl;exact IsH.mkN)|intro hb
           all_goals first
            | exact hz1 _
            | (exfalso;have h9:= ‹(e != 0)=false›;simp at h9;exact he h9)
mutual
def Zoe:Tm→Bool
 | .mk k nm s _ kz=>(Lit.int .i64 k).wf&&((Lit.int .i64 s).wf&&(Nat.ble nm.length 1000&&(Nat.ble kz.length 1000&&Zkl kz)))
def Zkl:List Tm→Bool
 | []=>true
 |t::r=>Zoe t&&Zkl r
end
mutual
theorem ZiJ:∀ t:Tm,Zoe t=true→t.Ok
 | .mk k nm s b kz, h => by
   simp only [Zoe,Bool.and_eq_true,Nat.ble_eq] at h
   obtain ⟨h1,h2,h3,h4,h5⟩:=h
   exact .mk h1 h2 (by unfold maxLen;omega) (by unfold maxLen;omega) (Zfm kz h5)
theorem Zfm:∀ l:List Tm,Zkl l=true→∀ t,t∈l→t.Ok
 | [],_,t,h=>absurd h (by simp)
 | a :: r, h, t, ht => by
   simp only [Zkl,Bool.and_eq_true] at h
   rcases List.mem_cons.1 ht with e|ht
   · rw [e];exact ZiJ a h.1
   · exact Zfm r h.2 t ht
end
theorem c24 (ht:t.Ok) (hsz:t.size≤40000):∀ H,CallOk E0 Tryz.prog 24 [.agg t.cells] H (.tup [.agg (Zf t).1.cells,.int .i64 (Zf t).2]) H:=by
 by_cases h:t.valid≠0∨t.isB [115,105,103,110] 2=false
 · exact Zkp ht hsz h
 · have h1 : t.valid = 0 := by
     by_cases e:t.valid=0
     · exact e
     · exact absurd (.inl e) h
   have h2:t.isB [115,105,103,110] 2=true:=by
    cases e:t.isB [115,105,103,110] 2 with
    | true=>rfl
    | false=>exact absurd (.inr e) h
   obtain ⟨s,b,u,key,rfl⟩:=Zb3 h2
   exact ZiB ht h1
theorem ZqC (ht:t.Ok) (hsz:t.size≤40000):∀ H,CallOk E0 Tryz.prog 137 [.agg t.cells] H (.tup [.agg (Zf t).1.cells,.int .i64 (Zf t).2]) H:=by
 rw [Zhx]
 by_cases h:t.valid≠0∨t.isB [115,105,103,110] 2=false
 · exact Zig ht hsz h
 · have h1 : t.valid = 0 := by
     by_cases e:t.valid=0
     · exact e
     · exact absurd (.inl e) h
   have h2:t.isB [115,105,103,110] 2=true:=by
    cases e:t.isB [115,105,103,110] 2 with
    | true=>rfl
    | false=>exact absurd (.inr e) h
   obtain ⟨s,b,u,key,rfl⟩:=Zb3 h2
   exact ZgX ht h1
def UJ (name:Bs):List Tm→Option (Tm×Int)
 | []=>none
 |t::r=>if (Zf t).2=0∧(Zf t).1.sub=name then some ((Zf t).1.key,(Zf t).1.till) else UJ name r
def Znc (l:List Tm) (name:Bs):Tm×Int:=
 if 32<l.length then (.zero,3) else if ZB name=false then (.zero,2) else match UJ name l.reverse with
  | none=>(.zero,4)
  | some (k,e)=>if e=0 then (.zero,4) else (k,0)
def Zbf (l:List Tm) (name:Bs):Tm×Int:=((Znc l name).1.cl,(Znc l name).2)
theorem Ze4 {s:Bs} (hs:s.length≤100000):∀ H,CallOk E0 Tryz.prog 23 [.str s,.str s] H (.bool (ZB s)) H:=by
 have hc:=c53 hs
 have hb1:ZP E0 .eql 9 (.str s) (.str s)=some (.bool true):=by
  show some (PV.bool (s==s))=_
  simp
 generalize ZB s=d at hc ⊢
 refine Jw tOk fe23.ok rfl ?_
 cases d with
 | false =>
   repeat' first|refine Jk ?_|refine Jc (hc _) ?_|refine Jt ?_|refine Jo ?_|fail
   all_goals rfl
 | true =>
   repeat' first|refine Jk ?_|refine Jc (hc _) ?_|refine Ji ?_|refine Jt ?_|refine Jo ?_|fail
   all_goals rfl
theorem c46 (ht:t.Ok) (hs:t.size≤100000):∀ H,CallOk E0 Tryz.prog 46 [.agg t.cells,.nils] H (.tup [.agg t.cl.cells,.int .i64 0]) H:=by
 have hc:=c88 ht hs
 have hfr:=Yr 0 hNil t.cl 0
 generalize t.cl=u at hc hfr ⊢
 obtain ⟨k,nm,s,b,kz⟩:=t
 obtain ⟨k',nm',s',b',kz'⟩:=u
 simp only [Tm.cells] at hc hfr ⊢
 refine Jw tOk fe46.ok hfr ?_
 repeat' first|refine Jo ?_|fail
 refine Wp.while (fun m tm H=>∃ base:TM,tm=ovr base [(2,.ptr 0 4 0 0),(4,.ptr 1 4 0 0),(9,.int .i64 0),(10,.int .i64 0)]∧H=⟨[.cells 4 [[.int .i64 k,.str nm,.int .i64 s,slV b 4 (Za kz)]],.cells 4 [[.int .i64 0,.str [],.int .i64 0,.nils]]],0,[],0⟩)
  (fun m tm H hI=>?_) 0 _ _ ⟨_,Zi ⟨rfl,rfl,rfl,rfl,trivial⟩,rfl⟩
 obtain ⟨base,rfl,rfl⟩:=hI
 repeat' first|refine Jc (hc _) ?_|(apply qF (ty:=0);rfl;rfl;rfl)|refine Jo ?_|fail
 all_goals exact Yr _ _ (.mk k' nm' s' b' kz') 0
theorem c20 (ht:t.Ok) (hs:t.size≤100000):∀ H,CallOk E0 Tryz.prog 20 [.agg t.cells] H (.agg t.cl.cells) H:=by
 have hc:=c46 ht hs
 generalize t.cl=u at hc ⊢
 obtain ⟨k,nm,s,b,kz⟩:=t
 obtain ⟨k',nm',s',b',kz'⟩:=u
 simp only [Tm.cells] at hc ⊢
 refine Jw tOk fe20.ok (Z6 _ _ _ _ _ _ _) ?_
 repeat' first|refine Jc (hc _) ?_|refine Jo ?_|fail
 all_goals exact Z6 _ _ _ _ _ _ _
theorem c65 (ht:t.Ok):t.size≤100000→∀ H,CallOk E0 Tryz.prog 65 [.agg t.cells] H (.agg t.cl.cells) H:=by
 induction ht with
 | @mk k nm s b kz hk hs hn hl hok ih=>
 intro hsz
 simp only [Tm.size] at hsz
 have hkl:kz.length≤Zx kz:=by
  rw [← VR]
  have:∀ l:List Tm,l.length≤(UB l).length:=by
   intro l
   induction l with
   | nil=>simp
   | cons a r ih =>
     have:=a.all_len
     have:=Y3 a
     simp only [UB,List.length_append,List.length_cons]
     omega
  exact this kz
 simp only [Tm.cl,Tm.cells]
 refine Jw tOk fe65.ok (Z6 _ _ _ _ _ _ _) ?_
 repeat' first|refine Jl ?_|refine Jo ?_|fail
 refine Wp.while (fun m tm H => ∃ (i : Nat) (base : TM) (out : PV) (lv : List Nat) (nt : Nat), i + m = kz.length ∧ ApV true 4 (Za (clL (kz.take i))) out lv nt ∧
   tm=ovr base [(2,.ptr 1 4 0 0),(3,.ptr 2 4 0 0),(9,slV b 4 (Za kz)),(10,.int .i64 (kz.length:Int)),(11,.int .i64 (i:Int))]∧H=⟨[.cells 4 [[.int .i64 k,.str nm,.int .i64 s,slV b 4 (Za kz)]],.cells 4 [[.int .i64 0,.str [],.int .i64 0,.nils]],.cells 4 [[.int .i64 k,.str nm,.int .i64 s,out]]],0,lv,nt⟩)
  (fun m tm H hI=>Wp.drop ?_) kz.length _ _ ⟨0,_,_,_,_,by omega,.nil _ _ rfl,Zi ⟨rfl,rfl,rfl,Zj (by rw [Zb]),rfl,trivial⟩,rfl⟩
 obtain ⟨i,base,out,lv,nt,hi,hA,rfl,rfl⟩:=hI
 by_cases hlt:i<kz.length
 · obtain ⟨t', ht'⟩ : ∃ t', kz[i]? = some t' := ⟨kz[i], by simp⟩
   have hm:t'∈kz:=List.mem_of_getElem? ht'
   have hle:=XB hm
   have hs:=ZcL ht'
   have hc:=ih t' hm (by omega)
   have hlen1:(clL (kz.take i)).length≤kz.length:=by
    rw [We,List.length_take];omega
   obtain ⟨out',lv',nt',hap,hA', -⟩:=hA.app YA (.sl .full 4 (Za [t'.cl])) (Zs _) (ZZ (by simp only [Zb,List.length_cons,List.length_nil];omega) (by decide)) (ZC _)
   rw [← Zo, ← hs] at hA'
   obtain ⟨kc,nc,sc,bc,lc,ec⟩:∃ kc nc sc bc lc,t'.cl= .mk kc nc sc bc lc:=by
    obtain ⟨k',nm',s',b',kz'⟩:=t'
    exact ⟨_,_,_,_,_,rfl⟩
   rw [ec] at hc hap
   rw [Wo] at hap
   obtain ⟨kt,rfl⟩:=Uo hA' (by rw [hs,Zo,ZQ];simp)
   obtain ⟨k',nm',s',b',kz'⟩:=t'
   have hj:=Zn ht'
   repeat' first|refine Jx ?_|refine Jz ?_ ?_|refine Jo ?_|refine Jd (hc _) ?_|refine JB ?_|(apply dAp;rfl;rfl;rfl;rfl;rfl;(first|assumption|solve_by_elim);rfl)|refine Jh ?_|(apply Wp.drawS tOk follows;kernel_rfl;rfl)|intro hb
   · exact DropQ.go [(2, .ptr 1 4 0 0), (3, .ptr 2 4 0 0), (9, slV b 4 (Za kz)), (10, .int .i64 (kz.length : Int)), (11, .int .i64 ((i + 1 : Nat) : Int))] ⟨rfl, rfl, rfl, rfl, Zj (Zg (n := i + 1) (by omega)), trivial⟩
       (by simp [Zl,under]) rfl (by simp [Yw,ZI,under,Zl]) (LoopI.go (m-1) (by omega) ⟨i+1,_,_,lv',nt',by omega,hA',rfl,rfl⟩)
   · exfalso;simp at hb;omega
 · have e : i = kz.length := by omega
   subst e
   rw [List.take_length] at hA
   have hco:=ZaD hA k nm s
   repeat' first|refine Jz ?_ ?_|refine Jo ?_|intro hb
   · exfalso;simp at hb
   · exact ZiP hA _ _ _ _ _
