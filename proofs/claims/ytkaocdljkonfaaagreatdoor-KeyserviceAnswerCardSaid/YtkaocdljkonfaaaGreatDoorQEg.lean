/-
  Credentials: read by the reference's text. Credentials: what the statements ask beside: small, the same. The calls of the examples of the credentials,
-/
import Derived.Test.YtkaocdljkonfaaaGreatDoorQDc
set_option maxHeartbeats 64000000
set_option maxRecDepth 100000
namespace Go.Vm.Seat
variable {t:Tm}
open Go.Proofs
theorem Zh4 (ht:t.Ok) (hsz:t.size≤40000) (h:t.valid≠0∨t.isB [115,105,103,110] 2=false):∀ H,CallOk E0 Tryz.prog 87 [.agg t.cells] H (.tup [.agg (Zcz t).1.cells,.int .i64 (Zcz t).2]) H:=by
 have c1:=Zkn ht (by omega)
 unfold Zcz
 rw [Zd6 _ _ _ h]
 have hfr:=WI 0 hNil Cred.zero 2
 generalize t.valid=e at c1 h
 obtain ⟨k,nm,s,b,kids⟩:=t
 have c2:=Znp k nm s b kids [115,105,103,110]
 have hB:(Tm.mk k nm s b kids).isB [115,105,103,110] 2=(isF k nm [115,105,103,110]&&decide (kids.length=2)):=by simp [Tm.isB,isF,Bool.and_assoc]
 rw [hB] at h
 clear hB
 generalize isF k nm [115,105,103,110]=B at c2 h
 simp only [Tm.cells] at c1 c2
 refine Jw tOk fe87.ok hfr ?_
 by_cases h1:e=0
 · subst h1
   cases B with
   | false =>
     repeat' first|refine Jk ?_|refine Jc (c1 _) ?_|refine Jc (c2 _) ?_|refine Jt ?_|refine Jo ?_|fail
     all_goals (rw [XS];rfl)
   | true =>
     have hl:¬ kids.length=2:=by simpa using h
     repeat' first|refine Jc (c1 _) ?_|refine Jc (c2 _) ?_|refine Jl ?_|refine Jt ?_|refine Jb ?_ ?_|refine Jo ?_|intro hb
     all_goals first
      | (rw [XS];rfl)
      | (exfalso;have h9:= ‹(((Za kids).length:Int) != 2)=false›;rw [Zb] at h9;simp at h9;omega)
 · clear h
   repeat' first|refine Jk ?_|refine Jc (c1 _) ?_|refine Jc (c2 _) ?_|refine Jl ?_|refine Jt ?_|refine Jb ?_ ?_|refine Jo ?_|intro hb
   all_goals first
    | (rw [XS];rfl)
    | (exfalso;have h9:= ‹(e != 0)=false›;simp at h9;exact h1 h9)
theorem ZfK {s : Int} {b : Bool} {u key : Tm} (ht : (Tm.mk 3 [115, 105, 103, 110] s b [u, key]).Ok) (hv : (Tm.mk 3 [115, 105, 103, 110] s b [u, key]).valid = 0) :
  ∀ H,CallOk E0 Tryz.prog 87 [.agg (Tm.mk 3 [115,105,103,110] s b [u,key]).cells] H (.tup [.agg (Zcz (.mk 3 [115,105,103,110] s b [u,key])).1.cells,.int .i64 (Zcz (.mk 3 [115,105,103,110] s b [u,key])).2]) H:=by
 have hsm:=Zak hv
 have hu:u.within (.mk 3 [115,105,103,110] s b [u,key]):=Xv (by simp)
 have hkey:key.within (.mk 3 [115,105,103,110] s b [u,key]):=Xv (by simp)
 have c1:=Zkn ht (by have:=hsm.1;omega)
 rw [hv] at c1
 have c2:∀ H,CallOk E0 Tryz.prog 120 [.agg (Tm.mk 3 [115,105,103,110] s b [u,key]).cells,.str [115,105,103,110]] H (.bool true) H:=Znp 3 [115,105,103,110] s b [u,key] [115,105,103,110]
 unfold Zcz
 rw [Zd4 _ _ _ hv]
 have hfr:=WI 0 hNil (Qu ZO ZR V3 (.mk 3 [115,105,103,110] s b [u,key]) key (Ye 8 u)).1 (Qu ZO ZR V3 (.mk 3 [115,105,103,110] s b [u,key]) key (Ye 8 u)).2
 obtain ⟨F,hF⟩:∃ F,F=Ye 8 u:=⟨_,rfl⟩
 rw [← hF] at hfr ⊢
 obtain ⟨T,hT⟩:∃ T,T=Tm.mk 3 [115,105,103,110] s b [u,key]:=⟨_,rfl⟩
 have hTc:T.cells= [.int .i64 3,.str [115,105,103,110],.int .i64 s,slV b 4 (Za [u,key])]:=by rw [hT];rfl
 rw [← hT] at ht hsm hu hkey c1 c2 hfr ⊢
 clear hT hv
 rw [hTc] at c1 c2 ⊢
 have hj0:(Za [u,key])[0]? = some u.cells:=rfl
 have hj1:(Za [u,key])[1]? = some key.cells:=rfl
 have hLl:(Za [u,key]).length=2:=rfl
 generalize Za [u,key]=L at c1 c2 hj0 hj1 hLl hTc ⊢
 have hu0:∃ k nm s b kids,u= .mk k nm s b kids:=by obtain ⟨k,nm,s,b,kids⟩:=u;exact ⟨_,_,_,_,_,rfl⟩
 obtain ⟨ku,nmu,su,bu,kidsu,hu1⟩:=hu0
 have hj0':L[0]? = some [.int .i64 ku,.str nmu,.int .i64 su,slV bu 4 (Za kidsu)]:=by rw [hj0,hu1];rfl
 clear hj0
 refine Zt (own:=(fun d=>[30026,30010,5055].any (Nat.beq d))) tOk fe87.ok (by simp only [ZZ,frzG,Vc,Z5];rfl) hfr ?_
 refine Wp.seq ?_
 have hbn:ZQ E0 .neq 3 (.int .i64 (L.length:Int)) (.int .i64 2)=some (.bool false):=by rw [hLl];rfl
 repeat' first|refine Jc (c1 _) ?_|refine Jc (c2 _) ?_|refine Ji ?_|refine Jl ?_|refine Jx ?_|refine Jt ?_|refine Jo ?_|fail
 clear c1 c2 hfr hbn
 refine Wp.while (fun m tm H => ∃ (acc : List Tm) (rest : Tm) (base : TM) (out : PV) (lv : List Nat) (nt : Nat), acc.length + m = 8 ∧ rest.within T ∧ (∀ x, x ∈ acc → x.within T) ∧
   (F=match Ye m rest with|some (l,r)=>some (acc++l,r)|none=>none)∧ApV true 4 (Za acc) out lv nt∧
   tm=ovr base [(1,.ptr 0 4 0 0),(2,.ptr 1 11 0 0),(4,.ptr 2 11 0 0),(5,out),(6,.ptr 3 4 0 0),(7,.int .i64 (acc.length:Int))]∧
   H=⟨[.cells 4 [[.int .i64 3,.str [115,105,103,110],.int .i64 s,slV b 4 L]],.cells 11 [[.str [],.int .i64 0,.str [],.int .i64 0,.nils,.bool false,.nils,.nils,.int .i64 0,.int .i64 0,.int .i64 0]],.cells 11 [[.str [],.int .i64 0,.str [],.int .i64 0,.nils,.bool false,.nils,.nils,.int .i64 0,.int .i64 0,.int .i64 0]],.cells 4 [rest.cells]],0,lv,nt⟩)
  (fun m tm H hI=>Wp.drop ?_) 8 _ _ ⟨[],u,_,_,_,_,rfl,hu,fun x hx=>absurd hx (by simp),by rw [hF];cases Ye 8 u<;>simp,.nil _ _ rfl,Zh ⟨rfl,rfl,rfl,rfl,rfl,rfl,trivial⟩,by rw [hu1];rfl⟩
 obtain ⟨acc,rest,base,out,lv,nt,hm,hw,hacc,hf,hA,rfl,rfl⟩:=hI
 have hle:=ZqC hA
 clear hu1 hj0'
 cases m with
 | succ m =>
   have hnx:=Zqx rest
   unfold ZaF at hnx
   rw [V7] at hf
   cases hp:Ym rest with
   | none =>
     rw [hp] at hnx hf
     have hnx2:∀ H,CallOk E0 Tryz.prog 141 [.agg rest.cells] H (.tup [.agg Tm.zero.cells,.agg Tm.zero.cells,.bool false]) H:=hnx
     clear hnx
     rw [Zq] at hnx2
     rw [hf]
     obtain ⟨k1,nm1,s1,b1,kids1⟩:=rest
     simp only [Tm.cells] at hnx2 ⊢
     repeat' first|refine Jc (hnx2 _) ?_|refine Js ?_|refine Jt ?_|refine Jb ?_ ?_|refine Jo ?_|intro hb
     all_goals first
      | (show frz3 _ _ _=some (.tup [.agg Cred.zero.cells,.int .i64 2]);rw [XS];rfl)
      | (exfalso;simp at hb;omega)
   | some q =>
     obtain ⟨x,y⟩:=q
     rw [hp] at hnx hf
     have hnx2:∀ H,CallOk E0 Tryz.prog 141 [.agg rest.cells] H (.tup [.agg x.cells,.agg y.cells,.bool true]) H:=hnx
     clear hnx
     obtain ⟨w1,w2,w3⟩:=YT hp
     obtain ⟨out',lv',nt',hap,hA', -⟩:=hA.app Yw (.sl .full 4 (Za [x])) (Zm _) (ZU (by simp only [Zb,List.length_cons,List.length_nil];omega) (by decide)) (Zv _)
     rw [← Zk] at hA'
     rw [ZC] at hap
     have hf2:F=match Ye m y with|some (l,r)=>some ((acc++ [x])++l,r)|none=>none:=by
      rw [hf]
      simp only []
      cases Ye m y with
      | none=>rfl
      | some p=>simp
     have wy:=Yi w2 hw
     have wx:∀ z,z∈acc++ [x]→z.within T:=fun z hz=>by
      rcases List.mem_append.1 hz with hz|hz
      · exact hacc z hz
      · rw [List.mem_singleton.1 hz];exact Yi w1 hw
     obtain ⟨kt,rfl⟩:=V2 hA' (by simp [Zk,ZC])
     clear hf hp w1 w2 w3 hw
     obtain ⟨k0,nm0,s0,b0,kids0⟩:=rest
     obtain ⟨k1,nm1,s1,b1,kids1⟩:=x
     obtain ⟨k3,nm3,s3,b3,kids3⟩:=y
     simp only [Tm.cells] at hnx2 hap ⊢
     repeat' first|refine Jc (hnx2 _) ?_|refine Js ?_|refine Jt ?_|refine Jb ?_ ?_|refine Jo ?_|refine JB ?_|(apply dAq;rfl;rfl;rfl;rfl;rfl;rfl;(first|assumption|solve_by_elim))|refine Jh ?_|(apply dWS tOk follows;rfl;kernel_rfl;rfl)|intro hb
     all_goals first
      | (exfalso;simp at hb;omega)
      | skip
     exact DropQ.go [(1,.ptr 0 4 0 0),(2,.ptr 1 11 0 0),(4,.ptr 2 11 0 0),(5,.sl (.tok kt) 4 (Za (acc++ [Tm.mk k1 nm1 s1 b1 kids1]))),(6,.ptr 3 4 0 0),(7,.int .i64 ((acc++ [Tm.mk k1 nm1 s1 b1 kids1]).length:Int))] ⟨rfl,rfl,rfl,rfl,rfl,Zi (by rw [List.length_append];exact Zf (n:=acc.length+1) (by omega)),trivial⟩
      (by simp [under]) rfl (by simp [YF,ZP,under,Zp]) (LoopI.go m (by omega) ⟨acc++ [Tm.mk k1 nm1 s1 b1 kids1],Tm.mk k3 nm3 s3 b3 kids3,_,_,lv',nt',by simp;omega,wy,wx,hf2,hA',rfl,rfl⟩)
 | zero =>
   have hl8:acc.length=8:=by omega
   obtain ⟨out',lv',nt',hap,hA', -⟩:=hA.app Yw (.sl .full 4 (Za [rest])) (Zm _) (ZU (by simp only [Zb,List.length_cons,List.length_nil];omega) (by decide)) (Zv _)
   rw [← Zk] at hA'
   rw [ZC] at hap
   obtain ⟨kt,rfl⟩:=V2 hA' (by simp [Zk,ZC])
   simp only [Ye,List.append_nil] at hf
   rw [hf]
   rcases acc with _|⟨a0,_|⟨a1,_|⟨a2,_|⟨a3,_|⟨a4,_|⟨a5,_|⟨a6,_|⟨a7,_|⟨a8,l⟩⟩⟩⟩⟩⟩⟩⟩⟩
   all_goals first
    | (exfalso;simp at hl8;done)
    | skip
   have x1:Zo E0 22 (.sl (.tok kt) 4 (Za [a0,a1,a2,a3,a4,a5,a6,a7,rest])) (.int .i64 1)=some (.fptr a1.cells 0):=Zd7 (tl:= .tok kt) (l:=[a0,a1,a2,a3,a4,a5,a6,a7,rest]) (i:=1) (a:=a1) rfl
   have x2:Zo E0 22 (.sl (.tok kt) 4 (Za [a0,a1,a2,a3,a4,a5,a6,a7,rest])) (.int .i64 2)=some (.fptr a2.cells 0):=Zd7 (tl:= .tok kt) (l:=[a0,a1,a2,a3,a4,a5,a6,a7,rest]) (i:=2) (a:=a2) rfl
   have x3:Zo E0 22 (.sl (.tok kt) 4 (Za [a0,a1,a2,a3,a4,a5,a6,a7,rest])) (.int .i64 3)=some (.fptr a3.cells 0):=Zd7 (tl:= .tok kt) (l:=[a0,a1,a2,a3,a4,a5,a6,a7,rest]) (i:=3) (a:=a3) rfl
   have x4:Zo E0 22 (.sl (.tok kt) 4 (Za [a0,a1,a2,a3,a4,a5,a6,a7,rest])) (.int .i64 4)=some (.fptr a4.cells 0):=Zd7 (tl:= .tok kt) (l:=[a0,a1,a2,a3,a4,a5,a6,a7,rest]) (i:=4) (a:=a4) rfl
   have x5:Zo E0 22 (.sl (.tok kt) 4 (Za [a0,a1,a2,a3,a4,a5,a6,a7,rest])) (.int .i64 5)=some (.fptr a5.cells 0):=Zd7 (tl:= .tok kt) (l:=[a0,a1,a2,a3,a4,a5,a6,a7,rest]) (i:=5) (a:=a5) rfl
   have x6:Zo E0 22 (.sl (.tok kt) 4 (Za [a0,a1,a2,a3,a4,a5,a6,a7,rest])) (.int .i64 6)=some (.fptr a6.cells 0):=Zd7 (tl:= .tok kt) (l:=[a0,a1,a2,a3,a4,a5,a6,a7,rest]) (i:=6) (a:=a6) rfl
   have x7:Zo E0 22 (.sl (.tok kt) 4 (Za [a0,a1,a2,a3,a4,a5,a6,a7,rest])) (.int .i64 7)=some (.fptr a7.cells 0):=Zd7 (tl:= .tok kt) (l:=[a0,a1,a2,a3,a4,a5,a6,a7,rest]) (i:=7) (a:=a7) rfl
   have x8:Zo E0 22 (.sl (.tok kt) 4 (Za [a0,a1,a2,a3,a4,a5,a6,a7,rest])) (.int .i64 8)=some (.fptr rest.cells 0):=Zd7 (tl:= .tok kt) (l:=[a0,a1,a2,a3,a4,a5,a6,a7,rest]) (i:=8) (a:=rest) rfl
   simp only [List.cons_append,List.nil_append] at hap
   have w1:=hacc a1 (by simp)
   have w2:=hacc a2 (by simp)
   have w4:=hacc a4 (by simp)
   have w5:=hacc a5 (by simp)
   have w6:=hacc a6 (by simp)
   have w7:=hacc a7 (by simp)
   have c3:=Zqp (ht.part w1) (hsm.part w1)
   have c4:=c143 (ht.part w4) (hsm.part w4)
   have c5:=c143 (ht.part w5) (hsm.part w5)
   have c6:=ZnK (t:=a6) (by have:=(hsm.part w6).2 a6 (WQ a6);omega)
   have c7:=ZnK (t:=a7) (by have:=(hsm.part w7).2 a7 (WQ a7);omega)
   have c8:=ZnK (t:=rest) (by have:=(hsm.part hw).2 rest (WQ rest);omega)
   have n1:=QM (hsm.part w1)
   have n4:=Qe (hsm.part w4)
   have n5:=Qe (hsm.part w5)
   have s2:=(hsm.part w2).1
   have sk:=(hsm.part hkey).1
   have c9:=c88 ⟨(ZO a1).1,a2,a3.nm== [121,101,115],true,(ZR a4).1,true,(ZR a5).1,V3 a6.nm,V3 a7.nm,V3 rest.nm⟩ (key:=key) (by simp only;omega) (fun s hs=>by have:=n4.2 s hs;omega) (fun s hs=>by have:=n5.2 s hs;omega) (by simp only;omega) (by simp only;omega) (ht.part w2) (by simp only;omega) (ht.part hkey) (by omega)
   have hsi:=Xy (x:=⟨(ZO a1).1,a2,a3.nm== [121,101,115],true,(ZR a4).1,true,(ZR a5).1,V3 a6.nm,V3 a7.nm,V3 rest.nm⟩) (key:=key) (ht.part w2) (ht.part hkey)
   have c10:=c23 ht hsi.1 (by have:=hsm.1;omega) (by have:=hsi.2;simp only at this;omega)
   have hX:=fun m H=>WI m H ⟨(ZO a1).1,a2,a3.nm== [121,101,115],true,(ZR a4).1,true,(ZR a5).1,V3 a6.nm,V3 a7.nm,V3 rest.nm⟩ 0
   obtain ⟨z1,z2,z3,z4⟩:=US (rn:=ZO) (rl:=ZR) (num:=V3) (t:=T) (key:=key) (l:=[a0,a1,a2,a3,a4,a5,a6,a7]) (r:=rest) rfl
   generalize Qu ZO ZR V3 T key (some ([a0,a1,a2,a3,a4,a5,a6,a7],rest))=Z at z1 z2 z3 z4 ⊢
   generalize Cred.issue ⟨(ZO a1).1,a2,a3.nm== [121,101,115],true,(ZR a4).1,true,(ZR a5).1,V3 a6.nm,V3 a7.nm,V3 rest.nm⟩ key=I at c9 c10 hsi z2 z3 z4
   clear hsi n1 n4 n5 s2 sk w1 w2 w4 w5 w6 w7 hacc hf hl8
   generalize (ZO a1).1=N1 at c3 c9 hX z4
   generalize (ZO a1).2=B1 at c3 z1 z2 z3 z4
   generalize (ZR a4).1=N4 at c4 c9 hX z4
   generalize (ZR a4).2=B4 at c4 z1 z2 z3 z4
   generalize (ZR a5).1=N5 at c5 c9 hX z4
   generalize (ZR a5).2=B5 at c5 z1 z2 z3 z4
   generalize V3 a6.nm=M6 at c6 c9 hX z4
   generalize V3 a7.nm=M7 at c7 c9 hX z4
   generalize V3 rest.nm=M8 at c8 c9 hX z4
   obtain ⟨I1,e⟩:=I
   simp only at c9 c10 z2 z3 z4
   rw [show decide (T.cmp I1=0)=decide (I1.cmp T=0) by simp only [ZiH (a:=T)]] at c10
   generalize hR:decide (I1.cmp T=0)=R at c10
   rw [hTc] at c10
   clear hle hA hA'
   have hlen8:decide ((([a0,a1,a2,a3,a4,a5,a6,a7]:List Tm).length:Int)<8)=false:=by simp
   generalize Za [a0,a1,a2,a3,a4,a5,a6,a7,rest]=L8 at x1 x2 x3 x4 x5 x6 x7 x8 hap ⊢
   have hz1:∀ H,frz3 0 H (.tup [.agg [.str [],.int .i64 0,.str [],.int .i64 0,.nils,.bool false,.nils,.nils,.int .i64 0,.int .i64 0,.int .i64 0],.int .i64 2])=some (.tup [.agg Cred.zero.cells,.int .i64 2]):=fun H=>by rw [XS];rfl
   obtain ⟨k1,nm1,s1,b1,kids1⟩:=a1
   obtain ⟨k2,nm2,s2,b2,kids2⟩:=a2
   obtain ⟨k3,nm3,s3,b3,kids3⟩:=a3
   obtain ⟨k4,nm4,s4,b4,kids4⟩:=a4
   obtain ⟨k5,nm5,s5,b5,kids5⟩:=a5
   obtain ⟨k6,nm6,s6,b6,kids6⟩:=a6
   obtain ⟨k7,nm7,s7,b7,kids7⟩:=a7
   obtain ⟨k8,nm8,s8,b8,kids8⟩:=rest
   obtain ⟨k9,nm9,s9,b9,kids9⟩:=key
   obtain ⟨kI,nmI,sI,bI,kidsI⟩:=I1
   simp only [Tm.nm] at c9 hX z4
   simp only [Cred.cells,Tm.cells,List.cons_append,List.nil_append] at c3 c4 c5 c6 c7 c8 c9 c10 hX x1 x2 x3 x4 x5 x6 x7 x8 hap hj1 ⊢
   have hco:[slV true 1 (Y1 N4),slV true 1 (Y1 N5)].all Z4=true:=by simp only [List.all_cons,List.all_nil,Ya,Bool.and_self]
   obtain ⟨Y,hY⟩:∃ Y,(nm3== [121,101,115])=Y:=⟨_,rfl⟩
   have hbi:ZQ E0 .eql 9 (.str nm3) (.str [121,101,115])=some (.bool Y):=by
    show some (PV.bool (nm3== [121,101,115]))=_
    rw [hY]
   rw [hY] at c9 hX z4
   clear hY
   have hbd:=Zku N4 N5
   cases B1 with
   | false =>
     rw [z1 rfl]
     clear z1 z2 z3 z4 hX c6 c7 c8 c9 c10
     repeat' first|refine Jk ?_|(apply qCl;rfl;rfl;rfl;rfl;first|exact c3 _|exact c4 _|exact c5 _)|refine Js ?_|refine JA ?_|refine JJ ?_|refine Jt ?_|refine Jb ?_ ?_|refine Jo ?_|intro hb
     all_goals exact hz1 _
   | true =>
     cases B4 with
     | false =>
       rw [z1 rfl]
       clear z1 z2 z3 z4 hX c6 c7 c8 c9 c10
       repeat' first|refine Jk ?_|(apply qCl;rfl;rfl;rfl;rfl;first|exact c3 _|exact c4 _|exact c5 _)|refine Js ?_|refine JA ?_|refine JJ ?_|refine Jt ?_|refine Jb ?_ ?_|refine Jo ?_|intro hb
       all_goals exact hz1 _
     | true =>
       cases B5 with
       | false =>
         rw [z1 rfl]
         clear z1 z2 z3 z4 hX c6 c7 c8 c9 c10
         repeat' first|(apply qCl;rfl;rfl;rfl;rfl;first|exact c3 _|exact c4 _|exact c5 _)|refine Js ?_|refine JA ?_|refine JJ ?_|refine Jt ?_|refine Jo ?_|fail
         all_goals exact hz1 _
       | true =>
         replace z2:=z2 rfl
         replace z3:=z3 rfl
         replace z4:=z4 rfl
         clear z1
         by_cases he:e=0
         · subst he
           cases R with
           | false =>
             rw [z3 (by simpa using hR)]
             repeat' first|(apply qCl;rfl;rfl;rfl;rfl;first|exact c3 _|exact c4 _|exact c5 _|exact c10 _)|refine Js ?_|refine JA ?_|refine JJ ?_|refine Jt ?_|refine Jo ?_|(apply dCl;rfl;rfl;rfl;rfl;rfl;first|exact c6 _|exact c7 _|exact c8 _|exact c9 _)|(apply dAl;rfl;rfl;rfl;rfl;exact IsV.ptrM;exact IsH.mkN)|refine JD ?_|(apply dBd;rfl;rfl;rfl;assumption;exact IsV.aggN;rfl)|refine JK ?_|refine JI ?_|refine Jh ?_|(apply dWB tOk follows;rfl;kernel_rfl;rfl;exact IsH.mkN)|fail
             all_goals exact hz1 _
           | true =>
             rw [z4 rfl (by simpa using hR)]
             repeat' first|(apply qCl;rfl;rfl;rfl;rfl;first|exact c3 _|exact c4 _|exact c5 _|exact c10 _)|refine Js ?_|refine JA ?_|refine JJ ?_|refine Jt ?_|refine Jo ?_|(apply dCl;rfl;rfl;rfl;rfl;rfl;first|exact c6 _|exact c7 _|exact c8 _|exact c9 _)|(apply dAl;rfl;rfl;rfl;rfl;exact IsV.ptrM;exact IsH.mkN)|refine JD ?_|(apply dBd;rfl;rfl;rfl;assumption;exact IsV.aggN;rfl)|refine JK ?_|refine JI ?_|refine Jh ?_|(apply dWB tOk follows;rfl;kernel_rfl;rfl;exact IsH.mkN)|fail
             all_goals exact hX _ _
         · rw [z2 he]
           repeat' first|refine Jk ?_|(apply qCl;rfl;rfl;rfl;rfl;first|exact c3 _|exact c4 _|exact c5 _|exact c10 _)|refine Js ?_|refine JA ?_|refine JJ ?_|refine Jt ?_|refine Jb ?_ ?_|refine Jo ?_|(apply dCl;rfl;rfl;rfl;rfl;rfl;first|exact c6 _|exact c7 _|exact c8 _|exact c9 _)|(apply dAl;rfl;rfl;rfl;rfl;exact IsV.ptrM;exact IsH.mkN)|refine JD ?_|(apply dBd;rfl;rfl;rfl;assumption;exact IsV.aggN;rfl)|refine JK ?_|refine JI ?_|refine Jh ?_|(apply dWB tOk follows;rfl;kernel_rfl;rfl;exact IsH.mkN)|intro hb
           all_goals first
            | exact hz1 _
            | (exfalso;have h9:= ‹(e != 0)=false›;simp at h9;exact he h9)
open Go.Proofs
open Go.Proofs
open Go.Proofs
mutual
def Zmp:Tm→Bool
 | .mk k nm s _ kids=>(Lit.int .i64 k).wf&&((Lit.int .i64 s).wf&&(Nat.ble nm.length 1000&&(Nat.ble kids.length 1000&&ZjM kids)))
def ZjM:List Tm→Bool
 | []=>true
 |t::r=>Zmp t&&ZjM r
end
mutual
theorem Zgs:∀ t:Tm,Zmp t=true→t.Ok
 | .mk k nm s b kids, h => by
   simp only [Zmp,Bool.and_eq_true,Nat.ble_eq] at h
   obtain ⟨h1,h2,h3,h4,h5⟩:=h
   exact .mk h1 h2 (by unfold maxLen;omega) (by unfold maxLen;omega) (ZeG kids h5)
theorem ZeG:∀ l:List Tm,ZjM l=true→∀ t,t∈l→t.Ok
 | [],_,t,h=>absurd h (by simp)
 | a :: r, h, t, ht => by
   simp only [ZjM,Bool.and_eq_true] at h
   rcases List.mem_cons.1 ht with e|ht
   · rw [e];exact Zgs a h.1
   · exact ZeG r h.2 t ht
end
open Go.Proofs
theorem c57 (ht:t.Ok) (hsz:t.size≤40000):∀ H,CallOk E0 Tryz.prog 57 [.agg t.cells] H (.tup [.agg (Zj t).1.cells,.int .i64 (Zj t).2]) H:=by
 by_cases h:t.valid≠0∨t.isB [115,105,103,110] 2=false
 · exact Zi3 ht hsz h
 · have h1 : t.valid = 0 := by
     by_cases e:t.valid=0
     · exact e
     · exact absurd (.inl e) h
   have h2:t.isB [115,105,103,110] 2=true:=by
    cases e:t.isB [115,105,103,110] 2 with
    | true=>rfl
    | false=>exact absurd (.inr e) h
   obtain ⟨s,b,u,key,rfl⟩:=ZbO h2
   exact Zhp ht h1
theorem c87 (ht:t.Ok) (hsz:t.size≤40000):∀ H,CallOk E0 Tryz.prog 87 [.agg t.cells] H (.tup [.agg (Zj t).1.cells,.int .i64 (Zj t).2]) H:=by
 rw [ZgG]
 by_cases h:t.valid≠0∨t.isB [115,105,103,110] 2=false
 · exact Zh4 ht hsz h
 · have h1 : t.valid = 0 := by
     by_cases e:t.valid=0
     · exact e
     · exact absurd (.inl e) h
   have h2:t.isB [115,105,103,110] 2=true:=by
    cases e:t.isB [115,105,103,110] 2 with
    | true=>rfl
    | false=>exact absurd (.inr e) h
   obtain ⟨s,b,u,key,rfl⟩:=ZbO h2
   exact ZfK ht h1
open Go.Proofs
theorem c73 (ht:t.Ok) (hs:t.size≤100000):∀ H,CallOk E0 Tryz.prog 73 [.agg t.cells,.nils] H (.tup [.agg t.cl.cells,.int .i64 0]) H:=by
 have hc:=ZqQ ht hs
 have hfr:=Yy 0 hNil t.cl 0
 generalize t.cl=u at hc hfr ⊢
 obtain ⟨k,nm,s,b,kids⟩:=t
 obtain ⟨k',nm',s',b',kids'⟩:=u
 simp only [Tm.cells] at hc hfr ⊢
 refine Jw tOk fe73.ok hfr ?_
 repeat' first|refine Jo ?_|fail
 refine Wp.while (fun m tm H=>∃ base:TM,tm=ovr base [(2,.ptr 0 4 0 0),(4,.ptr 1 4 0 0),(9,.int .i64 0),(10,.int .i64 0)]∧H=⟨[.cells 4 [[.int .i64 k,.str nm,.int .i64 s,slV b 4 (Za kids)]],.cells 4 [[.int .i64 0,.str [],.int .i64 0,.nils]]],0,[],0⟩)
  (fun m tm H hI=>?_) 0 _ _ ⟨_,Zh ⟨rfl,rfl,rfl,rfl,trivial⟩,rfl⟩
 obtain ⟨base,rfl,rfl⟩:=hI
 repeat' first|refine Jc (hc _) ?_|(apply qF (ty:=0);rfl;rfl;rfl)|refine Jo ?_|fail
 all_goals exact Yy _ _ (.mk k' nm' s' b' kids') 0
theorem c33 (ht:t.Ok) (hs:t.size≤100000):∀ H,CallOk E0 Tryz.prog 33 [.agg t.cells] H (.agg t.cl.cells) H:=by
 have hc:=c73 ht hs
 generalize t.cl=u at hc ⊢
 obtain ⟨k,nm,s,b,kids⟩:=t
 obtain ⟨k',nm',s',b',kids'⟩:=u
 simp only [Tm.cells] at hc ⊢
 refine Jw tOk fe33.ok (Z3 _ _ _ _ _ _ _) ?_
 repeat' first|refine Jc (hc _) ?_|refine Jo ?_|fail
 all_goals exact Z3 _ _ _ _ _ _ _
open Go.Proofs
theorem c80 (ht:t.Ok):t.size≤100000→∀ H,CallOk E0 Tryz.prog 80 [.agg t.cells] H (.agg t.cl.cells) H:=by
 induction ht with
 | @mk k nm s b kids hk hs hn hl hok ih=>
 intro hsz
 simp only [Tm.size] at hsz
 have hkl:kids.length≤Zz kids:=by
  rw [← VC]
  have:∀ l:List Tm,l.length≤(UY l).length:=by
   intro l
   induction l with
   | nil=>simp
   | cons a r ih =>
     have:=a.all_len
     have:=YY a
     simp only [UY,List.length_append,List.length_cons]
     omega
  exact this kids
 simp only [Tm.cl,Tm.cells]
 refine Jw tOk fe80.ok (Z3 _ _ _ _ _ _ _) ?_
 repeat' first|refine Jl ?_|refine Jo ?_|fail
 refine Wp.while (fun m tm H => ∃ (i : Nat) (base : TM) (out : PV) (lv : List Nat) (nt : Nat), i + m = kids.length ∧ ApV true 4 (Za (clL (kids.take i))) out lv nt ∧
   tm=ovr base [(2,.ptr 1 4 0 0),(3,.ptr 2 4 0 0),(9,slV b 4 (Za kids)),(10,.int .i64 (kids.length:Int)),(11,.int .i64 (i:Int))]∧H=⟨[.cells 4 [[.int .i64 k,.str nm,.int .i64 s,slV b 4 (Za kids)]],.cells 4 [[.int .i64 0,.str [],.int .i64 0,.nils]],.cells 4 [[.int .i64 k,.str nm,.int .i64 s,out]]],0,lv,nt⟩)
  (fun m tm H hI=>Wp.drop ?_) kids.length _ _ ⟨0,_,_,_,_,by omega,.nil _ _ rfl,Zh ⟨rfl,rfl,rfl,Zi (by rw [Zb]),rfl,trivial⟩,rfl⟩
 obtain ⟨i,base,out,lv,nt,hi,hA,rfl,rfl⟩:=hI
 by_cases hlt:i<kids.length
 · obtain ⟨t', ht'⟩ : ∃ t', kids[i]? = some t' := ⟨kids[i], by simp⟩
   have hm:t'∈kids:=List.mem_of_getElem? ht'
   have hle:=Xm hm
   have hs:=ZbQ ht'
   have hc:=ih t' hm (by omega)
   have hlen1:(clL (kids.take i)).length≤kids.length:=by
    rw [W9,List.length_take];omega
   obtain ⟨out',lv',nt',hap,hA', -⟩:=hA.app Yw (.sl .full 4 (Za [t'.cl])) (Zm _) (ZU (by simp only [Zb,List.length_cons,List.length_nil];omega) (by decide)) (Zv _)
   rw [← Zk, ← hs] at hA'
   obtain ⟨kc,nc,sc,bc,lc,ec⟩:∃ kc nc sc bc lc,t'.cl= .mk kc nc sc bc lc:=by
    obtain ⟨k',nm',s',b',kids'⟩:=t'
    exact ⟨_,_,_,_,_,rfl⟩
   rw [ec] at hc hap
   rw [X8] at hap
   obtain ⟨kt,rfl⟩:=V2 hA' (by rw [hs,Zk,ZC];simp)
   obtain ⟨k',nm',s',b',kids'⟩:=t'
   have hj:=Zl ht'
   repeat' first|refine Jx ?_|refine Jz ?_ ?_|refine Jo ?_|refine Jd (hc _) ?_|refine JB ?_|(apply dAp;rfl;rfl;rfl;rfl;rfl;(first|assumption|solve_by_elim);rfl)|refine Jh ?_|(apply Wp.drawS tOk follows;kernel_rfl;rfl)|intro hb
   · exact DropQ.go [(2, .ptr 1 4 0 0), (3, .ptr 2 4 0 0), (9, slV b 4 (Za kids)), (10, .int .i64 (kids.length : Int)), (11, .int .i64 ((i + 1 : Nat) : Int))] ⟨rfl, rfl, rfl, rfl, Zi (Zf (n := i + 1) (by omega)), trivial⟩
       (by simp [Zp,under]) rfl (by simp [YF,ZP,under,Zp]) (LoopI.go (m-1) (by omega) ⟨i+1,_,_,lv',nt',by omega,hA',rfl,rfl⟩)
   · exfalso;simp at hb;omega
 · have e : i = kids.length := by omega
   subst e
   rw [List.take_length] at hA
   have hco:=Q6 hA k nm s
   repeat' first|refine Jz ?_ ?_|refine Jo ?_|intro hb
   · exfalso;simp at hb
   · exact Zgv hA _ _ _ _ _
end Go.Vm.Seat
