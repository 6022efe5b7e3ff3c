/-
  Credentials: read by the program's text, where the term is a signed one.
-/
import Derived.Test.YtpgfeijkfmgnjaaGreatDoorDa
set_option maxHeartbeats 0
set_option maxRecDepth 100000
namespace Go.Vm.Seat
open Go.Proofs
theorem Zso {l:List Tm} {out:PV} {lv:List Nat} {nt:Nat} (h:ApV true 4 (Za l) out lv nt):∀ H,ZfP E0 24 out H=some (.int .i64 (l.length:Int)):=by
 have e:E0.T 24=some ⟨.slice 26,1,24,.nils⟩:=by kernel_rfl
 intro H
 rw [← Zb]
 generalize Za l=L at h
 cases h with
 |nil=>simp only [ZfP,e];rfl
 |full=>simp only [ZfP,e];rfl
 |tok=>simp only [ZfP,e];rfl
theorem ZlG (a b:List Bs):Wr E0 63 [(0,slV true 1 (Y2 a)),(1,slV true 1 (Y2 b))]=some (.agg [slV true 1 (Y2 a),slV true 1 (Y2 b)]):=by
 cases a<;>cases b<;>simp only [Y2,List.map_nil,List.map_cons,Zq,Zw]<;>rfl
theorem ZiB {s : Int} {b : Bool} {u key : Tm} (ht : (Tm.mk 3 [115, 105, 103, 110] s b [u, key]).Ok) (hv : (Tm.mk 3 [115, 105, 103, 110] s b [u, key]).valid = 0) :
  ∀ H,CallOk E0 Tryz.prog 24 [.agg (Tm.mk 3 [115,105,103,110] s b [u,key]).cells] H (.tup [.agg (Zf (.mk 3 [115,105,103,110] s b [u,key])).1.cells,.int .i64 (Zf (.mk 3 [115,105,103,110] s b [u,key])).2]) H:=by
 have hsm:=ZaP hv
 have hu:u.within (.mk 3 [115,105,103,110] s b [u,key]):=XH (by simp)
 have hkey:key.within (.mk 3 [115,105,103,110] s b [u,key]):=XH (by simp)
 have c1:=c41 ht (by have:=hsm.1;omega)
 rw [hv] at c1
 have c2:∀ H,CallOk E0 Tryz.prog 55 [.agg (Tm.mk 3 [115,105,103,110] s b [u,key]).cells,.str [115,105,103,110],.int .i64 2] H (.bool true) H:=c55 (.mk 3 [115,105,103,110] s b [u,key]) [115,105,103,110] 2
 unfold Zf
 rw [Zes _ _ _ hv]
 have hfr:=WV 0 hNil (QT ZO ZN Vt (.mk 3 [115,105,103,110] s b [u,key]) key (Yi 8 u)).1 (QT ZO ZN Vt (.mk 3 [115,105,103,110] s b [u,key]) key (Yi 8 u)).2
 obtain ⟨F,hF⟩:∃ F,F=Yi 8 u:=⟨_,rfl⟩
 rw [← hF] at hfr ⊢
 obtain ⟨T,hT⟩:∃ T,T=Tm.mk 3 [115,105,103,110] s b [u,key]:=⟨_,rfl⟩
 have hTc:T.cells= [.int .i64 3,.str [115,105,103,110],.int .i64 s,slV b 4 (Za [u,key])]:=by rw [hT];rfl
 rw [← hT] at ht hsm hu hkey c1 c2 hfr ⊢
 clear hT hv
 rw [hTc] at c1 c2 ⊢
 have hj0:(Za [u,key])[0]? = some u.cells:=rfl
 have hj1:(Za [u,key])[1]? = some key.cells:=rfl
 generalize Za [u,key]=L at c1 c2 hj0 hj1 hTc ⊢
 have hu0:∃ k nm s b kz,u= .mk k nm s b kz:=by obtain ⟨k,nm,s,b,kz⟩:=u;exact ⟨_,_,_,_,_,rfl⟩
 obtain ⟨ku,nmu,su,bu,kzu,hu1⟩:=hu0
 have hj0':L[0]? = some [.int .i64 ku,.str nmu,.int .i64 su,slV bu 4 (Za kzu)]:=by rw [hj0,hu1];rfl
 clear hj0
 refine Zm (own:=fun d=>Nat.beq d 30024||(Nat.beq d 30010||Nat.beq d 5043)) tOk fe24.ok (by simp only [ZJ,frzG,XY,ZD];rfl) hfr ?_
 refine Wp.seq ?_
 repeat' first|refine Jc (c1 _) ?_|refine Jc (c2 _) ?_|refine Jx ?_|refine Jt ?_|refine Jo ?_|fail
 clear c1 c2 hfr
 refine Wp.while (fun m tm H => ∃ (acc : List Tm) (rest : Tm) (base : TM) (out : PV) (lv : List Nat) (nt : Nat), acc.length + m = 8 ∧ rest.within T ∧ (∀ x, x ∈ acc → x.within T) ∧
   (F=match Yi m rest with|some (l,r)=>some (acc++l,r)|none=>none)∧ApV true 4 (Za acc) out lv nt∧
   tm=ovr base [(1,.ptr 0 4 0 0),(2,.ptr 1 11 0 0),(4,.ptr 2 11 0 0),(5,out),(6,.ptr 3 4 0 0)]∧
   H=⟨[.cells 4 [[.int .i64 3,.str [115,105,103,110],.int .i64 s,slV b 4 L]],.cells 11 [[.str [],.int .i64 0,.str [],.int .i64 0,.nils,.bool false,.nils,.nils,.int .i64 0,.int .i64 0,.int .i64 0]],.cells 11 [[.str [],.int .i64 0,.str [],.int .i64 0,.nils,.bool false,.nils,.nils,.int .i64 0,.int .i64 0,.int .i64 0]],.cells 4 [rest.cells]],0,lv,nt⟩)
  (fun m tm H hI=>?_) 8 _ _ ⟨[],u,_,_,_,_,rfl,hu,fun x hx=>absurd hx (by simp),by rw [hF];cases Yi 8 u<;>simp,.nil _ _ rfl,Zi ⟨rfl,rfl,rfl,rfl,rfl,trivial⟩,by rw [hu1];rfl⟩
 obtain ⟨acc,rest,base,out,lv,nt,hm,hw,hacc,hf,hA,rfl,rfl⟩:=hI
 have hle:=Zso hA
 clear hu1 hj0'
 cases m with
 | succ m =>
   have his:=c55 rest [112,97,105,114] 2
   rw [ZcE] at his
   rw [Uy] at hf
   cases hp:Yp rest with
   | none =>
     rw [hp] at his hf
     have his2:∀ H,CallOk E0 Tryz.prog 55 [.agg rest.cells,.str [112,97,105,114],.int .i64 2] H (.bool false) H:=his
     clear his
     rw [hf]
     obtain ⟨k1,nm1,s1,b1,kz1⟩:=rest
     simp only [Tm.cells] at his2 ⊢
     repeat' first|refine Jc (his2 _) ?_|(apply qLe;rfl;rfl;rfl;assumption;exact IsV.any _)|refine Jt ?_|refine Jb ?_ ?_|refine Jo ?_|intro hb
     all_goals first
      | (show frz3 _ _ _=some (.tup [.agg Cred.zero.cells,.int .i64 2]);rw [X4];rfl)
      | (exfalso;have h9:= ‹decide ((acc.length:Int)<8)=false›;simp at h9;omega)
   | some q =>
     obtain ⟨x,y⟩:=q
     rw [hp] at his hf
     obtain ⟨w1,w2,w3⟩:=Y0 hp
     obtain ⟨s2,b2,rfl⟩:=XJ hp
     have his2:∀ H,CallOk E0 Tryz.prog 55 [.agg (Tm.mk 3 [112,97,105,114] s2 b2 [x,y]).cells,.str [112,97,105,114],.int .i64 2] H (.bool true) H:=his
     clear his
     obtain ⟨out',lv',nt',hap,hA', -⟩:=hA.app YA (.sl .full 4 (Za [x])) (Zs _) (ZZ (by simp only [Zb,List.length_cons,List.length_nil];omega) (by decide)) (ZC _)
     rw [← Zo] at hA'
     rw [ZQ] at hap
     have hi0:(Za [x,y])[0]? = some x.cells:=rfl
     have hi1:(Za [x,y])[1]? = some y.cells:=rfl
     have hf2:F=match Yi m y with|some (l,r)=>some ((acc++ [x])++l,r)|none=>none:=by
      rw [hf]
      simp only []
      cases Yi m y with
      | none=>rfl
      | some p=>simp
     have wy:=Yl w2 hw
     have wx:∀ z,z∈acc++ [x]→z.within T:=fun z hz=>by
      rcases List.mem_append.1 hz with hz|hz
      · exact hacc z hz
      · rw [List.mem_singleton.1 hz];exact Yl w1 hw
     simp only [Tm.cells] at his2 ⊢
     generalize Za [x,y]=L2 at his2 hi0 hi1 ⊢
     clear hf hp w1 w2 w3 hw
     obtain ⟨k1,nm1,s1,b1,kz1⟩:=x
     obtain ⟨k3,nm3,s3,b3,kz3⟩:=y
     simp only [Tm.cells] at hi0 hi1 hap
     repeat' first|refine Jc (his2 _) ?_|(apply qLe;rfl;rfl;rfl;assumption;exact IsV.any _)|refine Jt ?_|refine Jb ?_ ?_|refine Jo ?_|refine JB ?_|(apply dAq;rfl;rfl;rfl;rfl;rfl;rfl;(first|assumption|solve_by_elim))|refine JI ?_|refine Jh ?_|(apply dWS tOk follows;rfl;kernel_rfl;rfl)|intro hb
     all_goals first
      | (exfalso;simp at hb;omega)
      | skip
     exact LoopI.go m (by omega) ⟨acc++ [Tm.mk k1 nm1 s1 b1 kz1],Tm.mk k3 nm3 s3 b3 kz3,_,out',lv',nt',by simp;omega,wy,wx,hf2,hA',Zi ⟨rfl,rfl,rfl,rfl,rfl,trivial⟩,rfl⟩
 | zero =>
   have hl8:acc.length=8:=by omega
   obtain ⟨kt,rfl⟩:=Uo hA (by intro e;have:=congrArg List.length e;simp [Zb,hl8] at this)
   simp only [Yi,List.append_nil] at hf
   rw [hf]
   rcases acc with _|⟨a0,_|⟨a1,_|⟨a2,_|⟨a3,_|⟨a4,_|⟨a5,_|⟨a6,_|⟨a7,_|⟨a8,l⟩⟩⟩⟩⟩⟩⟩⟩⟩
   all_goals first
    | (exfalso;simp at hl8;done)
    | skip
   have x1:Zp E0 24 (.sl (.tok kt) 4 (Za [a0,a1,a2,a3,a4,a5,a6,a7])) (.int .i64 1)=some (.fptr a1.cells 0):=ZeX (tl:= .tok kt) (l:=[a0,a1,a2,a3,a4,a5,a6,a7]) (i:=1) (a:=a1) rfl
   have x2:Zp E0 24 (.sl (.tok kt) 4 (Za [a0,a1,a2,a3,a4,a5,a6,a7])) (.int .i64 2)=some (.fptr a2.cells 0):=ZeX (tl:= .tok kt) (l:=[a0,a1,a2,a3,a4,a5,a6,a7]) (i:=2) (a:=a2) rfl
   have x3:Zp E0 24 (.sl (.tok kt) 4 (Za [a0,a1,a2,a3,a4,a5,a6,a7])) (.int .i64 3)=some (.fptr a3.cells 0):=ZeX (tl:= .tok kt) (l:=[a0,a1,a2,a3,a4,a5,a6,a7]) (i:=3) (a:=a3) rfl
   have x4:Zp E0 24 (.sl (.tok kt) 4 (Za [a0,a1,a2,a3,a4,a5,a6,a7])) (.int .i64 4)=some (.fptr a4.cells 0):=ZeX (tl:= .tok kt) (l:=[a0,a1,a2,a3,a4,a5,a6,a7]) (i:=4) (a:=a4) rfl
   have x5:Zp E0 24 (.sl (.tok kt) 4 (Za [a0,a1,a2,a3,a4,a5,a6,a7])) (.int .i64 5)=some (.fptr a5.cells 0):=ZeX (tl:= .tok kt) (l:=[a0,a1,a2,a3,a4,a5,a6,a7]) (i:=5) (a:=a5) rfl
   have x6:Zp E0 24 (.sl (.tok kt) 4 (Za [a0,a1,a2,a3,a4,a5,a6,a7])) (.int .i64 6)=some (.fptr a6.cells 0):=ZeX (tl:= .tok kt) (l:=[a0,a1,a2,a3,a4,a5,a6,a7]) (i:=6) (a:=a6) rfl
   have x7:Zp E0 24 (.sl (.tok kt) 4 (Za [a0,a1,a2,a3,a4,a5,a6,a7])) (.int .i64 7)=some (.fptr a7.cells 0):=ZeX (tl:= .tok kt) (l:=[a0,a1,a2,a3,a4,a5,a6,a7]) (i:=7) (a:=a7) rfl
   have w1:=hacc a1 (by simp)
   have w2:=hacc a2 (by simp)
   have w4:=hacc a4 (by simp)
   have w5:=hacc a5 (by simp)
   have w6:=hacc a6 (by simp)
   have w7:=hacc a7 (by simp)
   have c3:=c56 (ht.part w1) (hsm.part w1)
   have c4:=c57 (ht.part w4) (hsm.part w4)
   have c5:=c57 (ht.part w5) (hsm.part w5)
   have c6:=c58 (t:=a6) (by have:=(hsm.part w6).2 a6 (Vc a6);omega)
   have c7:=c58 (t:=a7) (by have:=(hsm.part w7).2 a7 (Vc a7);omega)
   have c8:=c58 (t:=rest) (by have:=(hsm.part hw).2 rest (Vc rest);omega)
   have n1:=WS (hsm.part w1)
   have n4:=Zah (hsm.part w4)
   have n5:=Zah (hsm.part w5)
   have s2:=(hsm.part w2).1
   have sk:=(hsm.part hkey).1
   have c9:=c59 ⟨(ZO a1).1,a2,a3.nm== [121,101,115],true,(ZN a4).1,true,(ZN a5).1,Vt a6.nm,Vt a7.nm,Vt rest.nm⟩ (key:=key) (by simp only;omega) (fun s hs=>by have:=n4.2 s hs;omega) (fun s hs=>by have:=n5.2 s hs;omega) (by simp only;omega) (by simp only;omega) (ht.part w2) (by simp only;omega) (ht.part hkey) (by omega)
   have hsi:=Xe (x:=⟨(ZO a1).1,a2,a3.nm== [121,101,115],true,(ZN a4).1,true,(ZN a5).1,Vt a6.nm,Vt a7.nm,Vt rest.nm⟩) (key:=key) (ht.part w2) (ht.part hkey)
   have c10:=c60 hsi.1 ht (by have:=hsi.2;simp only at this;omega) (by have:=hsm.1;omega)
   have hX:=fun m H=>WV m H ⟨(ZO a1).1,a2,a3.nm== [121,101,115],true,(ZN a4).1,true,(ZN a5).1,Vt a6.nm,Vt a7.nm,Vt rest.nm⟩ 0
   obtain ⟨z1,z2,z3,z4⟩:=Qj (rn:=ZO) (rl:=ZN) (num:=Vt) (t:=T) (key:=key) (l:=[a0,a1,a2,a3,a4,a5,a6,a7]) (r:=rest) rfl
   generalize QT ZO ZN Vt T key (some ([a0,a1,a2,a3,a4,a5,a6,a7],rest))=Z at z1 z2 z3 z4 ⊢
   generalize Cred.issue ⟨(ZO a1).1,a2,a3.nm== [121,101,115],true,(ZN a4).1,true,(ZN a5).1,Vt a6.nm,Vt a7.nm,Vt rest.nm⟩ key=I at c9 c10 hsi z2 z3 z4
   clear hsi n1 n4 n5 s2 sk w1 w2 w4 w5 w6 w7 hacc hf hl8
   generalize (ZO a1).1=N1 at c3 c9 hX z4
   generalize (ZO a1).2=B1 at c3 z1 z2 z3 z4
   generalize (ZN a4).1=N4 at c4 c9 hX z4
   generalize (ZN a4).2=B4 at c4 z1 z2 z3 z4
   generalize (ZN a5).1=N5 at c5 c9 hX z4
   generalize (ZN a5).2=B5 at c5 z1 z2 z3 z4
   generalize Vt a6.nm=M6 at c6 c9 hX z4
   generalize Vt a7.nm=M7 at c7 c9 hX z4
   generalize Vt rest.nm=M8 at c8 c9 hX z4
   obtain ⟨I1,e⟩:=I
   simp only at c9 c10 z2 z3 z4
   generalize hR:decide (I1.cmp T=0)=R at c10
   rw [hTc] at c10
   have hle8:∀ H,ZfP E0 24 (.sl (.tok kt) 4 (Za [a0,a1,a2,a3,a4,a5,a6,a7])) H=some (.int .i64 8):=hle
   clear hle hA
   generalize Za [a0,a1,a2,a3,a4,a5,a6,a7]=L8 at x1 x2 x3 x4 x5 x6 x7 hle8 ⊢
   have hz1:∀ H,frz3 0 H (.tup [.agg [.str [],.int .i64 0,.str [],.int .i64 0,.nils,.bool false,.nils,.nils,.int .i64 0,.int .i64 0,.int .i64 0],.int .i64 2])=some (.tup [.agg Cred.zero.cells,.int .i64 2]):=fun H=>by rw [X4];rfl
   obtain ⟨k1,nm1,s1,b1,kz1⟩:=a1
   obtain ⟨k2,nm2,s2,b2,kz2⟩:=a2
   obtain ⟨k3,nm3,s3,b3,kz3⟩:=a3
   obtain ⟨k4,nm4,s4,b4,kz4⟩:=a4
   obtain ⟨k5,nm5,s5,b5,kz5⟩:=a5
   obtain ⟨k6,nm6,s6,b6,kz6⟩:=a6
   obtain ⟨k7,nm7,s7,b7,kz7⟩:=a7
   obtain ⟨k8,nm8,s8,b8,kz8⟩:=rest
   obtain ⟨k9,nm9,s9,b9,kz9⟩:=key
   obtain ⟨kI,nmI,sI,bI,kzI⟩:=I1
   simp only [Tm.nm] at c9 hX z4
   simp only [Cred.cells,Tm.cells,List.cons_append,List.nil_append] at c3 c4 c5 c6 c7 c8 c9 c10 hX x1 x2 x3 x4 x5 x6 x7 hj1 ⊢
   have hco:[slV true 1 (Y2 N4),slV true 1 (Y2 N5)].all Z7=true:=by simp only [List.all_cons,List.all_nil,Ya,Bool.and_self]
   obtain ⟨Y,hY⟩:∃ Y,(nm3== [121,101,115])=Y:=⟨_,rfl⟩
   have hbi:ZP E0 .eql 9 (.str nm3) (.str [121,101,115])=some (.bool Y):=by
    show some (PV.bool (nm3== [121,101,115]))=_
    rw [hY]
   rw [hY] at c9 hX z4
   clear hY
   have hbd:=ZlG N4 N5
   cases B1 with
   | false =>
     rw [z1 rfl]
     clear z1 z2 z3 z4 hX c6 c7 c8 c9 c10
     repeat' first|refine Jk ?_|(apply qCl;rfl;rfl;rfl;rfl;first|exact c3 _|exact c4 _|exact c5 _)|refine JJ ?_|(apply qLe;rfl;rfl;rfl;assumption;exact IsV.any _)|refine Jt ?_|refine Jb ?_ ?_|refine Jo ?_|intro hb
     all_goals exact hz1 _
   | true =>
     cases B4 with
     | false =>
       rw [z1 rfl]
       clear z1 z2 z3 z4 hX c6 c7 c8 c9 c10
       repeat' first|refine Jk ?_|(apply qCl;rfl;rfl;rfl;rfl;first|exact c3 _|exact c4 _|exact c5 _)|refine JJ ?_|(apply qLe;rfl;rfl;rfl;assumption;exact IsV.any _)|refine Jt ?_|refine Jb ?_ ?_|refine Jo ?_|intro hb
       all_goals exact hz1 _
     | true =>
       cases B5 with
       | false =>
         rw [z1 rfl]
         clear z1 z2 z3 z4 hX c6 c7 c8 c9 c10
         repeat' first|(apply qCl;rfl;rfl;rfl;rfl;first|exact c3 _|exact c4 _|exact c5 _)|refine JJ ?_|(apply qLe;rfl;rfl;rfl;assumption;exact IsV.any _)|refine Jt ?_|refine Jo ?_|fail
         all_goals exact hz1 _
       | true =>
         replace z2:=z2 rfl
         replace z3:=z3 rfl
         replace z4:=z4 rfl
         clear z1
         by_cases he:e=0
         · subst he
           cases R with
           | false =>
             rw [z3 (by simpa using hR)]
             repeat' first|(apply qCl;rfl;rfl;rfl;rfl;first|exact c3 _|exact c4 _|exact c5 _|exact c10 _)|refine JJ ?_|(apply qLe;rfl;rfl;rfl;assumption;exact IsV.any _)|refine Jt ?_|refine Jo ?_|(apply dCl;rfl;rfl;rfl;rfl;rfl;first|exact c6 _|exact c7 _|exact c8 _|exact c9 _)|(apply dAl;rfl;rfl;rfl;rfl;exact IsV.ptrM;exact IsH.mkN)|refine JD ?_|(apply dBd;rfl;rfl;rfl;assumption;exact IsV.aggN;rfl)|refine JK ?_|refine JI ?_|refine Jh ?_|(apply dWB tOk follows;rfl;kernel_rfl;rfl;exact IsH.mkN)|fail
             all_goals exact hz1 _
           | true =>
             rw [z4 rfl (by simpa using hR)]
             repeat' first|(apply qCl;rfl;rfl;rfl;rfl;first|exact c3 _|exact c4 _|exact c5 _|exact c10 _)|refine JJ ?_|(apply qLe;rfl;rfl;rfl;assumption;exact IsV.any _)|refine Jt ?_|refine Jo ?_|(apply dCl;rfl;rfl;rfl;rfl;rfl;first|exact c6 _|exact c7 _|exact c8 _|exact c9 _)|(apply dAl;rfl;rfl;rfl;rfl;exact IsV.ptrM;exact IsH.mkN)|refine JD ?_|(apply dBd;rfl;rfl;rfl;assumption;exact IsV.aggN;rfl)|refine JK ?_|refine JI ?_|refine Jh ?_|(apply dWB tOk follows;rfl;kernel_rfl;rfl;exact IsH.mkN)|fail
             all_goals exact hX _ _
         · rw [z2 he]
           repeat' first|refine Jk ?_|(apply qCl;rfl;rfl;rfl;rfl;first|exact c3 _|exact c4 _|exact c5 _|exact c10 _)|refine JJ ?_|(apply qLe;rfl;rfl;rfl;assumption;exact IsV.any _)|refine Jt ?_|refine Jb ?_ ?_|refine Jo ?_|(apply dCl;rfl;rfl;rfl;rfl;rfl;first|exact c6 _|exact c7 _|exact c8 _|exact c9 _)|(apply dAl;rfl;rfl;rfl;rfl;exact IsV.ptrM;exact IsH.mkN)|refine JD ?_|(apply dBd;rfl;rfl;rfl;assumption;exact IsV.aggN;rfl)|refine JK ?_|refine JI ?_|refine Jh ?_|(apply dWB tOk follows;rfl;kernel_rfl;rfl;exact IsH.mkN)|intro hb
           all_goals first
            | exact hz1 _
            | (exfalso;have h9:= ‹(e != 0)=false›;simp at h9;exact he h9)
