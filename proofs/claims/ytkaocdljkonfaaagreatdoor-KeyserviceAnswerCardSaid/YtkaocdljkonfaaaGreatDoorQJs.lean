/-
  Answers of the program's service. Answers of the document's service at any size. KeyserviceCurrent: the law's function returns true at any log and nam
-/
import Derived.Test.YtkaocdljkonfaaaGreatDoorQIe
import Derived.Test.YtkaocdljkonfaaaGreatDoorQKx
set_option maxHeartbeats 64000000
set_option maxRecDepth 100000
namespace Go.Vm.Seat
variable {s:Sv} {name:Bs}
open Go.Proofs
theorem Zh9 (h:svV s=0) (name:Bs):((Zs name s.log.reverse).2.2=false→Z0 name s.keys=none)∧((Zs name s.log.reverse).2.2=true→∃ e,Z0 name s.keys=some e∧e.idx=((Zs name s.log.reverse).2.1:Int)):=by
 have h1:=Za3 (name:=name) (ZeF.1 (ZkV h))
 have h2:=(U1 s.log s.log.length (Nat.le_refl _)).1 name
 rw [h2] at h1
 constructor
 · intro hk
   rw [hk,if_neg (by simp)] at h1
   cases e:Z0 name s.keys with
   | none=>rfl
   | some u=>rw [e] at h1;cases h1
 · intro hk
   have hlt:=Zcd hk
   rw [List.length_reverse] at hlt
   rw [if_pos ⟨hk,hlt⟩] at h1
   cases e:Z0 name s.keys with
   | none=>rw [e] at h1;cases h1
   | some u =>
     rw [e] at h1
     simp only [Option.map_some,Option.some.injEq,enK,Prod.mk.injEq] at h1
     exact ⟨u,rfl,h1.2.2.symm⟩
def anY (s:Sv) (name:Bs) (z:Nat):An:=
 ⟨name,((s.log[(Zs name s.log.reverse).2.1]?).getD .zero).cl,((Zs name s.log.reverse).2.1:Int),(s.log.length:Int),(Zx s.log).1.cl,(YI Tm.cl (Zx s.log).1.cl s.log.length s.key).1,true,clL (XI 32 s.log (Zs name s.log.reverse).2.1),true,if z=0 then [] else clL (Y2 32 s.log z true)⟩
def ZiR (s:Sv) (name:Bs) (z:Int):An×Int:=if (Zs name s.log.reverse).2.2=false then (An.zero,4) else if z<0∨(s.log.length:Int)<z then (An.zero,7) else (anY s name z.toNat,0)
theorem Zbp (m:Nat) (H:Heap) (e:Int):frz3 m H (.tup [.agg An.zero.cells,.int .i64 e])=some (.tup [.agg An.zero.cells,.int .i64 e]):=Zb6 m H An.zero e
theorem ZjG (name:Bs) (e:Tm) (i n:Int):XY E0 43 [(0,.str name),(1,.agg e.cells),(2,.int .i64 i),(3,.int .i64 n)]=some (.agg (An.mk name e i n .zero .zero true [] true []).cells):=by
 obtain ⟨k1,n1,s1,b1,l1⟩:=e
 simp only [An.cells,Tm.cells,Zq,Za,Zn]
 rfl
theorem Zmt (s:Sv):(Za s.log).length=s.log.length:=Zb _
theorem c18 (h:Mad 10 s) (hv:svV s=0) (_hn:name.length≤100) (z:Int):∀ H,CallOk E0 Tryz.prog 18 [.agg s.cells,.str name,.int .i64 z] H (.tup [.agg (ZiR s name z).1.cells,.int .i64 (ZiR s name z).2]) H:=by
 have cv:=c13 h.ok
 rw [ZkO,hv] at cv
 have cf:=c50 (L:=s.keys) (by have:=h.ok.el;omega) s.kb name
 obtain ⟨k1,k2⟩:=Zh9 hv name
 have hfz:=ZgR s name z
 have hln:=Zmt s
 unfold ZiR
 cases hok:(Zs name s.log.reverse).2.2 with
 | false =>
   rw [k1 hok] at cf
   rw [if_pos rfl]
   have hf:=fun m H=>Zbp m H 4
   clear k1 k2 hok h hv
   obtain ⟨sn,⟨k,nm,zz,b,kids⟩,lb,log,kb,keys⟩:=s
   simp only [Option.getD_none,Option.isSome_none,Vf] at cf
   simp only [WK] at hf ⊢
   simp only [Sv.cells,Tm.cells,List.cons_append,List.nil_append] at cv cf hfz ⊢
   refine Zt (own:=(fun d=>[30013].any (Nat.beq d))) tOk fe18.ok hfz (hf 0 hNil) ?_
   refine Wp.seq ?_
   repeat' first|refine Jc (cv _) ?_|refine Jc (cf _) ?_|refine Jt ?_|refine Jo ?_|fail
   all_goals exact hf _ _
 | true =>
   obtain ⟨e,he,hei⟩:=k2 hok
   rw [he] at cf
   simp only [Option.getD_some,Option.isSome_some] at cf
   rw [if_neg (by simp)]
   by_cases hneg:z<0
   · have q1 : ZQ E0 .lss 3 (.int .i64 z) (.int .i64 0) = some (.bool true) := Wa hneg
     rw [if_pos (.inl hneg)]
     have hf:=fun m H=>Zbp m H 7
     clear k1 k2 hok h hv he hei hln
     obtain ⟨sn,⟨k,nm,zz,b,kids⟩,lb,log,kb,keys⟩:=s
     obtain ⟨n5,⟨k5,nm5,z5,b5,kids5⟩,i5⟩:=e
     simp only [WK] at hf ⊢
     simp only [Sv.cells,En.cells,Tm.cells,List.cons_append,List.nil_append] at cv cf hfz ⊢
     refine Zt (own:=(fun d=>[30013].any (Nat.beq d))) tOk fe18.ok hfz (hf 0 hNil) ?_
     refine Wp.seq ?_
     repeat' first|refine Jk ?_|refine Jc (cv _) ?_|refine Jc (cf _) ?_|refine Ji ?_|refine Jl ?_|refine Jt ?_|refine Jo ?_|fail
     all_goals exact hf _ _
   · have q1 : ZQ E0 .lss 3 (.int .i64 z) (.int .i64 0) = some (.bool false) := Xe hneg
     by_cases hbig:(s.log.length:Int)<z
     · have g2 : ZQ E0 .gtr 3 (.int .i64 z) (.int .i64 ((Za s.log).length : Int)) = some (.bool true) := ZdK (by rw [hln]; exact hbig)
       rw [if_pos (.inr hbig)]
       have hf:=fun m H=>Zbp m H 7
       clear k1 k2 hok h hv he hei hln hbig
       obtain ⟨sn,⟨k,nm,zz,b,kids⟩,lb,log,kb,keys⟩:=s
       obtain ⟨n5,⟨k5,nm5,z5,b5,kids5⟩,i5⟩:=e
       simp only [WK] at hf ⊢
       simp only [Sv.cells,En.cells,Tm.cells,List.cons_append,List.nil_append] at cv cf hfz g2 ⊢
       refine Zt (own:=(fun d=>[30013].any (Nat.beq d))) tOk fe18.ok hfz (hf 0 hNil) ?_
       refine Wp.seq ?_
       repeat' first|refine Jc (cv _) ?_|refine Jc (cf _) ?_|refine Ji ?_|refine Jl ?_|refine Jt ?_|refine Jo ?_|fail
       all_goals exact hf _ _
     · rw [if_neg (by omega)]
       obtain ⟨n,rfl⟩:∃ n:Nat,z=(n:Int):=⟨z.toNat,by omega⟩
       rw [Int.toNat_natCast]
       have g2:ZQ E0 .gtr 3 (.int .i64 (n:Int)) (.int .i64 ((Za s.log).length:Int))=some (.bool false):=ZbB (by rw [hln];exact hbig)
       have hlt:=Zcd hok
       rw [List.length_reverse] at hlt
       obtain ⟨t,ht⟩:∃ t,s.log[(Zs name s.log.reverse).2.1]? = some t:=⟨s.log[(Zs name s.log.reverse).2.1],by simp⟩
       have htm:=List.mem_of_getElem? ht
       have cp:=c33 (h.ok.l t htm) (by have:=h.ok.ls t htm;omega)
       have hR:=ZaT (Zb3 hv)
       have hlg:∀ t,t∈s.log→t.Ok∧t.size≤2000:=fun t ht=>⟨h.ok.l t ht,by have:=h.ok.ls t ht;omega⟩
       have ch:=c40 hlg s.lb
       have hrk:=U0 (l:=s.log) (S:=2000) hlg
       have cs:=c41 (h:=(Zx s.log).1.cl) (VV hrk.1) (by rw [Xq];have:=hrk.2;omega) h.ok.k (by have:=h.ok.ks;omega) (s.log.length:Int)
       have ci:=c51 hlg hR.1 hlt hR.2 s.lb
       have hj:(Za s.log)[(Zs name s.log.reverse).2.1]? = some t.cells:=by
        obtain ⟨k,nm,s,b,kids⟩:=t
        exact Zl ht
       have hf:=fun m H=>Zb6 m H (anY s name n) 0
       have ce:n≠0→∀ H,CallOk E0 Tryz.prog 52 [slV s.lb 4 (Za s.log),.int .i64 (n:Int)] H (.tup [slV true 4 (Za (clL (Y2 32 s.log n true))),.int .i64 0]) H:=fun hn0=>c52 hlg hR.1 (by omega) (by omega) hR.2 s.lb
       have hz:¬ (Zx s.log).2≠0:=not_not_intro (Zb3 hv)
       unfold anY at hf ⊢
       rw [ht] at hf ⊢
       simp only [Option.getD_some] at hf ⊢
       rw [← hln] at hf cs ⊢
       obtain ⟨n5,t5,i5⟩:=e
       have hei:i5=((Zs name s.log.reverse).2.1:Int):=hei
       subst hei
       have q3:ZQ E0 .gtr 3 (.int .i64 (n:Int)) (.int .i64 0)=some (.bool (decide (0<(n:Int)))):=rfl
       clear hR hrk hv hlg k1 k2 htm
       generalize hRH:(Zx s.log).1.cl=RH at ch cs hf ⊢
       generalize hSG:YI Tm.cl RH ((Za s.log).length:Int) s.key=SG at cs hf ⊢
       have hR2:(Zx s.log).2=0:=Classical.not_not.1 hz
       rw [hR2] at ch
       generalize clL (XI 32 s.log (Zs name s.log.reverse).2.1)=P at ci hf ⊢
       generalize clL (Y2 32 s.log n true)=Q at ce hf ⊢
       generalize (Zs name s.log.reverse).2.1=ix at cf ci hj hf ⊢
       generalize t.cl=u at cp hf ⊢
       clear hSG hRH hR2 hz h hok ht hlt he hln hneg hbig _hn
       obtain ⟨SG1,SG2⟩:=SG
       obtain ⟨kA,nmA,sA,bA,kidsA⟩:=RH
       obtain ⟨kB,nmB,sB,bB,kidsB⟩:=SG1
       obtain ⟨kC,nmC,sC,bC,kidsC⟩:=u
       obtain ⟨kD,nmD,sD,bD,kidsD⟩:=t
       obtain ⟨sn,⟨k,nm,zz,b,kids⟩,lb,log,kb,keys⟩:=s
       obtain ⟨k5,nm5,z5,b5,kids5⟩:=t5
       have hbd:=ZjG name (.mk kC nmC sC bC kidsC) ix (Za log).length
       simp only [An.cells,Sv.cells,En.cells,Tm.cells,Za,Zn,List.cons_append,List.nil_append] at cv cf cp ch cs ci ce hj hbd hf hfz q1 g2 ⊢
       by_cases hn0:n=0
       · subst hn0
         rw [if_pos rfl] at hf ⊢
         simp only [Za,Zn] at hf ⊢
         rcases XJ true 4 (Za P) with hP|hP
         all_goals
          rw [hP] at ci ⊢
          simp only [hP] at hf
          refine Zt (own:=(fun d=>[30013].any (Nat.beq d))) tOk fe18.ok hfz (hf 0 hNil) ?_
          refine Wp.seq ?_
          repeat' first|(apply qCl;rfl;rfl;rfl;rfl;first|exact cv _|exact cf _|exact ch _|exact cs _|exact ci _)|refine Ji ?_|refine Jl ?_|refine Jt ?_|refine Jo ?_|refine Jd (cp _) ?_|(apply dAl;rfl;rfl;rfl;rfl;exact IsV.ptrM;exact IsH.mkN)|(apply dBd;rfl;rfl;rfl;assumption;exact IsV.aggN;rfl)|refine JI ?_|refine Jh ?_|(apply dWB tOk follows;rfl;kernel_rfl;rfl;exact IsH.mkN)|fail
         all_goals exact hf _ _
       · have ce := ce hn0
         rw [if_neg hn0] at hf ⊢
         rw [decide_eq_true (show (0:Int)<(n:Int) by omega)] at q3
         rcases XJ true 4 (Za Q) with hQ|hQ
         all_goals
          rw [hQ] at ce ⊢
          simp only [hQ] at hf
          rcases XJ true 4 (Za P) with hP|hP
          all_goals
           rw [hP] at ci ⊢
           simp only [hP] at hf
           refine Zt (own:=(fun d=>[30013].any (Nat.beq d))) tOk fe18.ok hfz (hf 0 hNil) ?_
           refine Wp.seq ?_
           repeat' first|(apply qCl;rfl;rfl;rfl;rfl;first|exact cv _|exact cf _|exact ch _|exact cs _|exact ci _|exact ce _)|refine Ji ?_|refine Jl ?_|refine Jt ?_|refine Jo ?_|refine Jd (cp _) ?_|(apply dAl;rfl;rfl;rfl;rfl;exact IsV.ptrM;exact IsH.mkN)|(apply dBd;rfl;rfl;rfl;assumption;exact IsV.aggN;rfl)|refine JI ?_|refine Jh ?_|(apply dWB tOk follows;rfl;kernel_rfl;rfl;exact IsH.mkN)|fail
          all_goals exact hf _ _
open Go.Proofs
def anX (s:Sv) (name:Bs) (z:Nat):An:=
 ⟨name,(s.log[(Zs name s.log.reverse).2.1]?).getD .zero,((Zs name s.log.reverse).2.1:Int),(s.log.length:Int),(Y7 s.log s.key).1,(Y7 s.log s.key).2.1,true,XI 32 s.log (Zs name s.log.reverse).2.1,true,if z=0 then [] else Y2 32 s.log z true⟩
def Zix (s:Sv) (name:Bs) (z:Int):An×Int:=if (Zs name s.log.reverse).2.2=false then (An.zero,4) else if z<0∨(s.log.length:Int)<z then (An.zero,7) else (anX s name z.toNat,0)
theorem Zq4 (h:Mad 10 s) (hv:svV s=0) (_hn:name.length≤100) (z:Int):∀ H,CallOk E0 Tryz.prog 19 [.agg s.cells,.str name,.int .i64 z] H (.tup [.agg (Zix s name z).1.cells,.int .i64 (Zix s name z).2]) H:=by
 have cv:=c14 h.ok
 rw [hv] at cv
 have cf:=c53 h.ok.l h.ok.ls h.ok.ll (name:=name) s.lb
 have hfz:=ZgR s name z
 have hln:=Zmt s
 unfold Zix
 cases hok:(Zs name s.log.reverse).2.2 with
 | false =>
   rw [hok] at cf
   rw [if_pos rfl]
   have hf:=fun m H=>Zbp m H 4
   clear hok h hv
   generalize Zs name s.log.reverse=F at cf
   obtain ⟨⟨kf,nmf,sf,bf,kidsf⟩,nf,okf⟩:=F
   obtain ⟨sn,⟨k,nm,zz,b,kids⟩,lb,log,kb,keys⟩:=s
   simp only [WK] at hf ⊢
   simp only [Sv.cells,Tm.cells,List.cons_append,List.nil_append] at cv cf hfz ⊢
   refine Zt (own:=(fun d=>[30014].any (Nat.beq d))) tOk fe19.ok hfz (hf 0 hNil) ?_
   refine Wp.seq ?_
   repeat' first|refine Jc (cv _) ?_|refine Jc (cf _) ?_|refine Jt ?_|refine Jo ?_|fail
   all_goals exact hf _ _
 | true =>
   rw [hok] at cf
   rw [if_neg (by simp)]
   by_cases hneg:z<0
   · have q1 : ZQ E0 .lss 3 (.int .i64 z) (.int .i64 0) = some (.bool true) := Wa hneg
     rw [if_pos (.inl hneg)]
     have hf:=fun m H=>Zbp m H 7
     clear hok h hv hln
     generalize Zs name s.log.reverse=F at cf
     obtain ⟨⟨kf,nmf,sf,bf,kidsf⟩,nf,okf⟩:=F
     obtain ⟨sn,⟨k,nm,zz,b,kids⟩,lb,log,kb,keys⟩:=s
     simp only [WK] at hf ⊢
     simp only [Sv.cells,Tm.cells,List.cons_append,List.nil_append] at cv cf hfz ⊢
     refine Zt (own:=(fun d=>[30014].any (Nat.beq d))) tOk fe19.ok hfz (hf 0 hNil) ?_
     refine Wp.seq ?_
     repeat' first|refine Jk ?_|refine Jc (cv _) ?_|refine Jc (cf _) ?_|refine Ji ?_|refine Jt ?_|refine Jo ?_|fail
     all_goals exact hf _ _
   · have q1 : ZQ E0 .lss 3 (.int .i64 z) (.int .i64 0) = some (.bool false) := Xe hneg
     by_cases hbig:(s.log.length:Int)<z
     · have g2 : ZQ E0 .gtr 3 (.int .i64 z) (.int .i64 ((Za s.log).length : Int)) = some (.bool true) := ZdK (by rw [hln]; exact hbig)
       rw [if_pos (.inr hbig)]
       have hf:=fun m H=>Zbp m H 7
       clear hok h hv hln hbig
       generalize Zs name s.log.reverse=F at cf
       obtain ⟨⟨kf,nmf,sf,bf,kidsf⟩,nf,okf⟩:=F
       obtain ⟨sn,⟨k,nm,zz,b,kids⟩,lb,log,kb,keys⟩:=s
       simp only [WK] at hf ⊢
       simp only [Sv.cells,Tm.cells,List.cons_append,List.nil_append] at cv cf hfz g2 ⊢
       refine Zt (own:=(fun d=>[30014].any (Nat.beq d))) tOk fe19.ok hfz (hf 0 hNil) ?_
       refine Wp.seq ?_
       repeat' first|refine Jc (cv _) ?_|refine Jc (cf _) ?_|refine Ji ?_|refine Jl ?_|refine Jt ?_|refine Jo ?_|fail
       all_goals exact hf _ _
     · rw [if_neg (by omega)]
       obtain ⟨n,rfl⟩:∃ n:Nat,z=(n:Int):=⟨z.toNat,by omega⟩
       rw [Int.toNat_natCast]
       have g2:ZQ E0 .gtr 3 (.int .i64 (n:Int)) (.int .i64 ((Za s.log).length:Int))=some (.bool false):=ZbB (by rw [hln];exact hbig)
       have hlt:=Zcd hok
       rw [List.length_reverse] at hlt
       obtain ⟨t,ht⟩:∃ t,s.log[(Zs name s.log.reverse).2.1]? = some t:=⟨s.log[(Zs name s.log.reverse).2.1],by simp⟩
       have hR:=ZaT (Zb3 hv)
       have hlg:∀ t,t∈s.log→t.Ok∧t.size≤2000:=fun t ht=>⟨h.ok.l t ht,by have:=h.ok.ls t ht;omega⟩
       have ch:=c46 (fun t ht=>⟨h.ok.l t ht,h.ok.ls t ht⟩) s.lb h.ok.k h.ok.ks
       have ci:=c54 hlg hR.1 hlt hR.2 s.lb
       have hj:(Za s.log)[(Zs name s.log.reverse).2.1]? = some t.cells:=by
        obtain ⟨k,nm,s,b,kids⟩:=t
        exact Zl ht
       have hf:=fun m H=>Zb6 m H (anX s name n) 0
       have ce:n≠0→∀ H,CallOk E0 Tryz.prog 55 [slV s.lb 4 (Za s.log),.int .i64 (n:Int)] H (.tup [slV true 4 (Za (Y2 32 s.log n true)),.int .i64 0]) H:=fun hn0=>c55 hlg hR.1 (by omega) (by omega) hR.2 s.lb
       unfold anX at hf ⊢
       rw [ht] at hf ⊢
       simp only [Option.getD_some] at hf ⊢
       rw [← hln] at hf ⊢
       have hbd:=ZkY name t (Zs name s.log.reverse).2.1 (Za s.log).length (Y7 s.log s.key).1 (Y7 s.log s.key).2.1
       have q3:ZQ E0 .gtr 3 (.int .i64 (n:Int)) (.int .i64 0)=some (.bool (decide (0<(n:Int)))):=rfl
       clear hR hv hlg h hok hlt hneg hbig _hn hln
       generalize Y7 s.log s.key=HV at ch hbd hf ⊢
       generalize XI 32 s.log (Zs name s.log.reverse).2.1=P at ci hf ⊢
       generalize Y2 32 s.log n true=Q at ce hf ⊢
       generalize Zs name s.log.reverse=F at cf ci hj hbd hf ht ⊢
       clear ht
       obtain ⟨⟨kf,nmf,sf,bf,kidsf⟩,nf,okf⟩:=F
       obtain ⟨⟨kA,nmA,sA,bA,kidsA⟩,⟨kB,nmB,sB,bB,kidsB⟩,hok⟩:=HV
       obtain ⟨kD,nmD,sD,bD,kidsD⟩:=t
       obtain ⟨sn,⟨k,nm,zz,b,kids⟩,lb,log,kb,keys⟩:=s
       simp only [An.cells,Sv.cells,Tm.cells,Za,Zn,List.cons_append,List.nil_append] at cv cf ch ci ce hj hbd hf hfz q1 g2 ⊢
       by_cases hn0:n=0
       · subst hn0
         rw [if_pos rfl] at hf ⊢
         simp only [Za,Zn] at hf ⊢
         rcases XJ true 4 (Za P) with hP|hP
         all_goals
          rw [hP] at ci ⊢
          simp only [hP] at hf
          refine Zt (own:=(fun d=>[30014].any (Nat.beq d))) tOk fe19.ok hfz (hf 0 hNil) ?_
          refine Wp.seq ?_
          repeat' first|(apply qCl;rfl;rfl;rfl;rfl;first|exact cv _|exact cf _|exact ch _|exact ci _)|refine Ji ?_|refine Jl ?_|refine Jt ?_|refine Jb ?_ ?_|refine Jo ?_|(apply dAl;rfl;rfl;rfl;rfl;exact IsV.ptrM;exact IsH.mkN)|(apply dBd;rfl;rfl;rfl;assumption;exact IsV.aggN;rfl)|(apply dLn;rfl;rfl;rfl;rfl;rfl)|refine JI ?_|refine Jh ?_|(apply dWB tOk follows;rfl;kernel_rfl;rfl;exact IsH.mkN)|intro hb
         all_goals exact hf _ _
       · have ce := ce hn0
         rw [if_neg hn0] at hf ⊢
         rw [decide_eq_true (show (0:Int)<(n:Int) by omega)] at q3
         rcases XJ true 4 (Za Q) with hQ|hQ
         all_goals
          rw [hQ] at ce ⊢
          simp only [hQ] at hf
          rcases XJ true 4 (Za P) with hP|hP
          all_goals
           rw [hP] at ci ⊢
           simp only [hP] at hf
           refine Zt (own:=(fun d=>[30014].any (Nat.beq d))) tOk fe19.ok hfz (hf 0 hNil) ?_
           refine Wp.seq ?_
           repeat' first|(apply qCl;rfl;rfl;rfl;rfl;first|exact cv _|exact cf _|exact ch _|exact ci _|exact ce _)|refine Ji ?_|refine Jl ?_|refine Jt ?_|refine Jb ?_ ?_|refine Jo ?_|(apply dAl;rfl;rfl;rfl;rfl;exact IsV.ptrM;exact IsH.mkN)|(apply dBd;rfl;rfl;rfl;assumption;exact IsV.aggN;rfl)|(apply dLn;rfl;rfl;rfl;rfl;rfl)|refine JI ?_|refine Jh ?_|(apply dWB tOk follows;rfl;kernel_rfl;rfl;exact IsH.mkN)|intro hb
          all_goals exact hf _ _
open Go.Proofs
open Go.Proofs
open Go.Proofs
structure SvEq (a b:Sv):Prop where
 name:a.name=b.name
 key:a.key.cl=b.key.cl
 log:a.log.map Tm.cl=b.log.map Tm.cl
 keys:a.keys.map enK=b.keys.map enK
theorem SvEq.rfl' (a:Sv):SvEq a a:=⟨rfl,rfl,rfl,rfl⟩
theorem ZbK:∀ {l m:List Tm},l.map Tm.cl=m.map Tm.cl→Zgg l m=true
 | [],[],_=>rfl
 | [],_::_,h=>by simp at h
 |_::_,[],h=>by simp at h
 | a :: r, b :: q, h => by
   rw [List.map_cons,List.map_cons] at h
   injection h with q1 q2
   simp only [Zgg,ZbK q2,decide_eq_true (YG.2 q1),Bool.and_self]
end Go.Vm.Seat
