/-
  Normal forms in the program's text.
-/
import Derived.Test.YtfiflgphoepgeaaGreatDoorOv
set_option maxHeartbeats 0
set_option maxRecDepth 100000
namespace Go.Vm.Seat
variable {L:List (List PV)} {out:PV} {lv:List Nat} {nt:Nat} {t:Tm}
open Go.Proofs
theorem ZjY (hA:ApV true 4 L out lv nt) (nm:Bs):ZM [.agg [.int .i64 3,.str nm,.int .i64 0,out]]=some [.agg [.int .i64 3,.str nm,.int .i64 0,slV true 4 L]]:=by
 have h:=hA.frz1
 generalize slV true 4 L=V at h ⊢
 cases hA<;>(simp only [Go.Vm.frz1] at h;cases h;rfl)
theorem Zkn (hA:ApV true 4 L out lv nt) (nm:Bs) (m:Nat) (H:Heap):frz3 m H (.tup [.agg [.int .i64 3,.str nm,.int .i64 0,out],.int .i64 0])=some (.tup [.agg [.int .i64 3,.str nm,.int .i64 0,slV true 4 L],.int .i64 0]):=by
 have h:=hA.frzC m H
 rw [Xx]
 simp only [Vq,frz2,Wf,h]
 rfl
theorem c40 (ht:t.Ok):t.th=0→t.okA=true→t.size≤400→∀ H,CallOk E0 Tryz.prog 40 [.agg t.cells] H (.tup [.agg (t.nrm true).1.cells,.int .i64 (t.nrm true).2]) H:=by
 induction ht with
 | @mk k nm s b kz hk hs hn hl hok ih=>
 intro hth hokA hsz
 rw [Tm.size] at hsz
 by_cases hk3:k=3
 rotate_left
 · rw [Tm.nrm, if_pos hk3]
   have hnq:=Ux k 3
   rw [decide_eq_false hk3] at hnq
   clear ih
   simp only [Tm.cells]
   refine Jw tOk fe40.ok (ZE 0 hNil (.mk k nm s b kz) 0) ?_
   repeat' first|refine Ji ?_|refine Jo ?_|fail
   all_goals exact ZE _ _ (.mk k nm s b kz) 0
 · subst hk3
   obtain ⟨a0,a1,a2,a3⟩:=ZiV hth
   have hkth:=Zdr a3
   have hkA:=VM hokA
   have hkl:=Yj kz
   obtain ⟨f1,f2,f3⟩:=Zcf true hok hkth hkA (by omega)
   obtain ⟨N,hN⟩:∃ N,N=(Tm.mk 3 nm s b kz).nrm true:=⟨_,rfl⟩
   have hNe:∀ (i:Nat) (x:Tm),kz[i]? = some x→(∀ y,y∈kz.take i→(y.nrm true).2=0)→(x.nrm true).2≠0→N=(.zero,(x.nrm true).2):=fun i x hx hy he=>by
    rw [hN,Tm.nrm,if_neg (by simp),Za0 true hx hy he,if_pos he]
   have hNo:(∀ x,x∈kz→(x.nrm true).2=0)→N=YL true nm (kz.map fun x=>(x.nrm true).1):=fun h=>by
    rw [hN,Tm.nrm,if_neg (by simp),Zd5 true h,if_neg (by simp)]
   rw [← hN]
   clear hN
   simp only [Tm.cells]
   refine Jw tOk fe40.ok (ZE 0 hNil N.1 N.2) ?_
   repeat' first|refine Jl ?_|refine Jt ?_|refine Jo ?_|fail
   refine Wp.while (fun m tm H => ∃ (i : Nat) (base : TM) (out : PV) (lv : List Nat) (nt : Nat), i + m = kz.length ∧ (∀ y, y ∈ kz.take i → (y.nrm true).2 = 0) ∧ ApV true 4 (Za ((kz.take i).map fun x => (x.nrm true).1)) out lv nt ∧
     tm=ovr base [(1,.ptr 0 4 0 0),(2,.ptr 1 4 0 0),(4,.ptr 2 4 0 0),(19,slV b 4 (Za kz)),(20,.int .i64 (kz.length:Int)),(21,.int .i64 (i:Int))]∧H=⟨[.cells 4 [[.int .i64 3,.str nm,.int .i64 s,slV b 4 (Za kz)]],.cells 4 [zcT],.cells 4 [[.int .i64 3,.str nm,.int .i64 0,out]]],0,lv,nt⟩)
    (fun m tm H hI=>Wp.drop ?_) kz.length _ _ ⟨0,_,_,_,_,by omega,fun y hy=>by simp at hy,.nil _ _ rfl,Zf ⟨rfl,rfl,rfl,rfl,Zd (by rw [Zb]),rfl,trivial⟩,rfl⟩
   obtain ⟨i,base,out,lv,nt,hi,hz,hA,rfl,rfl⟩:=hI
   by_cases hlt:i<kz.length
   · obtain ⟨x, hx⟩ : ∃ x, kz[i]? = some x := ⟨kz[i], by simp⟩
     have hm:x∈kz:=List.mem_of_getElem? hx
     have hle:=ZR hm
     have hc:=ih x hm (hkth x hm) (hkA x hm) (by omega)
     have hNe:=hNe i x hx hz
     have hsn:=Zfv (fun x=>(x.nrm true).1) hx
     have hzs:(x.nrm true).2=0→∀ y,y∈kz.take (i+1)→(y.nrm true).2=0:=fun h0 y hy=>by
      rw [List.take_add_one,hx] at hy
      rcases List.mem_append.1 hy with hy|hy
      · exact hz y hy
      · have : y = x := by simpa using hy
        rw [this];exact h0
     obtain ⟨o1,lv1,nt1,hap1,hA1⟩:=QS hA ((x.nrm true).1) (by simp;omega)
     obtain ⟨kt,rfl⟩:=XO hA1 fun e=>by
      have:=congrArg List.length e
      rw [Zb] at this
      simp at this
     rw [← hsn] at hA1 hap1
     have hlx:=Zt (i:Int) (kz.length:Int)
     rw [decide_eq_true (by omega)] at hlx
     have hBU:Yq 3 (.cells 4 [[.int .i64 3,.str nm,.int .i64 s,slV b 4 (Za kz)]])=true:=by simp [Yq,ZL,under,Zg]
     have hBU2:Yq 3 (.cells 4 [[.int .i64 3,.str nm,.int .i64 0,.sl (.tok kt) 4 (Za ((kz.take (i+1)).map fun x=>(x.nrm true).1))]])=true:=by simp [Yq,ZL,under]
     clear ih hNo f1 f2 f3
     generalize (x.nrm true).2=e at hc hNe hzs
     generalize (x.nrm true).1=U at hc hap1
     obtain ⟨k',nm',s',b',kz'⟩:=x
     obtain ⟨k2,nm2,s2,b2,kz2⟩:=U
     have hj:=Zk hx
     simp only [Tm.cells] at hc hap1
     by_cases he:e≠0
     · rw [hNe he]
       have hne:=YQ he
       simp only [Zn]
       repeat' first|refine Jc (hc _) ?_|refine Ji ?_|refine Jx ?_|refine Jo ?_|fail
       all_goals rfl
     · have he := Classical.not_not.1 he
       subst he
       repeat' first|refine Jc (hc _) ?_|refine Js ?_|refine JA ?_|refine Ji ?_|refine Jx ?_|refine Jt ?_|refine Jo ?_|fail
       refine DropQ.go [(1,.ptr 0 4 0 0),(2,.ptr 1 4 0 0),(4,.ptr 2 4 0 0),(19,slV b 4 (Za kz)),(20,.int .i64 (kz.length:Int)),(21,.int .i64 ((i+1:Nat):Int))] ?_ ?_ rfl ?_ ?_
       · exact ⟨rfl,rfl,rfl,rfl,rfl,Zd (Zc (n:=i+1) (by omega)),trivial⟩
       · simp [Zg,under]
       · show (Yq 3 _ && (Yq 3 _ && (Yq 3 _ && true))) = true
         rw [hBU,hBU2]
         rfl
       · exact LoopI.go (m-1) (by omega) ⟨i+1,_,_,lv1,nt1,by omega,hzs rfl,hA1,rfl,rfl⟩
   · have e : i = kz.length := by omega
     subst e
     rw [List.take_length] at hA hz
     clear ih hNe hokA
     have hNo:=hNo hz
     have hlx:=Zt (kz.length:Int) (kz.length:Int)
     rw [decide_eq_false (by omega)] at hlx
     have hkn:(kz.map fun x=>(x.nrm true).1).length=kz.length:=by rw [List.length_map]
     generalize (kz.map fun x=>(x.nrm true).1)=ks at hA hNo f1 f2 f3 hkn
     obtain ⟨s1,s2,s3⟩:=Qd a0 a1 a2
     have hSm:SmL ks:=fun z hz=>⟨f2 z hz,by have:=ZR hz;omega⟩
     have hks:ks.length≤8:=by omega
     have hfo:=ZjY hA nm
     clear hz hi hlt
     by_cases c1:(Yo nm).kind=3
     · have hD : ∀ H, CallOk E0 Tryz.prog 72 [.agg [.int .i64 3, .str nm, .int .i64 0, out]] H (.agg (Xl (.mk 3 nm 0 true ks)).cells) H := fun H => Zr (c72 (nm := nm) (ks := ks) c1 (by omega) (by omega) f1 hSm true H) hfo
       have e1:YL true nm ks=(Xl (.mk 3 nm 0 true ks),0):=by unfold YL;rw [if_pos c1]
       rw [hNo,e1]
       have hfr:=fun m H=>ZE m H (Xl (.mk 3 nm 0 true ks)) 0
       have hn:nm=Vw∨nm=Vg∨nm=YU∨nm=W6∨nm=Yx∨nm=Yz:=by
        rcases Za2 c1 with ⟨h|h|h, -⟩|⟨h|h|h, -⟩<;>simp [h]
       generalize Xl (.mk 3 nm 0 true ks)=U at hD hfr
       obtain ⟨k2,nm2,s2',b2,kz2⟩:=U
       clear hfo c1 s1 s2 s3 a0 a1 a2 hNo e1 hth
       rcases hn with rfl|rfl|rfl|rfl|rfl|rfl
       all_goals
        simp only [Tm.cells,Vw,Vg,YU,W6,Yx,Yz] at hD hfr ⊢
        repeat' first|refine Jc (hD _) ?_|refine Ji ?_|refine Jt ?_|refine Jo ?_|fail
        all_goals exact hfr _ _
     · have c1n : nm ≠ Vw ∧ nm ≠ Vg ∧ nm ≠ YU ∧ nm ≠ W6 ∧ nm ≠ Yx ∧ nm ≠ Yz := by
         refine ⟨?_,?_,?_,?_,?_,?_⟩
         all_goals
          rintro rfl
          exact c1 (by decide)
       obtain ⟨n1,n2,n3,n4,n5,n6⟩:=c1n
       by_cases c2:nm=Zai
       · have hS : ∀ H, CallOk E0 Tryz.prog 73 [out] H (.tup [.agg (sumG true ks).1.cells, .int .i64 (sumG true ks).2]) H := fun H => Zr (c73 hSm (by omega) true H) (by simp only [ZM, hA.frzG])
         have e1:YL true nm ks=sumG true ks:=by unfold YL;rw [if_neg c1,if_pos c2]
         rw [hNo,e1]
         have hfr:=fun m H=>ZE m H (sumG true ks).1 (sumG true ks).2
         generalize (sumG true ks).2=e at hS hfr
         generalize (sumG true ks).1=U at hS hfr
         obtain ⟨k2,nm2,s2',b2,kz2⟩:=U
         clear hfo c1 s1 s2 s3 a0 a1 a2 hNo e1 hth
         subst c2
         simp only [Tm.cells,Zai] at hS hfr ⊢
         repeat' first|refine Jc (hS _) ?_|refine Ji ?_|refine Jt ?_|refine Jo ?_|fail
         all_goals exact hfr _ _
       by_cases c3:Zab 3 nm=true
       · have hok3 : (Tm.mk 3 nm 0 true ks).Ok := cls_ok.app s1 (by omega) (by rw [hkn]; exact s3) f2
         have hsz3:(Tm.mk 3 nm 0 true ks).size≤100000:=by rw [Tm.size];omega
         obtain ⟨F,hO⟩:=c74 hok3 hsz3
         obtain ⟨gA,gB⟩:=VW hok3 hsz3
         have hT:=c75 (gA.mono (by decide)) gB F
         have hO:∀ H,CallOk E0 Tryz.prog 74 [.agg [.int .i64 3,.str nm,.int .i64 0,out]] H (.tup [slV F 5 (pwL (ofG (.mk 3 nm 0 true ks)).1),.int .i64 (ofG (.mk 3 nm 0 true ks)).2]) H:=fun H=>Zr (hO H) hfo
         have e1:YL true nm ks=Q0 true (.mk 3 nm 0 true ks):=by unfold YL;rw [if_neg c1,if_neg c2,if_pos c3]
         rw [hNo,e1,ZnH]
         clear hfo c1 s1 s2 s3 a0 a1 a2 hNo e1 hth gA gB hok3 hsz3 c2 n1 n2 n3 n4 n5 n6
         generalize (ofG (.mk 3 nm 0 true ks)).2=v at hO ⊢
         generalize (ofG (.mk 3 nm 0 true ks)).1=P at hO hT ⊢
         by_cases hv:v≠0
         · rw [if_pos hv]
           have hne:=YQ hv
           clear hT
           rcases (X7 c3).2 with rfl|rfl|rfl
           all_goals
            simp only [Vi,WJ,VF,Zn] at hO ⊢
            repeat' first|refine Jc (hO _) ?_|refine Ji ?_|refine Jt ?_|refine Jo ?_|fail
            all_goals rfl
         · have hv := Classical.not_not.1 hv
           subst hv
           rw [if_neg (by simp)]
           have hfr:=fun m H=>ZE m H (XQ true P).1 (XQ true P).2
           generalize (XQ true P).2=e at hT hfr ⊢
           generalize (XQ true P).1=U at hT hfr ⊢
           obtain ⟨k2,nm2,s2',b2,kz2⟩:=U
           rcases (X7 c3).2 with rfl|rfl|rfl
           all_goals
            simp only [Tm.cells,Vi,WJ,VF] at hO hT hfr ⊢
            repeat' first|refine Jc (hO _) ?_|refine Jc (hT _) ?_|refine Ji ?_|refine Jt ?_|refine Jo ?_|fail
            all_goals exact hfr _ _
       by_cases c4:nm=YE
       · subst c4
         have hn2:ks.length=2:=by
          rw [hkn]
          have b1:(Yo YE).least=2:=rfl
          have b2:(Yo YE).most=2:=rfl
          omega
         obtain ⟨a,e,rfl⟩:=Zpk hn2
         have hP:=c76 (f1 a (by simp)) (hSm a (by simp)) (hSm e (by simp))
         have e1:YL true YE [a,e]=Wq true a e:=by unfold YL;rw [if_neg c1,if_neg c2,if_neg c3,if_pos rfl];rfl
         rw [hNo,e1]
         have hfr:=fun m H=>ZE m H (Wq true a e).1 (Wq true a e).2
         generalize (Wq true a e).2=e' at hP hfr
         generalize (Wq true a e).1=U at hP hfr
         obtain ⟨kt,rfl⟩:=XO hA (by simp [Za])
         obtain ⟨k2,nm2,s2',b2,kz2⟩:=U
         obtain ⟨k3,nm3,s3',b3,kz3⟩:=a
         obtain ⟨k4,nm4,s4',b4,kz4⟩:=e
         clear hfo c1 s1 s2 s3 a0 a1 a2 hNo e1 hth f1 f2 f3 hSm hks hkn hA
         simp only [Tm.cells,YE,Za] at hP hfr ⊢
         repeat' first|refine Ji ?_|refine Jt ?_|refine Jo ?_|refine Jd (hP _) ?_|refine Jh ?_|(apply Wp.drawS tOk follows;kernel_rfl;rfl)|fail
         all_goals exact hfr _ _
       have e1:YL true nm ks=(.mk 3 nm 0 true ks,0):=by unfold YL;rw [if_neg c1,if_neg c2,if_neg c3,if_neg c4]
       rw [hNo,e1]
       have d1:=Wv c2
       have d2:=Wv c4
       have c3:¬ nm=Vi∧¬ nm=WJ∧¬ nm=VF:=by simpa [Zab] using c3
       have d3:=Wv c3.1
       have d4:=Wv c3.2.1
       have d5:=Wv c3.2.2
       have d6:=Wv n1
       have d7:=Wv n2
       have d8:=Wv n3
       have d9:=Wv n4
       have da:=Wv n5
       have db:=Wv n6
       have hfr:∀ m H,frz3 m H (.tup [.agg [.int .i64 3,.str nm,.int .i64 0,out],.int .i64 0])=some (.tup [.agg (Tm.mk 3 nm 0 true ks).cells,.int .i64 0]):=fun m H=>Zkn hA nm m H
       clear hfo hNo e1
       simp only [Tm.cells,Zai,Vi,WJ,VF,YE,Vw,Vg,YU,W6,Yx,Yz] at hfr d1 d2 d3 d4 d5 d6 d7 d8 d9 da db ⊢
       rcases Wi hA with rfl|⟨kt,rfl⟩
       all_goals
        repeat' first|refine Ji ?_|refine Jt ?_|refine Jo ?_|fail
        all_goals exact hfr _ _
theorem c21 (ht:t.Ok) (hs:t.size≤100000):∀ H,CallOk E0 Tryz.prog 21 [.agg t.cells] H (.tup [.agg (t.nf true).1.cells,.int .i64 (t.nf true).2]) H:=by
 have hV:=c39 ht (by omega)
 by_cases h1:(if t.valid≠0 then t.valid else t.th)≠0
 · have e : t.nf true = (.zero, if t.valid ≠ 0 then t.valid else t.th) := by
     unfold Tm.nf
     split
     · rfl
     · rename_i h2
       rw [if_neg h2] at h1
       rw [if_pos h1]
   rw [e]
   generalize (if t.valid≠0 then t.valid else t.th)=v at hV h1 ⊢
   have hne:=YQ h1
   obtain ⟨k,nm,s,b,kz⟩:=t
   simp only [Tm.cells,Zn] at hV ⊢
   refine Jw tOk fe21.ok (Yc _ _ _) ?_
   repeat' first|refine Jc (hV _) ?_|refine Ji ?_|refine Jo ?_|fail
   all_goals rfl
 · have h1 := Classical.not_not.1 h1
   rw [h1] at hV
   have hv0:t.valid=0:=by
    by_cases h:t.valid=0
    · exact h
    · rw [if_pos h] at h1;exact absurd h1 h
   have ht0:t.th=0:=by rwa [if_neg (by rw [hv0];simp)] at h1
   have hsz:=Yu hv0
   have hA:=ZiY t (ZeG hv0) ht0
   have hN:=c40 ht ht0 hA hsz
   have hsN:=U3 true t ht0
   have hVN:=c41 (t:=(t.nrm true).1) (cls_ok.nrm t ht0 (by omega) ht) (by omega)
   have e:t.nf true=if (t.nrm true).2≠0 then (.zero,(t.nrm true).2) else if (t.nrm true).1.valid≠0 then (.zero,(t.nrm true).1.valid) else ((t.nrm true).1,0):=by
    unfold Tm.nf
    rw [if_neg (by rw [hv0];simp),if_neg (by rw [ht0];simp)]
   rw [e]
   clear e hsN hA hv0 ht0 h1
   generalize (t.nrm true).1.valid=v2 at hVN ⊢
   generalize (t.nrm true).2=v at hN ⊢
   generalize (t.nrm true).1=U at hN hVN ⊢
   obtain ⟨k,nm,s,b,kz⟩:=t
   by_cases h2:v≠0
   · rw [if_pos h2]
     have hne:=YQ h2
     have heq:=Ziu h2
     obtain ⟨k2,nm2,s2,b2,kz2⟩:=U
     simp only [Tm.cells,Zn] at hV hN ⊢
     refine Jw tOk fe21.ok (Yc _ _ _) ?_
     repeat' first|refine Jc (hV _) ?_|refine Jc (hN _) ?_|refine Ji ?_|refine Jt ?_|refine Jo ?_|fail
     all_goals rfl
   · rw [if_neg h2]
     have h2:=Classical.not_not.1 h2
     subst h2
     by_cases h3:v2≠0
     · rw [if_pos h3]
       have hne:=YQ h3
       obtain ⟨k2,nm2,s2,b2,kz2⟩:=U
       simp only [Tm.cells,Zn] at hV hN hVN ⊢
       refine Jw tOk fe21.ok (Yc _ _ _) ?_
       repeat' first|(apply qCl;rfl;rfl;rfl;rfl;first|exact hV _|exact hN _|exact hVN _)|refine Ji ?_|refine Jt ?_|refine Jo ?_|fail
       all_goals rfl
     · rw [if_neg h3]
       have h3:=Classical.not_not.1 h3
       subst h3
       have hfr:=fun m H=>ZE m H U 0
       obtain ⟨k2,nm2,s2,b2,kz2⟩:=U
       simp only [Tm.cells] at hV hN hVN hfr ⊢
       refine Jw tOk fe21.ok (hfr _ _) ?_
       repeat' first|(apply qCl;rfl;rfl;rfl;rfl;first|exact hV _|exact hN _|exact hVN _)|refine Jt ?_|refine Jo ?_|fail
       all_goals exact hfr _ _
