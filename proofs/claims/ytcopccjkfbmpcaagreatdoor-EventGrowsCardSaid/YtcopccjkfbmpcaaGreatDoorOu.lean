/-
  Normal forms in the program's text.
-/
import Derived.Test.YtcopccjkfbmpcaaGreatDoorOd
set_option maxHeartbeats 0
set_option maxRecDepth 100000
namespace Go.Vm.Seat
variable {L:List (List PV)} {out:PV} {lv:List Nat} {nt:Nat} {t:Tm}
open Go.Proofs
theorem ZlA (hA:ApV true 4 L out lv nt) (nm:Bs):Zx [.agg [.int .i64 3,.str nm,.int .i64 0,out]]=some [.agg [.int .i64 3,.str nm,.int .i64 0,slV true 4 L]]:=by
 have h:=hA.frz1
 generalize slV true 4 L=V at h ⊢
 cases hA<;>(simp only [Go.Vm.frz1] at h;cases h;rfl)
theorem Zmh (hA:ApV true 4 L out lv nt) (nm:Bs) (m:Nat) (H:Heap):frz3 m H (.tup [.agg [.int .i64 3,.str nm,.int .i64 0,out],.int .i64 0])=some (.tup [.agg [.int .i64 3,.str nm,.int .i64 0,slV true 4 L],.int .i64 0]):=by
 have h:=hA.frzC m H
 rw [WW]
 simp only [Wn,frz2,WH,h]
 rfl
theorem Zv6 (ht:t.Ok):t.th=0→t.okA=true→t.size≤400→∀ H,CallOk E0 Tryz.prog 192 [.agg t.cells] H (.tup [.agg (t.nrm true).1.cells,.int .i64 (t.nrm true).2]) H:=by
 induction ht with
 | @mk k nm s b kz hk hs hn hl hok ih=>
 intro hth hokA hsz
 rw [Tm.size] at hsz
 by_cases hk3:k=3
 rotate_left
 · rw [Tm.nrm, if_pos hk3]
   have hnq:=Zbd k 3
   rw [decide_eq_false hk3] at hnq
   clear ih
   simp only [Tm.cells]
   refine Jw tOk fe192.ok (ZU 0 hNil (.mk k nm s b kz) 0) ?_
   repeat' first|refine Ji ?_|refine Jo ?_|fail
   all_goals exact ZU _ _ (.mk k nm s b kz) 0
 · subst hk3
   obtain ⟨a0,a1,a2,a3⟩:=ZkM hth
   have hkth:=Ze3 a3
   have hkA:=U6 hokA
   have hkl:=Yy kz
   obtain ⟨f1,f2,f3⟩:=Zd4 true hok hkth hkA (by omega)
   obtain ⟨N,hN⟩:∃ N,N=(Tm.mk 3 nm s b kz).nrm true:=⟨_,rfl⟩
   have hNe:∀ (i:Nat) (x:Tm),kz[i]? = some x→(∀ y,y∈kz.take i→(y.nrm true).2=0)→(x.nrm true).2≠0→N=(.zero,(x.nrm true).2):=fun i x hx hy he=>by
    rw [hN,Tm.nrm,if_neg (by simp),ZcJ true hx hy he,if_pos he]
   have hNo:(∀ x,x∈kz→(x.nrm true).2=0)→N=YX true nm (kz.map fun x=>(x.nrm true).1):=fun h=>by
    rw [hN,Tm.nrm,if_neg (by simp),Zff true h,if_neg (by simp)]
   rw [← hN]
   clear hN
   simp only [Tm.cells]
   refine Jw tOk fe192.ok (ZU 0 hNil N.1 N.2) ?_
   repeat' first|refine Jl ?_|refine Jt ?_|refine Jo ?_|fail
   refine Wp.while (fun m tm H => ∃ (i : Nat) (base : TM) (out : PV) (lv : List Nat) (nt : Nat), i + m = kz.length ∧ (∀ y, y ∈ kz.take i → (y.nrm true).2 = 0) ∧ ApV true 4 (Za ((kz.take i).map fun x => (x.nrm true).1)) out lv nt ∧
     tm=ovr base [(1,.ptr 0 4 0 0),(2,.ptr 1 4 0 0),(4,.ptr 2 4 0 0),(19,slV b 4 (Za kz)),(20,.int .i64 (kz.length:Int)),(21,.int .i64 (i:Int))]∧H=⟨[.cells 4 [[.int .i64 3,.str nm,.int .i64 s,slV b 4 (Za kz)]],.cells 4 [zcT],.cells 4 [[.int .i64 3,.str nm,.int .i64 0,out]]],0,lv,nt⟩)
    (fun m tm H hI=>Wp.drop ?_) kz.length _ _ ⟨0,_,_,_,_,by omega,fun y hy=>by simp at hy,.nil _ _ rfl,Zf ⟨rfl,rfl,rfl,rfl,Ze (by rw [Zb]),rfl,trivial⟩,rfl⟩
   obtain ⟨i,base,out,lv,nt,hi,hz,hA,rfl,rfl⟩:=hI
   by_cases hlt:i<kz.length
   · obtain ⟨x, hx⟩ : ∃ x, kz[i]? = some x := ⟨kz[i], by simp⟩
     have hm:x∈kz:=List.mem_of_getElem? hx
     have hle:=Z7 hm
     have hc:=ih x hm (hkth x hm) (hkA x hm) (by omega)
     have hNe:=hNe i x hx hz
     have hsn:=ZgC (fun x=>(x.nrm true).1) hx
     have hzs:(x.nrm true).2=0→∀ y,y∈kz.take (i+1)→(y.nrm true).2=0:=fun h0 y hy=>by
      rw [List.take_add_one,hx] at hy
      rcases List.mem_append.1 hy with hy|hy
      · exact hz y hy
      · have : y = x := by simpa using hy
        rw [this];exact h0
     obtain ⟨o1,lv1,nt1,hap1,hA1⟩:=QN hA ((x.nrm true).1) (by simp;omega)
     obtain ⟨kt,rfl⟩:=WT hA1 fun e=>by
      have:=congrArg List.length e
      rw [Zb] at this
      simp at this
     rw [← hsn] at hA1 hap1
     have hlx:=Zq (i:Int) (kz.length:Int)
     rw [decide_eq_true (by omega)] at hlx
     have hBU:YJ 3 (.cells 4 [[.int .i64 3,.str nm,.int .i64 s,slV b 4 (Za kz)]])=true:=by simp [YJ,ZM,under,Zh]
     have hBU2:YJ 3 (.cells 4 [[.int .i64 3,.str nm,.int .i64 0,.sl (.tok kt) 4 (Za ((kz.take (i+1)).map fun x=>(x.nrm true).1))]])=true:=by simp [YJ,ZM,under]
     clear ih hNo f1 f2 f3
     generalize (x.nrm true).2=e at hc hNe hzs
     generalize (x.nrm true).1=U at hc hap1
     obtain ⟨k',nm',s',b',kz'⟩:=x
     obtain ⟨k2,nm2,s2,b2,kz2⟩:=U
     have hj:=Zk hx
     simp only [Tm.cells] at hc hap1
     by_cases he:e≠0
     · rw [hNe he]
       have hne:=Y3 he
       simp only [Zr]
       repeat' first|refine Jc (hc _) ?_|refine Ji ?_|refine Jx ?_|refine Jo ?_|fail
       all_goals rfl
     · have he := Classical.not_not.1 he
       subst he
       repeat' first|refine Jc (hc _) ?_|refine Js ?_|refine JA ?_|refine Ji ?_|refine Jx ?_|refine Jt ?_|refine Jo ?_|fail
       refine DropQ.go [(1,.ptr 0 4 0 0),(2,.ptr 1 4 0 0),(4,.ptr 2 4 0 0),(19,slV b 4 (Za kz)),(20,.int .i64 (kz.length:Int)),(21,.int .i64 ((i+1:Nat):Int))] ?_ ?_ rfl ?_ ?_
       · exact ⟨rfl,rfl,rfl,rfl,rfl,Ze (Zd (n:=i+1) (by omega)),trivial⟩
       · simp [Zh,under]
       · show (YJ 3 _ && (YJ 3 _ && (YJ 3 _ && true))) = true
         rw [hBU,hBU2]
         rfl
       · exact LoopI.go (m-1) (by omega) ⟨i+1,_,_,lv1,nt1,by omega,hzs rfl,hA1,rfl,rfl⟩
   · have e : i = kz.length := by omega
     subst e
     rw [List.take_length] at hA hz
     clear ih hNe hokA
     have hNo:=hNo hz
     have hlx:=Zq (kz.length:Int) (kz.length:Int)
     rw [decide_eq_false (by omega)] at hlx
     have hkn:(kz.map fun x=>(x.nrm true).1).length=kz.length:=by rw [List.length_map]
     generalize (kz.map fun x=>(x.nrm true).1)=ks at hA hNo f1 f2 f3 hkn
     obtain ⟨s1,s2,s3⟩:=Zaa a0 a1 a2
     have hSm:SmL ks:=fun z hz=>⟨f2 z hz,by have:=Z7 hz;omega⟩
     have hks:ks.length≤8:=by omega
     have hfo:=ZlA hA nm
     clear hz hi hlt
     by_cases c1:(YA nm).kind=3
     · have hD : ∀ H, CallOk E0 Tryz.prog 206 [.agg [.int .i64 3, .str nm, .int .i64 0, out]] H (.agg (Xz (.mk 3 nm 0 true ks)).cells) H := fun H => Zs (ZuD (nm := nm) (ks := ks) c1 (by omega) (by omega) f1 hSm true H) hfo
       have e1:YX true nm ks=(Xz (.mk 3 nm 0 true ks),0):=by unfold YX;rw [if_pos c1]
       rw [hNo,e1]
       have hfr:=fun m H=>ZU m H (Xz (.mk 3 nm 0 true ks)) 0
       have hn:nm=Um∨nm=V5∨nm=Y7∨nm=VY∨nm=YQ∨nm=YO:=by
        rcases ZcQ c1 with ⟨h|h|h, -⟩|⟨h|h|h, -⟩<;>simp [h]
       generalize Xz (.mk 3 nm 0 true ks)=U at hD hfr
       obtain ⟨k2,nm2,s2',b2,kz2⟩:=U
       clear hfo c1 s1 s2 s3 a0 a1 a2 hNo e1 hth
       rcases hn with rfl|rfl|rfl|rfl|rfl|rfl
       all_goals
        simp only [Tm.cells,Um,V5,Y7,VY,YQ,YO] at hD hfr ⊢
        repeat' first|refine Jc (hD _) ?_|refine Ji ?_|refine Jt ?_|refine Jo ?_|fail
        all_goals exact hfr _ _
     · have c1n : nm ≠ Um ∧ nm ≠ V5 ∧ nm ≠ Y7 ∧ nm ≠ VY ∧ nm ≠ YQ ∧ nm ≠ YO := by
         refine ⟨?_,?_,?_,?_,?_,?_⟩
         all_goals
          rintro rfl
          exact c1 (by decide)
       obtain ⟨n1,n2,n3,n4,n5,n6⟩:=c1n
       by_cases c2:nm=Zba
       · have hS : ∀ H, CallOk E0 Tryz.prog 207 [out] H (.tup [.agg (sumG true ks).1.cells, .int .i64 (sumG true ks).2]) H := fun H => Zs (ZvF hSm (by omega) true H) (by simp only [Zx, hA.frzG])
         have e1:YX true nm ks=sumG true ks:=by unfold YX;rw [if_neg c1,if_pos c2]
         rw [hNo,e1]
         have hfr:=fun m H=>ZU m H (sumG true ks).1 (sumG true ks).2
         generalize (sumG true ks).2=e at hS hfr
         generalize (sumG true ks).1=U at hS hfr
         obtain ⟨k2,nm2,s2',b2,kz2⟩:=U
         clear hfo c1 s1 s2 s3 a0 a1 a2 hNo e1 hth
         subst c2
         simp only [Tm.cells,Zba] at hS hfr ⊢
         repeat' first|refine Jc (hS _) ?_|refine Ji ?_|refine Jt ?_|refine Jo ?_|fail
         all_goals exact hfr _ _
       by_cases c3:Zbi 3 nm=true
       · have hok3 : (Tm.mk 3 nm 0 true ks).Ok := cls_ok.app s1 (by omega) (by rw [hkn]; exact s3) f2
         have hsz3:(Tm.mk 3 nm 0 true ks).size≤100000:=by rw [Tm.size];omega
         obtain ⟨F,hO⟩:=ZqB hok3 hsz3
         obtain ⟨gA,gB⟩:=UC hok3 hsz3
         have hT:=Ztr (gA.mono (by decide)) gB F
         have hO:∀ H,CallOk E0 Tryz.prog 208 [.agg [.int .i64 3,.str nm,.int .i64 0,out]] H (.tup [slV F 5 (pwL (ofG (.mk 3 nm 0 true ks)).1),.int .i64 (ofG (.mk 3 nm 0 true ks)).2]) H:=fun H=>Zs (hO H) hfo
         have e1:YX true nm ks=ZaW true (.mk 3 nm 0 true ks):=by unfold YX;rw [if_neg c1,if_neg c2,if_pos c3]
         rw [hNo,e1,ZpY]
         clear hfo c1 s1 s2 s3 a0 a1 a2 hNo e1 hth gA gB hok3 hsz3 c2 n1 n2 n3 n4 n5 n6
         generalize (ofG (.mk 3 nm 0 true ks)).2=v at hO ⊢
         generalize (ofG (.mk 3 nm 0 true ks)).1=P at hO hT ⊢
         by_cases hv:v≠0
         · rw [if_pos hv]
           have hne:=Y3 hv
           clear hT
           rcases (WI c3).2 with rfl|rfl|rfl
           all_goals
            simp only [Uc,VF,Uj,Zr] at hO ⊢
            repeat' first|refine Jc (hO _) ?_|refine Ji ?_|refine Jt ?_|refine Jo ?_|fail
            all_goals rfl
         · have hv := Classical.not_not.1 hv
           subst hv
           rw [if_neg (by simp)]
           have hfr:=fun m H=>ZU m H (Wi true P).1 (Wi true P).2
           generalize (Wi true P).2=e at hT hfr ⊢
           generalize (Wi true P).1=U at hT hfr ⊢
           obtain ⟨k2,nm2,s2',b2,kz2⟩:=U
           rcases (WI c3).2 with rfl|rfl|rfl
           all_goals
            simp only [Tm.cells,Uc,VF,Uj] at hO hT hfr ⊢
            repeat' first|refine Jc (hO _) ?_|refine Jc (hT _) ?_|refine Ji ?_|refine Jt ?_|refine Jo ?_|fail
            all_goals exact hfr _ _
       by_cases c4:nm=YT
       · subst c4
         have hn2:ks.length=2:=by
          rw [hkn]
          have b1:(YA YT).least=2:=rfl
          have b2:(YA YT).most=2:=rfl
          omega
         obtain ⟨a,e,rfl⟩:=Zrt hn2
         have hP:=ZuT (f1 a (by simp)) (hSm a (by simp)) (hSm e (by simp))
         have e1:YX true YT [a,e]=Vc true a e:=by unfold YX;rw [if_neg c1,if_neg c2,if_neg c3,if_pos rfl];rfl
         rw [hNo,e1]
         have hfr:=fun m H=>ZU m H (Vc true a e).1 (Vc true a e).2
         generalize (Vc true a e).2=e' at hP hfr
         generalize (Vc true a e).1=U at hP hfr
         obtain ⟨kt,rfl⟩:=WT hA (by simp [Za])
         obtain ⟨k2,nm2,s2',b2,kz2⟩:=U
         obtain ⟨k3,nm3,s3',b3,kz3⟩:=a
         obtain ⟨k4,nm4,s4',b4,kz4⟩:=e
         clear hfo c1 s1 s2 s3 a0 a1 a2 hNo e1 hth f1 f2 f3 hSm hks hkn hA
         simp only [Tm.cells,YT,Za] at hP hfr ⊢
         repeat' first|refine Ji ?_|refine Jt ?_|refine Jo ?_|refine Jd (hP _) ?_|refine Jh ?_|(apply Wp.drawS tOk follows;kernel_rfl;rfl)|fail
         all_goals exact hfr _ _
       have e1:YX true nm ks=(.mk 3 nm 0 true ks,0):=by unfold YX;rw [if_neg c1,if_neg c2,if_neg c3,if_neg c4]
       rw [hNo,e1]
       have d1:=VC c2
       have d2:=VC c4
       have c3:¬ nm=Uc∧¬ nm=VF∧¬ nm=Uj:=by simpa [Zbi] using c3
       have d3:=VC c3.1
       have d4:=VC c3.2.1
       have d5:=VC c3.2.2
       have d6:=VC n1
       have d7:=VC n2
       have d8:=VC n3
       have d9:=VC n4
       have da:=VC n5
       have db:=VC n6
       have hfr:∀ m H,frz3 m H (.tup [.agg [.int .i64 3,.str nm,.int .i64 0,out],.int .i64 0])=some (.tup [.agg (Tm.mk 3 nm 0 true ks).cells,.int .i64 0]):=fun m H=>Zmh hA nm m H
       clear hfo hNo e1
       simp only [Tm.cells,Zba,Uc,VF,Uj,YT,Um,V5,Y7,VY,YQ,YO] at hfr d1 d2 d3 d4 d5 d6 d7 d8 d9 da db ⊢
       rcases QS hA with rfl|⟨kt,rfl⟩
       all_goals
        repeat' first|refine Ji ?_|refine Jt ?_|refine Jo ?_|fail
        all_goals exact hfr _ _
theorem ZvG (ht:t.Ok) (hs:t.size≤100000):∀ H,CallOk E0 Tryz.prog 165 [.agg t.cells] H (.tup [.agg (t.nf true).1.cells,.int .i64 (t.nf true).2]) H:=by
 have hV:=ZtE ht (by omega)
 by_cases h1:(if t.valid≠0 then t.valid else t.th)≠0
 · have e : t.nf true = (.zero, if t.valid ≠ 0 then t.valid else t.th) := by
     unfold Tm.nf
     split
     · rfl
     · rename_i h2
       rw [if_neg h2] at h1
       rw [if_pos h1]
   rw [e]
   generalize (if t.valid≠0 then t.valid else t.th)=v at hV h1 ⊢
   have hne:=Y3 h1
   obtain ⟨k,nm,s,b,kz⟩:=t
   simp only [Tm.cells,Zr] at hV ⊢
   refine Jw tOk fe165.ok (Yl _ _ _) ?_
   repeat' first|refine Jc (hV _) ?_|refine Ji ?_|refine Jo ?_|fail
   all_goals rfl
 · have h1 := Classical.not_not.1 h1
   rw [h1] at hV
   have hv0:t.valid=0:=by
    by_cases h:t.valid=0
    · exact h
    · rw [if_pos h] at h1;exact absurd h1 h
   have ht0:t.th=0:=by rwa [if_neg (by rw [hv0];simp)] at h1
   have hsz:=Xe hv0
   have hA:=ZjW t (ZfQ hv0) ht0
   have hN:=Zv6 ht ht0 hA hsz
   have hsN:=Q0 true t ht0
   have hVN:=c46 (t:=(t.nrm true).1) (cls_ok.nrm t ht0 (by omega) ht) (by omega)
   have e:t.nf true=if (t.nrm true).2≠0 then (.zero,(t.nrm true).2) else if (t.nrm true).1.valid≠0 then (.zero,(t.nrm true).1.valid) else ((t.nrm true).1,0):=by
    unfold Tm.nf
    rw [if_neg (by rw [hv0];simp),if_neg (by rw [ht0];simp)]
   rw [e]
   clear e hsN hA hv0 ht0 h1
   generalize (t.nrm true).1.valid=v2 at hVN ⊢
   generalize (t.nrm true).2=v at hN ⊢
   generalize (t.nrm true).1=U at hN hVN ⊢
   obtain ⟨k,nm,s,b,kz⟩:=t
   by_cases h2:v≠0
   · rw [if_pos h2]
     have hne:=Y3 h2
     have heq:=Zp5 h2
     obtain ⟨k2,nm2,s2,b2,kz2⟩:=U
     simp only [Tm.cells,Zr] at hV hN ⊢
     refine Jw tOk fe165.ok (Yl _ _ _) ?_
     repeat' first|refine Jc (hV _) ?_|refine Jc (hN _) ?_|refine Ji ?_|refine Jt ?_|refine Jo ?_|fail
     all_goals rfl
   · rw [if_neg h2]
     have h2:=Classical.not_not.1 h2
     subst h2
     by_cases h3:v2≠0
     · rw [if_pos h3]
       have hne:=Y3 h3
       obtain ⟨k2,nm2,s2,b2,kz2⟩:=U
       simp only [Tm.cells,Zr] at hV hN hVN ⊢
       refine Jw tOk fe165.ok (Yl _ _ _) ?_
       repeat' first|(apply qCl;rfl;rfl;rfl;rfl;first|exact hV _|exact hN _|exact hVN _)|refine Ji ?_|refine Jt ?_|refine Jo ?_|fail
       all_goals rfl
     · rw [if_neg h3]
       have h3:=Classical.not_not.1 h3
       subst h3
       have hfr:=fun m H=>ZU m H U 0
       obtain ⟨k2,nm2,s2,b2,kz2⟩:=U
       simp only [Tm.cells] at hV hN hVN hfr ⊢
       refine Jw tOk fe165.ok (hfr _ _) ?_
       repeat' first|(apply qCl;rfl;rfl;rfl;rfl;first|exact hV _|exact hN _|exact hVN _)|refine Jt ?_|refine Jo ?_|fail
       all_goals exact hfr _ _
