/-
  Two sessions are exchanged: the ends of names (the program's text).
-/
import Derived.Test.YtfiflgphoepgeaaGreatDoorOt
set_option maxHeartbeats 0
set_option maxRecDepth 100000
namespace Go.Vm
theorem Zd5 (c:Bool):∀ {l:List Tm},(∀ x,x∈l→(x.nrm c).2=0)→nrmL c l=(l.map fun x=>(x.nrm c).1,0)
 | [],_=>rfl
 | t :: r, h => by
   have ih:=Zd5 c (l:=r) fun x hx=>h x (List.mem_cons_of_mem _ hx)
   rw [nrmL,if_neg (by rw [h t List.mem_cons_self];simp),ih]
   rfl
theorem Za0 (c:Bool):∀ {l:List Tm} {i:Nat} {x:Tm},l[i]? = some x→(∀ y,y∈l.take i→(y.nrm c).2=0)→(x.nrm c).2≠0→nrmL c l=([],(x.nrm c).2)
 | [],i,x,h,_,_=>by simp at h
 | t :: r, 0, x, h, _, he => by
   have e:t=x:=by simpa using h
   subst e
   rw [nrmL,if_pos he]
 | t :: r, i + 1, x, h, ha, he => by
   rw [List.take_succ_cons] at ha
   have ih:=Za0 c (l:=r) (i:=i) (by simpa using h) (fun y hy=>ha y (List.mem_cons_of_mem _ hy)) he
   rw [nrmL,if_neg (by rw [ha t List.mem_cons_self];simp),ih,if_pos he]
theorem Zdr:∀ {l:List Tm},thL l=0→∀ x,x∈l→x.th=0
 | [],_,x,hx=>by simp at hx
 | t :: r, h, x, hx => by
   rw [thL] at h
   split at h
   · rename_i h1;exact absurd h h1
   rename_i h1
   rcases List.mem_cons.1 hx with rfl|hx
   · exact Classical.not_not.1 h1
   · exact Zdr h x hx
theorem Zcf (c : Bool) {kz : List Tm} (hok : ∀ x, x ∈ kz → x.Ok) (hth : ∀ x, x ∈ kz → x.th = 0) (hA : ∀ x, x ∈ kz → x.okA = true) (hs : Zl kz ≤ 400) :
  (∀ z,z∈kz.map (fun x=>(x.nrm c).1)→z.okA=true)∧(∀ z,z∈kz.map (fun x=>(x.nrm c).1)→z.Ok)∧Zl (kz.map fun x=>(x.nrm c).1)≤201*Zl kz:=by
 refine ⟨fun z hz=>?_,fun z hz=>?_,?_⟩
 · obtain ⟨x, hx, rfl⟩ := List.mem_map.1 hz
   have:=ZR hx
   exact cls_okA.nrm x (hth x hx) (by omega) (hA x hx)
 · obtain ⟨x, hx, rfl⟩ := List.mem_map.1 hz
   have:=ZR hx
   exact cls_ok.nrm x (hth x hx) (by omega) (hok x hx)
 · clear hs hok hA
   induction kz with
   | nil=>simp [Zl]
   | cons a r ih =>
     have h1:=U3 c a (hth a List.mem_cons_self)
     have h2:=ih fun x hx=>hth x (List.mem_cons_of_mem _ hx)
     simp only [List.map_cons,Zl]
     omega
theorem Zfv {l:List Tm} {i:Nat} {x:Tm} (f:Tm→Tm) (h:l[i]? = some x):(l.take (i+1)).map f=(l.take i).map f++ [f x]:=by
 rw [List.take_add_one,h]
 simp
end Go.Vm
namespace Go.Vm.Seat
variable {t:Tm}
open Go.Proofs
theorem Wv {a b:Bs} (h:a≠b):Y2 E0 .eql 9 (.str a) (.str b)=some (.bool false):=by
 show some (PV.bool (a==b))=_
 simp [h]
theorem Zte (ht:t.Ok):t.th=0→t.okA=true→t.size≤400→∀ H,CallOk E0 Tryz.prog 106 [.agg t.cells] H (.tup [.agg (t.nrm false).1.cells,.int .i64 (t.nrm false).2]) H:=by
 induction ht with
 | @mk k nm s b kz hk hs hn hl hok ih=>
 intro hth hokA hsz
 rw [Tm.size] at hsz
 by_cases hk3:k=3
 rotate_left
 · rw [Tm.nrm, if_pos hk3]
   have hnq:=Ux k 3
   rw [decide_eq_false hk3] at hnq
   clear ih
   simp only [Tm.cells]
   refine Jw tOk fe106.ok (ZE 0 hNil (.mk k nm s b kz) 0) ?_
   repeat' first|refine Ji ?_|refine Jo ?_|fail
   all_goals exact ZE _ _ (.mk k nm s b kz) 0
 · subst hk3
   obtain ⟨a0,a1,a2,a3⟩:=ZiV hth
   have hkth:=Zdr a3
   have hkA:=VM hokA
   have hkl:=Yj kz
   obtain ⟨f1,f2,f3⟩:=Zcf false hok hkth hkA (by omega)
   obtain ⟨N,hN⟩:∃ N,N=(Tm.mk 3 nm s b kz).nrm false:=⟨_,rfl⟩
   have hNe:∀ (i:Nat) (x:Tm),kz[i]? = some x→(∀ y,y∈kz.take i→(y.nrm false).2=0)→(x.nrm false).2≠0→N=(.zero,(x.nrm false).2):=fun i x hx hy he=>by
    rw [hN,Tm.nrm,if_neg (by simp),Za0 false hx hy he,if_pos he]
   have hNo:(∀ x,x∈kz→(x.nrm false).2=0)→N=YL false nm (kz.map fun x=>(x.nrm false).1):=fun h=>by
    rw [hN,Tm.nrm,if_neg (by simp),Zd5 false h,if_neg (by simp)]
   rw [← hN]
   clear hN
   simp only [Tm.cells]
   refine Jw tOk fe106.ok (ZE 0 hNil N.1 N.2) ?_
   repeat' first|refine Jt ?_|refine Jo ?_|fail
   refine Wp.while (fun m tm H => ∃ (i : Nat) (base : TM) (out : PV) (lv : List Nat) (nt : Nat), i + m = kz.length ∧ (∀ y, y ∈ kz.take i → (y.nrm false).2 = 0) ∧ ApV true 4 (Za ((kz.take i).map fun x => (x.nrm false).1)) out lv nt ∧
     tm=ovr base [(4,out),(1,.ptr 0 4 0 0),(2,.ptr 1 4 0 0),(5,.int .i64 (i:Int))]∧H=⟨[.cells 4 [[.int .i64 3,.str nm,.int .i64 s,slV b 4 (Za kz)]],.cells 4 [zcT]],0,lv,nt⟩)
    (fun m tm H hI=>Wp.drop ?_) kz.length _ _ ⟨0,_,_,_,_,by omega,fun y hy=>by simp at hy,.nil _ _ rfl,Zf ⟨rfl,rfl,rfl,rfl,trivial⟩,rfl⟩
   obtain ⟨i,base,out,lv,nt,hi,hz,hA,rfl,rfl⟩:=hI
   by_cases hlt:i<kz.length
   · obtain ⟨x, hx⟩ : ∃ x, kz[i]? = some x := ⟨kz[i], by simp⟩
     have hm:x∈kz:=List.mem_of_getElem? hx
     have hle:=ZR hm
     have hc:=ih x hm (hkth x hm) (hkA x hm) (by omega)
     have hNe:=hNe i x hx hz
     have hsn:=Zfv (fun x=>(x.nrm false).1) hx
     have hzs:(x.nrm false).2=0→∀ y,y∈kz.take (i+1)→(y.nrm false).2=0:=fun h0 y hy=>by
      rw [List.take_add_one,hx] at hy
      rcases List.mem_append.1 hy with hy|hy
      · exact hz y hy
      · have : y = x := by simpa using hy
        rw [this];exact h0
     obtain ⟨o1,lv1,nt1,hap1,hA1⟩:=QS hA ((x.nrm false).1) (by simp;omega)
     rw [← hsn] at hA1
     have hlx:=Zt (i:Int) ((Za kz).length:Int)
     rw [decide_eq_true (by rw [Zb];omega)] at hlx
     have hBU:Yq 2 (.cells 4 [[.int .i64 3,.str nm,.int .i64 s,slV b 4 (Za kz)]])=true:=by simp [Yq,ZL,under,Zg]
     clear ih hNo f1 f2 f3
     generalize (x.nrm false).2=e at hc hNe hzs
     generalize (x.nrm false).1=U at hc hap1
     obtain ⟨k',nm',s',b',kz'⟩:=x
     obtain ⟨k2,nm2,s2,b2,kz2⟩:=U
     have hj:=Zk hx
     simp only [Tm.cells] at hc hap1
     by_cases he:e≠0
     · rw [hNe he]
       have hne:=YQ he
       simp only [Zn]
       repeat' first|refine Jc (hc _) ?_|refine Ji ?_|refine Jl ?_|refine Jx ?_|refine Jo ?_|fail
       all_goals rfl
     · have he := Classical.not_not.1 he
       subst he
       repeat' first|refine Jc (hc _) ?_|refine Js ?_|refine JA ?_|refine Ji ?_|refine Jl ?_|refine Jx ?_|refine Jt ?_|refine Jo ?_|fail
       refine DropQ.go [(4,o1),(1,.ptr 0 4 0 0),(2,.ptr 1 4 0 0),(5,.int .i64 ((i+1:Nat):Int))] ?_ ?_ rfl ?_ ?_
       · exact ⟨rfl,rfl,rfl,Zd (Zc (n:=i+1) (by omega)),trivial⟩
       · simp [hA1.under,under]
       · simpa [Yq,zcT,ZL,under] using hBU
       · exact LoopI.go (m-1) (by omega) ⟨i+1,_,o1,lv1,nt1,by omega,hzs rfl,hA1,rfl,rfl⟩
   · have e : i = kz.length := by omega
     subst e
     rw [List.take_length] at hA hz
     clear ih hNe hokA
     have hNo:=hNo hz
     have hlx:=Zt (kz.length:Int) ((Za kz).length:Int)
     rw [decide_eq_false (by rw [Zb];omega)] at hlx
     have hkn:(kz.map fun x=>(x.nrm false).1).length=kz.length:=by rw [List.length_map]
     generalize (kz.map fun x=>(x.nrm false).1)=ks at hA hNo f1 f2 f3 hkn
     obtain ⟨s1,s2,s3⟩:=Qd a0 a1 a2
     have hSm:SmL ks:=fun z hz=>⟨f2 z hz,by have:=ZR hz;omega⟩
     have hks:ks.length≤8:=by omega
     have hApp:∀ H,CallOk E0 Tryz.prog 104 [.str nm,out] H (.agg (Tm.mk 3 nm 0 false ks).cells) H:=fun H=>Zr (Zlt nm (l:=ks) (by omega) true H) (by simp only [ZM,hA.frzG];rfl)
     have hKd:=ZpX nm
     have hk3:=YB (Yo nm).kind 3
     simp only [Tm.cells] at hApp
     clear hz hi hlt
     by_cases c1:(Yo nm).kind=3
     · rw [decide_eq_true c1] at hk3
       obtain ⟨fd,hD⟩:=ZrQ (nm:=nm) (ks:=ks) c1 (by omega) (by omega) f1 hSm false
       have e1:YL false nm ks=(Xl (.mk 3 nm 0 false ks),0):=by unfold YL;rw [if_pos c1]
       rw [hNo,e1]
       generalize (Yo nm).kind=kd at hKd hk3
       have hfr:=fun m H=>ZE m H (Xl (.mk 3 nm 0 false ks)) 0
       generalize Xl (.mk 3 nm 0 false ks)=U at hD hfr
       obtain ⟨k2,nm2,s2',b2,kz2⟩:=U
       simp only [Tm.cells] at hD hfr ⊢
       repeat' first|(apply qCl;rfl;rfl;rfl;rfl;first|exact hApp _|exact hKd _|exact hD _)|refine Ji ?_|refine Jl ?_|refine Jt ?_|refine Jb ?_ ?_|refine Jo ?_|intro hb
       all_goals exact hfr _ _
     · rw [decide_eq_false c1] at hk3
       by_cases c2:nm=Zai
       · have hS : ∀ H, CallOk E0 Tryz.prog 151 [out] H (.tup [.agg (sumG false ks).1.cells, .int .i64 (sumG false ks).2]) H := fun H => Zr (ZsL hSm (by omega) true H) (by simp only [ZM, hA.frzG])
         have e1:YL false nm ks=sumG false ks:=by unfold YL;rw [if_neg c1,if_pos c2]
         rw [hNo,e1]
         generalize (Yo nm).kind=kd at hKd hk3
         have hfr:=fun m H=>ZE m H (sumG false ks).1 (sumG false ks).2
         generalize (sumG false ks).2=e at hS hfr
         generalize (sumG false ks).1=U at hS hfr
         obtain ⟨k2,nm2,s2',b2,kz2⟩:=U
         subst c2
         simp only [Tm.cells,Zai] at hS hfr hApp hKd ⊢
         repeat' first|(apply qCl;rfl;rfl;rfl;rfl;first|exact hApp _|exact hKd _|exact hS _)|refine Ji ?_|refine Jl ?_|refine Jt ?_|refine Jo ?_|fail
         all_goals exact hfr _ _
       · by_cases c3 : Zab 3 nm = true
         · have hP := ZtL (t := .mk 3 nm 0 false ks) (cls_ok.app s1 (by omega) (by rw [hkn]; exact s3) f2) (by rw [Tm.size]; omega)
           have e1:YL false nm ks=Q0 false (.mk 3 nm 0 false ks):=by unfold YL;rw [if_neg c1,if_neg c2,if_pos c3]
           rw [hNo,e1]
           generalize (Yo nm).kind=kd at hKd hk3
           have hfr:=fun m H=>ZE m H (Q0 false (.mk 3 nm 0 false ks)).1 (Q0 false (.mk 3 nm 0 false ks)).2
           generalize (Q0 false (.mk 3 nm 0 false ks)).2=e at hP hfr
           generalize (Q0 false (.mk 3 nm 0 false ks)).1=U at hP hfr
           obtain ⟨k2,nm2,s2',b2,kz2⟩:=U
           rcases (X7 c3).2 with rfl|rfl|rfl
           all_goals
            simp only [Tm.cells,Vi,WJ,VF] at hP hfr hApp hKd ⊢
            repeat' first|refine Jk ?_|(apply qCl;rfl;rfl;rfl;rfl;first|exact hApp _|exact hKd _|exact hP _)|refine Ji ?_|refine Jl ?_|refine Jt ?_|refine Jo ?_|fail
            all_goals exact hfr _ _
         · by_cases c4 : nm = YE
           · subst c4
             have hn2:ks.length=2:=by
              rw [hkn]
              have b1:(Yo YE).least=2:=rfl
              have b2:(Yo YE).most=2:=rfl
              omega
             obtain ⟨a,e,rfl⟩:=Zpk hn2
             have hP:=ZrW (f1 a (by simp)) (hSm a (by simp)) (hSm e (by simp))
             have e1:YL false YE [a,e]=Wq false a e:=by unfold YL;rw [if_neg c1,if_neg c2,if_neg c3,if_pos rfl];rfl
             rw [hNo,e1]
             generalize (Yo YE).kind=kd at hKd hk3
             have hfr:=fun m H=>ZE m H (Wq false a e).1 (Wq false a e).2
             generalize (Wq false a e).2=e' at hP hfr
             generalize (Wq false a e).1=U at hP hfr
             obtain ⟨kt,rfl⟩:=XO hA (by simp [Za])
             obtain ⟨k2,nm2,s2',b2,kz2⟩:=U
             obtain ⟨k3,nm3,s3',b3,kz3⟩:=a
             obtain ⟨k4,nm4,s4',b4,kz4⟩:=e
             simp only [Tm.cells,YE,Za] at hP hfr hApp hKd ⊢
             repeat' first|refine Jc (hApp _) ?_|refine Jc (hKd _) ?_|refine Ji ?_|refine Jl ?_|refine Jt ?_|refine Jo ?_|refine Jd (hP _) ?_|refine Jh ?_|(apply Wp.drawS tOk follows;kernel_rfl;rfl)|fail
             all_goals exact hfr _ _
           · have e1 : YL false nm ks = (.mk 3 nm 0 false ks, 0) := by unfold YL; rw [if_neg c1, if_neg c2, if_neg c3, if_neg c4]
             rw [hNo,e1]
             generalize (Yo nm).kind=kd at hKd hk3
             have d1:=Wv c2
             have d2:=Wv c4
             have c3:¬ nm=Vi∧¬ nm=WJ∧¬ nm=VF:=by simpa [Zab] using c3
             have d3:=Wv c3.1
             have d4:=Wv c3.2.1
             have d5:=Wv c3.2.2
             have hfr:=fun m H=>ZE m H (.mk 3 nm 0 false ks) 0
             simp only [Tm.cells,Zai,Vi,WJ,VF,YE] at hfr d1 d2 d3 d4 d5 ⊢
             repeat' first|refine Jc (hApp _) ?_|refine Jc (hKd _) ?_|refine Ji ?_|refine Jl ?_|refine Jt ?_|refine Jo ?_|fail
             all_goals exact hfr _ _
theorem ZeG (h:t.valid=0):t.nodes=0:=by
 unfold Tm.valid at h
 split at h
 · rename_i h1;exact absurd h h1
 · rename_i h1;exact Classical.not_not.1 h1
theorem c66 (ht:t.Ok) (hs:t.size≤100000):∀ H,CallOk E0 Tryz.prog 66 [.agg t.cells] H (.tup [.agg (t.nf false).1.cells,.int .i64 (t.nf false).2]) H:=by
 have hV:=Zrl ht (by omega)
 by_cases h1:(if t.valid≠0 then t.valid else t.th)≠0
 · have e : t.nf false = (.zero, if t.valid ≠ 0 then t.valid else t.th) := by
     unfold Tm.nf
     split
     · rfl
     · rename_i h2
       rw [if_neg h2] at h1
       rw [if_pos h1]
   rw [e]
   generalize (if t.valid≠0 then t.valid else t.th)=v at hV h1 ⊢
   have hne:=YQ h1
   obtain ⟨k,nm,s,b,kz⟩:=t
   simp only [Tm.cells,Zn] at hV ⊢
   refine Jw tOk fe66.ok (Yc _ _ _) ?_
   repeat' first|refine Jc (hV _) ?_|refine Ji ?_|refine Jo ?_|fail
   all_goals rfl
 · have h1 := Classical.not_not.1 h1
   rw [h1] at hV
   have hv0:t.valid=0:=by
    by_cases h:t.valid=0
    · exact h
    · rw [if_pos h] at h1;exact absurd h1 h
   have ht0:t.th=0:=by rwa [if_neg (by rw [hv0];simp)] at h1
   have hsz:=Yu hv0
   have hA:=ZiY t (ZeG hv0) ht0
   have hN:=Zte ht ht0 hA hsz
   have hsN:=U3 false t ht0
   have hVN:=ZkQ (t:=(t.nrm false).1) (cls_ok.nrm t ht0 (by omega) ht) (by omega)
   have e:t.nf false=if (t.nrm false).2≠0 then (.zero,(t.nrm false).2) else if (t.nrm false).1.valid≠0 then (.zero,(t.nrm false).1.valid) else ((t.nrm false).1,0):=by
    unfold Tm.nf
    rw [if_neg (by rw [hv0];simp),if_neg (by rw [ht0];simp)]
   rw [e]
   clear e hsN hA hv0 ht0 h1
   generalize (t.nrm false).1.valid=v2 at hVN ⊢
   generalize (t.nrm false).2=v at hN ⊢
   generalize (t.nrm false).1=U at hN hVN ⊢
   obtain ⟨k,nm,s,b,kz⟩:=t
   by_cases h2:v≠0
   · rw [if_pos h2]
     have hne:=YQ h2
     obtain ⟨k2,nm2,s2,b2,kz2⟩:=U
     simp only [Tm.cells,Zn] at hV hN ⊢
     refine Jw tOk fe66.ok (Yc _ _ _) ?_
     repeat' first|refine Jc (hV _) ?_|refine Jc (hN _) ?_|refine Ji ?_|refine Jt ?_|refine Jo ?_|fail
     all_goals rfl
   · rw [if_neg h2]
     have h2:=Classical.not_not.1 h2
     subst h2
     by_cases h3:v2≠0
     · rw [if_pos h3]
       have hne:=YQ h3
       obtain ⟨k2,nm2,s2,b2,kz2⟩:=U
       simp only [Tm.cells,Zn] at hV hN hVN ⊢
       refine Jw tOk fe66.ok (Yc _ _ _) ?_
       repeat' first|(apply qCl;rfl;rfl;rfl;rfl;first|exact hV _|exact hN _|exact hVN _)|refine Ji ?_|refine Jt ?_|refine Jo ?_|fail
       all_goals rfl
     · rw [if_neg h3]
       have h3:=Classical.not_not.1 h3
       subst h3
       have hfr:=fun m H=>ZE m H U 0
       obtain ⟨k2,nm2,s2,b2,kz2⟩:=U
       simp only [Tm.cells] at hV hN hVN hfr ⊢
       refine Jw tOk fe66.ok (hfr _ _) ?_
       repeat' first|(apply qCl;rfl;rfl;rfl;rfl;first|exact hV _|exact hN _|exact hVN _)|refine Jt ?_|refine Jo ?_|fail
       all_goals exact hfr _ _
theorem Ziu {v:Int} (h:v≠0):Y2 E0 .eql 35 (.int .i64 v) (.int .i64 0)=some (.bool false):=by
 show some (PV.bool (v==0))=_
 simp [h]
theorem Wi {L:List (List PV)} {out:PV} {lv:List Nat} {nt:Nat} (hA:ApV true 4 L out lv nt):out= .nils∨∃ k,out= .sl (.tok k) 4 L:=by
 cases hA with
 |nil _ _ _=>exact .inl rfl
 |full _ _ _ h _=>cases h
 |tok _ k _ _ _ _ _ _=>exact .inr ⟨k,rfl⟩
theorem c18 (f t n:Int):∀ H,CallOk E0 Tryz.prog 18 [.agg [.int .i64 f,.int .i64 t],.int .i64 n] H (.int .i64 (Yb f t n)) H:=by
 refine Jw tOk fe18.ok rfl ?_
 repeat' first|refine Jt ?_|refine Jb ?_ ?_|refine Jo ?_|intro hb
 all_goals simp_all [Yb]
end Go.Vm.Seat
namespace Go.Vm
theorem Uk:∀ {s:Bs},(∀ c,c∈s→c≠35)→Ys s= -1
 | [],_=>rfl
 | c :: r, h => by
   have ih:=Uk (s:=r) fun x hx=>h x (List.mem_cons_of_mem _ hx)
   rw [Ys,ih,if_neg (by decide),if_neg (h c List.mem_cons_self)]
theorem Zew:∀ {s:Bs} {i:Nat},s[i]? = some 35→(∀ (j:Nat) (c:UInt8),i<j→s[j]? = some c→c≠35)→Ys s=i
 | [],i,h,_=>by simp at h
 | c :: r, 0, h, hl => by
   have e:c=35:=by simpa using h
   have hn:=Uk (s:=r) fun x hx=>by
    obtain ⟨j,hj⟩:=List.mem_iff_getElem?.1 hx
    exact hl (j+1) x (by omega) (by simpa using hj)
   rw [Ys,hn,if_neg (by decide),if_pos e]
   rfl
 | c :: r, i + 1, h, hl => by
   have ih:=Zew (s:=r) (i:=i) (by simpa using h) fun j c hj hc=>hl (j+1) c (by omega) (by simpa using hc)
   rw [Ys,ih,if_pos (by omega)]
   push_cast
   rfl
theorem ZfL:∀ s:Bs,Ys s<s.length
 | []=>by decide
 | c :: r => by
   have ih:=ZfL r
   rw [Ys,List.length_cons]
   split
   · push_cast;omega
   · split<;>(push_cast;omega)
end Go.Vm
namespace Go.Vm.Seat
variable {s:Bs} {k:Nat} {n:Int}
open Go.Proofs Go.RowKit
theorem ZiI (a b:Bs):Y2 E0 .eql 9 (.str a) (.str b)=some (.bool (decide (a=b))):=by
 by_cases h:a=b
 · subst h
   rw [decide_eq_true rfl]
   show some (PV.bool (a==a))=_
   simp
 · rw [decide_eq_false h]
   exact Wv h
theorem Zk5 (h:k≤s.length):YJ E0 9 (.str s) none (some (.int .i64 (k:Int))) none=some (.str (s.take k)):=by
 have e9:E0.T 9=some ⟨.string,1,16,.str []⟩:=by kernel_rfl
 have en:nat? (.int .i64 (k:Int))=some k:=by simp [nat?]
 simp only [YJ,e9,XV,en]
 rw [if_pos h]
 rfl
theorem Znm (h:k≤s.length):YJ E0 9 (.str s) (some (.int .i64 (k:Int))) none none=some (.str (s.drop k)):=by
 have e9:E0.T 9=some ⟨.string,1,16,.str []⟩:=by kernel_rfl
 have en:nat? (.int .i64 (k:Int))=some k:=by simp [nat?]
 simp only [YJ,e9,XV,en]
 rw [if_pos h,List.take_length]
theorem Zr5 (u : Nat) (hu : u < 100) (w : World) :
  Calls Tryz.prog 137 #[.int .i64 u,.int .i64 10] w fun e w'=>e= .returned (.string ⟨(Lib.decDigits u).toArray⟩)∧Below w.heap.size w w':=by
 have mixed:=follows
 go_enter Tryz.func137,Tryz.ntmps137
 go_wp2_with (go_at_call 169;refine (Tryz.internal_strconv_small u hu _).mono ?_;rintro e w' ⟨rfl,rfl⟩)
 go_ret
 exact ⟨rfl,Below.refl _ _⟩
theorem Zqr (h0:0≤n) (h1:n≤99):∀ H,CallOk E0 Tryz.prog 137 [.int .i64 n,.int .i64 10] H (.str (Lib.itoa n)) H:=by
 obtain ⟨u,rfl⟩:∃ u:Nat,n=(u:Int):=⟨n.toNat,by omega⟩
 refine Zdf fe137.ok rfl fun g w vals hst hg hv=>?_
 obtain ⟨v0,v1,rfl,e0,e1⟩:=WZ hv
 obtain rfl:=e0.int_inv
 obtain rfl:=e1.int_inv
 exact ⟨.string ⟨(Lib.decDigits u).toArray⟩,.str _ _ (by rw [Lib.itoa_nonneg]),Zr5 u (by omega) w⟩
theorem Zfj (h0:0≤n) (h1:n≤99):∀ H,CallOk E0 Tryz.prog 48 [.int .i64 n] H (.str (Lib.itoa n)) H:=by
 have hc:∀ H,CallOk E0 Tryz.prog 84 [.int .i64 n] H (.str (Lib.itoa n)) H:=by
  have hc:=Zqr h0 h1
  refine Jw tOk fe84.ok rfl ?_
  repeat' first|refine Jc (hc _) ?_|refine Jo ?_|intro hb
  all_goals rfl
 refine Jw tOk fe48.ok rfl ?_
 repeat' first|refine Jc (hc _) ?_|refine Jo ?_|intro hb
 all_goals rfl
theorem ZrT (s:Bs):∀ H,CallOk E0 Tryz.prog 110 [.str s,.str [101,35]] H (.bool (Zb1 s)) H:=by
 by_cases h:2≤s.length
 · have hg := UT ((s.length : Nat) : Int) 2
   rw [decide_eq_true (by omega)] at hg
   have hs:=Zk5 (k:=2) h
   have he:=ZiI (s.take 2) [101,35]
   have e:Zb1 s=decide (s.take 2= [101,35]):=by
    match s,h with
    | a::b::r,_=>simp [Zb1]
   rw [e]
   generalize decide (s.take 2= [101,35])=B at he ⊢
   refine Jw tOk fe110.ok rfl ?_
   cases B
   all_goals
    repeat' first|refine Jk ?_|refine JS ?_|refine Ji ?_|refine Jl ?_|refine Jt ?_|refine Jb ?_ ?_|refine Jo ?_|intro hb
    all_goals rfl
 · have hg := UT ((s.length : Nat) : Int) 2
   rw [decide_eq_false (by omega)] at hg
   have e:Zb1 s=false:=by
    match s,h with
    | [],_=>rfl
    | [a],_=>rfl
    | a::b::r,h=>exact absurd (by simp) h
   rw [e]
   refine Jw tOk fe110.ok rfl ?_
   repeat' first|refine Jk ?_|refine JS ?_|refine Ji ?_|refine Jl ?_|refine Jt ?_|refine Jb ?_ ?_|refine Jo ?_|intro hb
   all_goals rfl
theorem Zqe (s:Bs):∀ H,CallOk E0 Tryz.prog 69 [.str s,.str [101,35]] H (.bool (Zb1 s)) H:=by
 have hc:=ZrT s
 refine Jw tOk fe69.ok rfl ?_
 repeat' first|refine Jc (hc _) ?_|refine Jt ?_|refine Jb ?_ ?_|refine Jo ?_|intro hb
 all_goals rw [hb]
theorem ZpZ (hs:s.length≤1000000):∀ H,CallOk E0 Tryz.prog 111 [.str s,.int .u8 35] H (.int .i64 (Ys s)) H:=by
 have hsub:=ZjP (a:=(s.length:Int)) (b:=1) (by omega) (by omega)
 refine Jw tOk fe111.ok rfl ?_
 repeat' first|refine JX ?_|refine Ji ?_|refine Jl ?_|refine Jt ?_|refine Jb ?_ ?_|refine Jo ?_|intro hb
 refine Wp.while (fun m tm H => ∃ (base : TM), m ≤ s.length ∧ (∀ (j : Nat) (c : UInt8), m ≤ j → s[j]? = some c → c ≠ 35) ∧
   tm=ovr base [(0,.str s),(1,.int .u8 35),(5,.int .i64 ((m:Int)-1))]∧H=hNil)
  (fun m tm H hI=>?_) s.length _ _ ⟨_,by omega,fun j c hj hc=>absurd (Zx hc) (by omega),Zf ⟨rfl,rfl,rfl,trivial⟩,rfl⟩
 obtain ⟨base,hm,hl,rfl,rfl⟩:=hI
 clear hsub
 match m,hm,hl with
 | 0, hm, hl =>
   have e:Ys s= -1:=Uk fun c hc=>by
    obtain ⟨j,hj⟩:=List.mem_iff_getElem?.1 hc
    exact hl j c (by omega) hj
   rw [e]
   repeat' first|refine JX ?_|refine Ji ?_|refine Jl ?_|refine Jt ?_|refine Jb ?_ ?_|refine Jo ?_|intro hb
   all_goals rfl
 | i + 1, hm, hl =>
   have e:(((i+1:Nat):Int)-1)=(i:Int):=by omega
   rw [e]
   obtain ⟨c,hc⟩:∃ c,s[i]? = some c:=⟨s[i],by simp⟩
   have hg:=UT (i:Int) 0
   rw [decide_eq_true (by omega)] at hg
   have hx:=Zob hc
   have hsb:=ZjP (a:=(i:Int)) (b:=1) (by omega) (by omega)
   have he:Y2 E0 .eql 5 (.int .u8 (c.toNat:Int)) (.int .u8 35)=some (.bool (decide (c=35))):=by
    show some (PV.bool (decide ((c.toNat:Int)=35)))=_
    congr 2
    have:(c.toNat:Int)=35↔c=35:=by
     rw [← UInt8.toNat_inj]
     show _↔c.toNat=35
     omega
    simp only [this]
   by_cases h:c=35
   · rw [decide_eq_true h] at he
     rw [Zew (by rw [hc,h]) fun j c hj hc=>hl j c (by omega) hc]
     repeat' first|refine JX ?_|refine Ji ?_|refine Jl ?_|refine Jt ?_|refine Jb ?_ ?_|refine Jo ?_|intro hb
     all_goals rfl
   · rw [decide_eq_false h] at he
     repeat' first|refine JX ?_|refine Ji ?_|refine Jl ?_|refine Jt ?_|refine Jb ?_ ?_|refine Jo ?_|intro hb
     exact LoopI.go i (by omega) ⟨_,by omega,fun j c' hj hc'=>by
      by_cases e:j=i
      · subst e
        rw [hc] at hc'
        cases hc'
        exact h
      · exact hl j c' (by omega) hc',Zf ⟨rfl,rfl,rfl,trivial⟩,rfl⟩
theorem Zop (hs:s.length≤1000000):∀ H,CallOk E0 Tryz.prog 70 [.str s,.int .u8 35] H (.int .i64 (Ys s)) H:=by
 have hc:=ZpZ hs
 refine Jw tOk fe70.ok rfl ?_
 repeat' first|refine Jc (hc _) ?_|refine Jo ?_|intro hb
 all_goals rfl
