/-
  Two sessions are exchanged: numbers (both texts).
-/
import Derived.Test.YtnnfkocifnflgaaGreatDoorOt
set_option maxHeartbeats 0
set_option maxRecDepth 100000
namespace Go.Vm
theorem ZcP (c:Bool):∀ {l:List Tm},(∀ x,x∈l→(x.nrm c).2=0)→nrmL c l=(l.map fun x=>(x.nrm c).1,0)
 | [],_=>rfl
 | t :: r, h => by
   have ih:=ZcP c (l:=r) fun x hx=>h x (List.mem_cons_of_mem _ hx)
   rw [nrmL,if_neg (by rw [h t List.mem_cons_self];simp),ih]
   rfl
theorem ZaJ (c:Bool):∀ {l:List Tm} {i:Nat} {x:Tm},l[i]? = some x→(∀ y,y∈l.take i→(y.nrm c).2=0)→(x.nrm c).2≠0→nrmL c l=([],(x.nrm c).2)
 | [],i,x,h,_,_=>by simp at h
 | t :: r, 0, x, h, _, he => by
   have e:t=x:=by simpa using h
   subst e
   rw [nrmL,if_pos he]
 | t :: r, i + 1, x, h, ha, he => by
   rw [List.take_succ_cons] at ha
   have ih:=ZaJ c (l:=r) (i:=i) (by simpa using h) (fun y hy=>ha y (List.mem_cons_of_mem _ hy)) he
   rw [nrmL,if_neg (by rw [ha t List.mem_cons_self];simp),ih,if_pos he]
theorem ZcU:∀ {l:List Tm},thL l=0→∀ x,x∈l→x.th=0
 | [],_,x,hx=>by simp at hx
 | t :: r, h, x, hx => by
   rw [thL] at h
   split at h
   · rename_i h1;exact absurd h h1
   rename_i h1
   rcases List.mem_cons.1 hx with rfl|hx
   · exact Classical.not_not.1 h1
   · exact ZcU h x hx
theorem Zbs (c : Bool) {kz : List Tm} (hok : ∀ x, x ∈ kz → x.Ok) (hth : ∀ x, x ∈ kz → x.th = 0) (hA : ∀ x, x ∈ kz → x.okA = true) (hs : Zl kz ≤ 400) :
  (∀ z,z∈kz.map (fun x=>(x.nrm c).1)→z.okA=true)∧(∀ z,z∈kz.map (fun x=>(x.nrm c).1)→z.Ok)∧Zl (kz.map fun x=>(x.nrm c).1)≤201*Zl kz:=by
 refine ⟨fun z hz=>?_,fun z hz=>?_,?_⟩
 · obtain ⟨x, hx, rfl⟩ := List.mem_map.1 hz
   have:=ZJ hx
   exact cls_okA.nrm x (hth x hx) (by omega) (hA x hx)
 · obtain ⟨x, hx, rfl⟩ := List.mem_map.1 hz
   have:=ZJ hx
   exact cls_ok.nrm x (hth x hx) (by omega) (hok x hx)
 · clear hs hok hA
   induction kz with
   | nil=>simp [Zl]
   | cons a r ih =>
     have h1:=UM c a (hth a List.mem_cons_self)
     have h2:=ih fun x hx=>hth x (List.mem_cons_of_mem _ hx)
     simp only [List.map_cons,Zl]
     omega
theorem Zar {l:List Tm} {i:Nat} {x:Tm} (f:Tm→Tm) (h:l[i]? = some x):(l.take (i+1)).map f=(l.take i).map f++ [f x]:=by
 rw [List.take_add_one,h]
 simp
end Go.Vm
namespace Go.Vm.Seat
variable {t:Tm}
open Go.Proofs
theorem Wr {a b:Bs} (h:a≠b):Xs E0 .eql 9 (.str a) (.str b)=some (.bool false):=by
 show some (PV.bool (a==b))=_
 simp [h]
theorem c43 (ht:t.Ok):t.th=0→t.okA=true→t.size≤400→∀ H,CallOk E0 Tryz.prog 43 [.agg t.cells] H (.tup [.agg (t.nrm false).1.cells,.int .i64 (t.nrm false).2]) H:=by
 induction ht with
 | @mk k nm s b kz hk hs hn hl hok ih=>
 intro hth hokA hsz
 rw [Tm.size] at hsz
 by_cases hk3:k=3
 rotate_left
 · rw [Tm.nrm, if_pos hk3]
   have hnq:=UA k 3
   rw [decide_eq_false hk3] at hnq
   clear ih
   simp only [Tm.cells]
   refine Jw tOk fe43.ok (Zx 0 hNil (.mk k nm s b kz) 0) ?_
   repeat' first|refine Jk ?_|refine Js ?_|refine JA ?_|refine Ji ?_|refine JJ ?_|refine Jl ?_|refine Jx ?_|refine Jt ?_|refine Jb ?_ ?_|refine Jo ?_|(apply dK;rfl;rfl;rfl)|refine JB ?_|(apply dAq;rfl;rfl;rfl;rfl;rfl;rfl;(first|assumption|solve_by_elim))|(apply dAp;rfl;rfl;rfl;rfl;rfl;(first|assumption|solve_by_elim);rfl)|refine JD ?_|refine JK ?_|(apply dLn;rfl;rfl;rfl;rfl;rfl)|refine JI ?_|(apply dT (ty:=4);rfl;rfl;rfl;rfl)|(apply dF (ty:=4);rfl;rfl;rfl;rfl)|(apply dB (ty:=4);rfl;rfl;rfl;rfl)|refine Jh ?_|(apply Wp.drawS tOk follows;kernel_rfl;rfl)|intro hb
   all_goals exact Zx _ _ (.mk k nm s b kz) 0
 · subst hk3
   obtain ⟨a0,a1,a2,a3⟩:=ZfP hth
   have hkth:=ZcU a3
   have hkA:=VC hokA
   have hkl:=Ya kz
   obtain ⟨f1,f2,f3⟩:=Zbs false hok hkth hkA (by omega)
   obtain ⟨N,hN⟩:∃ N,N=(Tm.mk 3 nm s b kz).nrm false:=⟨_,rfl⟩
   have hNe:∀ (i:Nat) (x:Tm),kz[i]? = some x→(∀ y,y∈kz.take i→(y.nrm false).2=0)→(x.nrm false).2≠0→N=(.zero,(x.nrm false).2):=fun i x hx hy he=>by
    rw [hN,Tm.nrm,if_neg (by simp),ZaJ false hx hy he,if_pos he]
   have hNo:(∀ x,x∈kz→(x.nrm false).2=0)→N=YC false nm (kz.map fun x=>(x.nrm false).1):=fun h=>by
    rw [hN,Tm.nrm,if_neg (by simp),ZcP false h,if_neg (by simp)]
   rw [← hN]
   clear hN
   simp only [Tm.cells]
   refine Jw tOk fe43.ok (Zx 0 hNil N.1 N.2) ?_
   repeat' first|refine Jk ?_|refine Js ?_|refine JA ?_|refine Ji ?_|refine JJ ?_|refine Jl ?_|refine Jx ?_|refine Jt ?_|refine Jb ?_ ?_|refine Jo ?_|(apply dK;rfl;rfl;rfl)|refine JB ?_|(apply dAq;rfl;rfl;rfl;rfl;rfl;rfl;(first|assumption|solve_by_elim))|(apply dAp;rfl;rfl;rfl;rfl;rfl;(first|assumption|solve_by_elim);rfl)|refine JD ?_|refine JK ?_|(apply dLn;rfl;rfl;rfl;rfl;rfl)|refine JI ?_|(apply dT (ty:=4);rfl;rfl;rfl;rfl)|(apply dF (ty:=4);rfl;rfl;rfl;rfl)|(apply dB (ty:=4);rfl;rfl;rfl;rfl)|refine Jh ?_|(apply Wp.drawS tOk follows;kernel_rfl;rfl)|intro hb
   refine Wp.while (fun m tm H => ∃ (i : Nat) (base : TM) (out : PV) (lv : List Nat) (nt : Nat), i + m = kz.length ∧ (∀ y, y ∈ kz.take i → (y.nrm false).2 = 0) ∧ ApV true 4 (Za ((kz.take i).map fun x => (x.nrm false).1)) out lv nt ∧
     tm=ovr base [(4,out),(1,.ptr 0 4 0 0),(2,.ptr 1 4 0 0),(5,.int .i64 (i:Int))]∧H=⟨[.cells 4 [[.int .i64 3,.str nm,.int .i64 s,slV b 4 (Za kz)]],.cells 4 [zcT]],0,lv,nt⟩)
    (fun m tm H hI=>Wp.drop ?_) kz.length _ _ ⟨0,_,_,_,_,by omega,fun y hy=>by simp at hy,.nil _ _ rfl,Zf ⟨rfl,rfl,rfl,rfl,trivial⟩,rfl⟩
   obtain ⟨i,base,out,lv,nt,hi,hz,hA,rfl,rfl⟩:=hI
   by_cases hlt:i<kz.length
   · obtain ⟨x, hx⟩ : ∃ x, kz[i]? = some x := ⟨kz[i], by simp⟩
     have hm:x∈kz:=List.mem_of_getElem? hx
     have hle:=ZJ hm
     have hc:=ih x hm (hkth x hm) (hkA x hm) (by omega)
     have hNe:=hNe i x hx hz
     have hsn:=Zar (fun x=>(x.nrm false).1) hx
     have hzs:(x.nrm false).2=0→∀ y,y∈kz.take (i+1)→(y.nrm false).2=0:=fun h0 y hy=>by
      rw [List.take_add_one,hx] at hy
      rcases List.mem_append.1 hy with hy|hy
      · exact hz y hy
      · have : y = x := by simpa using hy
        rw [this];exact h0
     obtain ⟨o1,lv1,nt1,hap1,hA1⟩:=Ux hA ((x.nrm false).1) (by simp;omega)
     rw [← hsn] at hA1
     have hlx:=Zt (i:Int) ((Za kz).length:Int)
     rw [decide_eq_true (by rw [Zb];omega)] at hlx
     have hBU:Yb 2 (.cells 4 [[.int .i64 3,.str nm,.int .i64 s,slV b 4 (Za kz)]])=true:=by simp [Yb,ZA,under,Zj]
     clear ih hNo f1 f2 f3
     generalize (x.nrm false).2=e at hc hNe hzs
     generalize (x.nrm false).1=U at hc hap1
     obtain ⟨k',nm',s',b',kz'⟩:=x
     obtain ⟨k2,nm2,s2,b2,kz2⟩:=U
     have hj:=Zh hx
     simp only [Tm.cells] at hc hap1
     by_cases he:e≠0
     · rw [hNe he]
       have hne:=YK he
       simp only [Zm]
       repeat' first|refine Jk ?_|refine Jc (hc _) ?_|refine Js ?_|refine JA ?_|refine Ji ?_|refine JJ ?_|refine Jl ?_|refine Jx ?_|refine Jt ?_|refine Jb ?_ ?_|refine Jo ?_|(apply dK;rfl;rfl;rfl)|refine Jd (hc _) ?_|refine JB ?_|(apply dAq;rfl;rfl;rfl;rfl;rfl;rfl;(first|assumption|solve_by_elim))|(apply dAp;rfl;rfl;rfl;rfl;rfl;(first|assumption|solve_by_elim);rfl)|refine JD ?_|refine JK ?_|(apply dLn;rfl;rfl;rfl;rfl;rfl)|refine JI ?_|(apply dT (ty:=4);rfl;rfl;rfl;rfl)|(apply dF (ty:=4);rfl;rfl;rfl;rfl)|(apply dB (ty:=4);rfl;rfl;rfl;rfl)|refine Jh ?_|(apply Wp.drawS tOk follows;kernel_rfl;rfl)|intro hb
       all_goals rfl
     · have he := Classical.not_not.1 he
       subst he
       repeat' first|refine Jk ?_|refine Jc (hc _) ?_|refine Js ?_|refine JA ?_|refine Ji ?_|refine JJ ?_|refine Jl ?_|refine Jx ?_|refine Jt ?_|refine Jb ?_ ?_|refine Jo ?_|(apply dK;rfl;rfl;rfl)|refine Jd (hc _) ?_|refine JB ?_|(apply dAq;rfl;rfl;rfl;rfl;rfl;rfl;(first|assumption|solve_by_elim))|(apply dAp;rfl;rfl;rfl;rfl;rfl;(first|assumption|solve_by_elim);rfl)|refine JD ?_|refine JK ?_|(apply dLn;rfl;rfl;rfl;rfl;rfl)|refine JI ?_|(apply dT (ty:=4);rfl;rfl;rfl;rfl)|(apply dF (ty:=4);rfl;rfl;rfl;rfl)|(apply dB (ty:=4);rfl;rfl;rfl;rfl)|refine Jh ?_|(apply Wp.drawS tOk follows;kernel_rfl;rfl)|intro hb
       refine DropQ.go [(4,o1),(1,.ptr 0 4 0 0),(2,.ptr 1 4 0 0),(5,.int .i64 ((i+1:Nat):Int))] ?_ ?_ rfl ?_ ?_
       · exact ⟨rfl,rfl,rfl,Ze (Zc (n:=i+1) (by omega)),trivial⟩
       · simp [hA1.under,under]
       · simpa [Yb,zcT,ZA,under] using hBU
       · exact LoopI.go (m-1) (by omega) ⟨i+1,_,o1,lv1,nt1,by omega,hzs rfl,hA1,rfl,rfl⟩
   · have e : i = kz.length := by omega
     subst e
     rw [List.take_length] at hA hz
     clear ih hNe hokA
     have hNo:=hNo hz
     have hlx:=Zt (kz.length:Int) ((Za kz).length:Int)
     rw [decide_eq_false (by rw [Zb];omega)] at hlx
     have hkn:(kz.map fun x=>(x.nrm false).1).length=kz.length:=by rw [List.length_map]
     generalize (kz.map fun x=>(x.nrm false).1)=ks at hA hNo f1 f2 f3 hkn
     obtain ⟨s1,s2,s3⟩:=UH a0 a1 a2
     have hSm:SmL ks:=fun z hz=>⟨f2 z hz,by have:=ZJ hz;omega⟩
     have hks:ks.length≤8:=by omega
     have hApp:∀ H,CallOk E0 Tryz.prog 76 [.str nm,out] H (.agg (Tm.mk 3 nm 0 false ks).cells) H:=fun H=>ZV (c76 nm (l:=ks) (by omega) true H) (by simp only [ZP,hA.frzG];rfl)
     have hKd:=c77 nm
     have hk3:=Uf (YG nm).kind 3
     simp only [Tm.cells] at hApp
     clear hz hi hlt
     by_cases c1:(YG nm).kind=3
     · rw [decide_eq_true c1] at hk3
       obtain ⟨fd,hD⟩:=c78 (nm:=nm) (ks:=ks) c1 (by omega) (by omega) f1 hSm false
       have e1:YC false nm ks=(Xc (.mk 3 nm 0 false ks),0):=by unfold YC;rw [if_pos c1]
       rw [hNo,e1]
       generalize (YG nm).kind=kd at hKd hk3
       have hfr:=fun m H=>Zx m H (Xc (.mk 3 nm 0 false ks)) 0
       generalize Xc (.mk 3 nm 0 false ks)=U at hD hfr
       obtain ⟨k2,nm2,s2',b2,kz2⟩:=U
       simp only [Tm.cells] at hD hfr ⊢
       repeat' first|refine Jk ?_|(apply qCl;rfl;rfl;rfl;rfl;first|exact hApp _|exact hKd _|exact hD _)|refine Js ?_|refine JA ?_|refine Ji ?_|refine JJ ?_|refine Jl ?_|refine Jx ?_|refine Jt ?_|refine Jb ?_ ?_|refine Jo ?_|(apply dK;rfl;rfl;rfl)|(apply dCl;rfl;rfl;rfl;rfl;rfl;first|exact hApp _|exact hKd _|exact hD _)|refine JB ?_|(apply dAq;rfl;rfl;rfl;rfl;rfl;rfl;(first|assumption|solve_by_elim))|(apply dAp;rfl;rfl;rfl;rfl;rfl;(first|assumption|solve_by_elim);rfl)|refine JD ?_|refine JK ?_|(apply dLn;rfl;rfl;rfl;rfl;rfl)|refine JI ?_|(apply dT (ty:=4);rfl;rfl;rfl;rfl)|(apply dF (ty:=4);rfl;rfl;rfl;rfl)|(apply dB (ty:=4);rfl;rfl;rfl;rfl)|refine Jh ?_|(apply Wp.drawS tOk follows;kernel_rfl;rfl)|intro hb
       all_goals exact hfr _ _
     · rw [decide_eq_false c1] at hk3
       by_cases c2:nm=Q1
       · have hS : ∀ H, CallOk E0 Tryz.prog 79 [out] H (.tup [.agg (sumG false ks).1.cells, .int .i64 (sumG false ks).2]) H := fun H => ZV (c79 hSm (by omega) true H) (by simp only [ZP, hA.frzG])
         have e1:YC false nm ks=sumG false ks:=by unfold YC;rw [if_neg c1,if_pos c2]
         rw [hNo,e1]
         generalize (YG nm).kind=kd at hKd hk3
         have hfr:=fun m H=>Zx m H (sumG false ks).1 (sumG false ks).2
         generalize (sumG false ks).2=e at hS hfr
         generalize (sumG false ks).1=U at hS hfr
         obtain ⟨k2,nm2,s2',b2,kz2⟩:=U
         subst c2
         simp only [Tm.cells,Q1] at hS hfr hApp hKd ⊢
         repeat' first|refine Jk ?_|(apply qCl;rfl;rfl;rfl;rfl;first|exact hApp _|exact hKd _|exact hS _)|refine Js ?_|refine JA ?_|refine Ji ?_|refine JJ ?_|refine Jl ?_|refine Jx ?_|refine Jt ?_|refine Jb ?_ ?_|refine Jo ?_|(apply dK;rfl;rfl;rfl)|(apply dCl;rfl;rfl;rfl;rfl;rfl;first|exact hApp _|exact hKd _|exact hS _)|refine JB ?_|(apply dAq;rfl;rfl;rfl;rfl;rfl;rfl;(first|assumption|solve_by_elim))|(apply dAp;rfl;rfl;rfl;rfl;rfl;(first|assumption|solve_by_elim);rfl)|refine JD ?_|refine JK ?_|(apply dLn;rfl;rfl;rfl;rfl;rfl)|refine JI ?_|(apply dT (ty:=4);rfl;rfl;rfl;rfl)|(apply dF (ty:=4);rfl;rfl;rfl;rfl)|(apply dB (ty:=4);rfl;rfl;rfl;rfl)|refine Jh ?_|(apply Wp.drawS tOk follows;kernel_rfl;rfl)|intro hb
         all_goals exact hfr _ _
       · by_cases c3 : Zau 3 nm = true
         · have hP := c80 (t := .mk 3 nm 0 false ks) (cls_ok.app s1 (by omega) (by rw [hkn]; exact s3) f2) (by rw [Tm.size]; omega)
           have e1:YC false nm ks=Qs false (.mk 3 nm 0 false ks):=by unfold YC;rw [if_neg c1,if_neg c2,if_pos c3]
           rw [hNo,e1]
           generalize (YG nm).kind=kd at hKd hk3
           have hfr:=fun m H=>Zx m H (Qs false (.mk 3 nm 0 false ks)).1 (Qs false (.mk 3 nm 0 false ks)).2
           generalize (Qs false (.mk 3 nm 0 false ks)).2=e at hP hfr
           generalize (Qs false (.mk 3 nm 0 false ks)).1=U at hP hfr
           obtain ⟨k2,nm2,s2',b2,kz2⟩:=U
           rcases (XU c3).2 with rfl|rfl|rfl
           all_goals
            simp only [Tm.cells,W7,WJ,Vn] at hP hfr hApp hKd ⊢
            repeat' first|refine Jk ?_|(apply qCl;rfl;rfl;rfl;rfl;first|exact hApp _|exact hKd _|exact hP _)|refine Js ?_|refine JA ?_|refine Ji ?_|refine JJ ?_|refine Jl ?_|refine Jx ?_|refine Jt ?_|refine Jb ?_ ?_|refine Jo ?_|(apply dK;rfl;rfl;rfl)|(apply dCl;rfl;rfl;rfl;rfl;rfl;first|exact hApp _|exact hKd _|exact hP _)|refine JB ?_|(apply dAq;rfl;rfl;rfl;rfl;rfl;rfl;(first|assumption|solve_by_elim))|(apply dAp;rfl;rfl;rfl;rfl;rfl;(first|assumption|solve_by_elim);rfl)|refine JD ?_|refine JK ?_|(apply dLn;rfl;rfl;rfl;rfl;rfl)|refine JI ?_|(apply dT (ty:=4);rfl;rfl;rfl;rfl)|(apply dF (ty:=4);rfl;rfl;rfl;rfl)|(apply dB (ty:=4);rfl;rfl;rfl;rfl)|refine Jh ?_|(apply Wp.drawS tOk follows;kernel_rfl;rfl)|intro hb
            all_goals exact hfr _ _
         · by_cases c4 : nm = Yx
           · subst c4
             have hn2:ks.length=2:=by
              rw [hkn]
              have b1:(YG Yx).least=2:=rfl
              have b2:(YG Yx).most=2:=rfl
              omega
             obtain ⟨a,e,rfl⟩:=ZlH hn2
             have hP:=c81 (f1 a (by simp)) (hSm a (by simp)) (hSm e (by simp))
             have e1:YC false Yx [a,e]=X2 false a e:=by unfold YC;rw [if_neg c1,if_neg c2,if_neg c3,if_pos rfl];rfl
             rw [hNo,e1]
             generalize (YG Yx).kind=kd at hKd hk3
             have hfr:=fun m H=>Zx m H (X2 false a e).1 (X2 false a e).2
             generalize (X2 false a e).2=e' at hP hfr
             generalize (X2 false a e).1=U at hP hfr
             obtain ⟨kt,rfl⟩:=Xz hA (by simp [Za])
             obtain ⟨k2,nm2,s2',b2,kz2⟩:=U
             obtain ⟨k3,nm3,s3',b3,kz3⟩:=a
             obtain ⟨k4,nm4,s4',b4,kz4⟩:=e
             simp only [Tm.cells,Yx,Za] at hP hfr hApp hKd ⊢
             repeat' first|refine Jk ?_|(apply qCl;rfl;rfl;rfl;rfl;first|exact hApp _|exact hKd _|exact hP _)|refine Js ?_|refine JA ?_|refine Ji ?_|refine JJ ?_|refine Jl ?_|refine Jx ?_|refine Jt ?_|refine Jb ?_ ?_|refine Jo ?_|(apply dK;rfl;rfl;rfl)|(apply dCl;rfl;rfl;rfl;rfl;rfl;first|exact hApp _|exact hKd _|exact hP _)|refine JB ?_|(apply dAq;rfl;rfl;rfl;rfl;rfl;rfl;(first|assumption|solve_by_elim))|(apply dAp;rfl;rfl;rfl;rfl;rfl;(first|assumption|solve_by_elim);rfl)|refine JD ?_|refine JK ?_|(apply dLn;rfl;rfl;rfl;rfl;rfl)|refine JI ?_|(apply dT (ty:=4);rfl;rfl;rfl;rfl)|(apply dF (ty:=4);rfl;rfl;rfl;rfl)|(apply dB (ty:=4);rfl;rfl;rfl;rfl)|refine Jh ?_|(apply Wp.drawS tOk follows;kernel_rfl;rfl)|intro hb
             all_goals exact hfr _ _
           · have e1 : YC false nm ks = (.mk 3 nm 0 false ks, 0) := by unfold YC; rw [if_neg c1, if_neg c2, if_neg c3, if_neg c4]
             rw [hNo,e1]
             generalize (YG nm).kind=kd at hKd hk3
             have d1:=Wr c2
             have d2:=Wr c4
             have c3:¬ nm=W7∧¬ nm=WJ∧¬ nm=Vn:=by simpa [Zau] using c3
             have d3:=Wr c3.1
             have d4:=Wr c3.2.1
             have d5:=Wr c3.2.2
             have hfr:=fun m H=>Zx m H (.mk 3 nm 0 false ks) 0
             simp only [Tm.cells,Q1,W7,WJ,Vn,Yx] at hfr d1 d2 d3 d4 d5 ⊢
             repeat' first|refine Jk ?_|refine Jc (hApp _) ?_|refine Jc (hKd _) ?_|refine Js ?_|refine JA ?_|refine Ji ?_|refine JJ ?_|refine Jl ?_|refine Jx ?_|refine Jt ?_|refine Jb ?_ ?_|refine Jo ?_|(apply dK;rfl;rfl;rfl)|refine Jd (hApp _) ?_|refine Jd (hKd _) ?_|refine JB ?_|(apply dAq;rfl;rfl;rfl;rfl;rfl;rfl;(first|assumption|solve_by_elim))|(apply dAp;rfl;rfl;rfl;rfl;rfl;(first|assumption|solve_by_elim);rfl)|refine JD ?_|refine JK ?_|(apply dLn;rfl;rfl;rfl;rfl;rfl)|refine JI ?_|(apply dT (ty:=4);rfl;rfl;rfl;rfl)|(apply dF (ty:=4);rfl;rfl;rfl;rfl)|(apply dB (ty:=4);rfl;rfl;rfl;rfl)|refine Jh ?_|(apply Wp.drawS tOk follows;kernel_rfl;rfl)|intro hb
             all_goals exact hfr _ _
theorem ZdO (h:t.valid=0):t.nodes=0:=by
 unfold Tm.valid at h
 split at h
 · rename_i h1;exact absurd h h1
 · rename_i h1;exact Classical.not_not.1 h1
theorem c22 (ht:t.Ok) (hs:t.size≤100000):∀ H,CallOk E0 Tryz.prog 22 [.agg t.cells] H (.tup [.agg (t.nf false).1.cells,.int .i64 (t.nf false).2]) H:=by
 have hV:=c42 ht (by omega)
 by_cases h1:(if t.valid≠0 then t.valid else t.th)≠0
 · have e : t.nf false = (.zero, if t.valid ≠ 0 then t.valid else t.th) := by
     unfold Tm.nf
     split
     · rfl
     · rename_i h2
       rw [if_neg h2] at h1
       rw [if_pos h1]
   rw [e]
   generalize (if t.valid≠0 then t.valid else t.th)=v at hV h1 ⊢
   have hne:=YK h1
   obtain ⟨k,nm,s,b,kz⟩:=t
   simp only [Tm.cells,Zm] at hV ⊢
   refine Jw tOk fe22.ok (Z6 _ _ _) ?_
   repeat' first|refine Jc (hV _) ?_|refine Ji ?_|refine Jt ?_|refine Jb ?_ ?_|refine Jo ?_|intro hb
   all_goals rfl
 · have h1 := Classical.not_not.1 h1
   rw [h1] at hV
   have hv0:t.valid=0:=by
    by_cases h:t.valid=0
    · exact h
    · rw [if_pos h] at h1;exact absurd h1 h
   have ht0:t.th=0:=by rwa [if_neg (by rw [hv0];simp)] at h1
   have hsz:=Y7 hv0
   have hA:=ZgK t (ZdO hv0) ht0
   have hN:=c43 ht ht0 hA hsz
   have hsN:=UM false t ht0
   have hVN:=c44 (t:=(t.nrm false).1) (cls_ok.nrm t ht0 (by omega) ht) (by omega)
   have e:t.nf false=if (t.nrm false).2≠0 then (.zero,(t.nrm false).2) else if (t.nrm false).1.valid≠0 then (.zero,(t.nrm false).1.valid) else ((t.nrm false).1,0):=by
    unfold Tm.nf
    rw [if_neg (by rw [hv0];simp),if_neg (by rw [ht0];simp)]
   rw [e]
   clear e hsN hA hv0 ht0 h1
   generalize (t.nrm false).1.valid=v2 at hVN ⊢
   generalize (t.nrm false).2=v at hN ⊢
   generalize (t.nrm false).1=U at hN hVN ⊢
   obtain ⟨k,nm,s,b,kz⟩:=t
   by_cases h2:v≠0
   · rw [if_pos h2]
     have hne:=YK h2
     obtain ⟨k2,nm2,s2,b2,kz2⟩:=U
     simp only [Tm.cells,Zm] at hV hN ⊢
     refine Jw tOk fe22.ok (Z6 _ _ _) ?_
     repeat' first|refine Jc (hV _) ?_|refine Jc (hN _) ?_|refine Ji ?_|refine Jt ?_|refine Jb ?_ ?_|refine Jo ?_|intro hb
     all_goals rfl
   · rw [if_neg h2]
     have h2:=Classical.not_not.1 h2
     subst h2
     by_cases h3:v2≠0
     · rw [if_pos h3]
       have hne:=YK h3
       obtain ⟨k2,nm2,s2,b2,kz2⟩:=U
       simp only [Tm.cells,Zm] at hV hN hVN ⊢
       refine Jw tOk fe22.ok (Z6 _ _ _) ?_
       repeat' first|(apply qCl;rfl;rfl;rfl;rfl;first|exact hV _|exact hN _|exact hVN _)|refine Ji ?_|refine Jt ?_|refine Jb ?_ ?_|refine Jo ?_|intro hb
       all_goals rfl
     · rw [if_neg h3]
       have h3:=Classical.not_not.1 h3
       subst h3
       have hfr:=fun m H=>Zx m H U 0
       obtain ⟨k2,nm2,s2,b2,kz2⟩:=U
       simp only [Tm.cells] at hV hN hVN hfr ⊢
       refine Jw tOk fe22.ok (hfr _ _) ?_
       repeat' first|(apply qCl;rfl;rfl;rfl;rfl;first|exact hV _|exact hN _|exact hVN _)|refine Ji ?_|refine Jt ?_|refine Jb ?_ ?_|refine Jo ?_|intro hb
       all_goals exact hfr _ _
theorem ZcB {v:Int} (h:v≠0):Xs E0 .eql 36 (.int .i64 v) (.int .i64 0)=some (.bool false):=by
 show some (PV.bool (v==0))=_
 simp [h]
theorem WQ {L:List (List PV)} {out:PV} {lv:List Nat} {nt:Nat} (hA:ApV true 4 L out lv nt):out= .nils∨∃ k,out= .sl (.tok k) 4 L:=by
 cases hA with
 |nil _ _ _=>exact .inl rfl
 |full _ _ _ h _=>cases h
 |tok _ k _ _ _ _ _ _=>exact .inr ⟨k,rfl⟩
theorem c15 (f t n:Int):∀ H,CallOk E0 Tryz.prog 15 [.agg [.int .i64 f,.int .i64 t],.int .i64 n] H (.int .i64 (Yo f t n)) H:=by
 refine Jw tOk fe15.ok rfl ?_
 repeat' first|refine Jt ?_|refine Jb ?_ ?_|refine Jo ?_|intro hb
 all_goals simp_all [Yo]
theorem c19 (n f t:Int):∀ H,CallOk E0 Tryz.prog 19 [.int .i64 n,.int .i64 f,.int .i64 t] H (.int .i64 (Yo f t n)) H:=by
 refine Jw tOk fe19.ok rfl ?_
 repeat' first|refine Jt ?_|refine Jb ?_ ?_|refine Jo ?_|intro hb
 all_goals simp_all [Yo]
