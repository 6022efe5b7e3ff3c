/-
  Two sessions are exchanged in a term (the program's text).
-/
import Derived.Test.YtnnfkocifnflgaaGreatDoorOw
set_option maxHeartbeats 0
set_option maxRecDepth 100000
namespace Go.Vm
variable {l:List Tm} {i:Nat} {x:Tm}
mutual
def Tm.nb:Tm→Bool
 | .mk _ nm _ _ kz=>decide (nm.length≤40)&&nbL kz
def nbL:List Tm→Bool
 | []=>true
 |t::r=>t.nb&&nbL r
end
theorem ZaG:∀ {l:List Tm},nbL l=true→∀ x,x∈l→x.nb=true
 | [],_,x,hx=>by simp at hx
 | t :: r, h, x, hx => by
   simp only [nbL,Bool.and_eq_true] at h
   rcases List.mem_cons.1 hx with rfl|hx
   · exact h.1
   · exact ZaG h.2 x hx
theorem U2 (g:Bs→Bs):∀ l:List Tm,xtL g l=l.map (·.xt g)
 | []=>rfl
 |t::r=>by rw [xtL,U2 g r];rfl
theorem ZaU (g:Bs→Bs):∀ l:List Tm,UG g l=l.any (·.chg g)
 | []=>rfl
 |t::r=>by rw [UG,ZaU g r];rfl
theorem Vp (g:Bs→Bs) (h:l[i]? = some x):xtL g (l.take (i+1))=xtL g (l.take i)++ [x.xt g]:=by
 rw [U2,U2,List.take_add_one,h]
 simp
theorem Qc (g:Bs→Bs) (h:l[i]? = some x):UG g (l.take (i+1))=(UG g (l.take i)||x.chg g):=by
 rw [ZaU,ZaU,List.take_add_one,h]
 simp
theorem QA (g:Bs→Bs) (l:List Tm):(xtL g l).length=l.length:=by rw [U2,List.length_map]
end Go.Vm
namespace Go.Vm.Seat
open Go.Proofs
theorem Zkt (a b:Bs):Xs E0 .neq 9 (.str a) (.str b)=some (.bool (!decide (a=b))):=by
 show some (PV.bool (!(a==b)))=_
 by_cases h:a=b
 · subst h;simp
 · simp [h]
theorem ZaS {L:List (List PV)} {out:PV} {lv:List Nat} {nt:Nat} (hA:ApV true 4 L out lv nt) (k:Int) (nm:Bs) (s:Int) (c:Bool) (m:Nat) (H:Heap):frz3 m H (.tup [.agg [.int .i64 k,.str nm,.int .i64 s,out],.bool c])=some (.tup [.agg [.int .i64 k,.str nm,.int .i64 s,slV true 4 L],.bool c]):=by
 have h:=hA.frzC m H
 rw [Wb]
 simp only [VZ,frz2,X4,h]
 rfl
theorem ZkS (m:Nat) (H:Heap) (k:Int) (nm:Bs) (s:Int) (b:Bool) (L:List (List PV)) (c:Bool):frz3 m H (.tup [.agg [.int .i64 k,.str nm,.int .i64 s,slV b 4 L],.bool c])=some (.tup [.agg [.int .i64 k,.str nm,.int .i64 s,slV b 4 L],.bool c]):=by
 have h:frzC m H (slV b 4 L)=some (slV b 4 L):=by
  have:=Zes m H b 4 L
  rcases U3 b L with e|⟨el,e⟩<;>rw [e] at this ⊢ <;> exact this
 rw [Wb]
 simp only [VZ,frz2,X4,h]
 rfl
theorem c17 {f u:Int} (hf:0≤f∧f≤9) (hu:0≤u∧u≤9) {t:Tm} (ht:t.Ok):t.nb=true→t.size≤100000→∀ H,CallOk E0 Tryz.prog 17 [.agg [.int .i64 f,.int .i64 u],.agg t.cells] H (.tup [.agg (t.xt (nmP f u)).cells,.bool (t.chg (nmP f u))]) H:=by
 induction ht with
 | @mk k nm s b kz hk hs hn hl hok ih=>
 intro hnb hsz
 rw [Tm.size] at hsz
 have hkl:=Ya kz
 rw [Tm.nb,Bool.and_eq_true,decide_eq_true_eq] at hnb
 obtain ⟨hnl,hnk⟩:=hnb
 have hnk:=ZaG hnk
 have hcn:=c36 hf hu (s:=nm) (by omega)
 rw [Tm.xt,Tm.chg]
 generalize nmP f u=g at ih hcn ⊢
 obtain ⟨nm',hnm'⟩:∃ nm',nm'=if k=2 then g nm else nm:=⟨_,rfl⟩
 obtain ⟨c0,hc0⟩:∃ c0,c0=(decide (k=2)&& !decide (g nm=nm)):=⟨_,rfl⟩
 rw [← hnm', ← hc0]
 have heq:=Uf k 2
 have hne:=Zkt nm' nm
 simp only [Tm.cells]
 refine Jw tOk fe17.ok (ZkS _ _ _ _ _ _ _ _) ?_ (by simp [ZP,frzG,Xv];rfl)
 by_cases hk2:k=2
 · rw [if_pos hk2] at hnm'
   rw [← hnm'] at hcn
   rw [decide_eq_true hk2, ← hnm',Bool.true_and] at hc0
   rw [← hc0] at hne
   rw [decide_eq_true hk2] at heq
   clear hc0
   cases c0
   · skip
     repeat' first|refine Jk ?_|refine Jc (hcn _) ?_|refine Js ?_|refine JA ?_|refine Ji ?_|refine JJ ?_|refine Jl ?_|refine Jx ?_|refine Jt ?_|refine Jb ?_ ?_|(apply qT (ty:=0);rfl;rfl;rfl)|(apply qF (ty:=0);rfl;rfl;rfl)|refine Jz ?_ ?_|refine Jo ?_|intro hb
     refine Wp.while (fun m tm H => ∃ (i : Nat) (base : TM) (out : PV) (lv : List Nat) (nt : Nat), i + m = kz.length ∧ ApV true 4 (Za (xtL g (kz.take i))) out lv nt ∧
       tm=ovr base [(2,.ptr 0 2 0 0),(4,.ptr 2 4 0 0),(6,.ptr 3 4 0 0),(7,.bool (false||UG g (kz.take i))),(28,slV b 4 (Za kz)),(29,.int .i64 (kz.length:Int)),(30,.int .i64 (i:Int))]∧H=⟨[.cells 2 [[.int .i64 f,.int .i64 u]],.cells 4 [[.int .i64 k,.str nm,.int .i64 s,slV b 4 (Za kz)]],.cells 4 [zcT],.cells 4 [[.int .i64 k,.str nm',.int .i64 s,out]]],0,lv,nt⟩)
      (fun m tm H hI=>Wp.drop ?_) kz.length _ _ ⟨0,_,_,_,_,by omega,.nil _ _ rfl,Zf ⟨rfl,rfl,rfl,rfl,rfl,Ze (by rw [Zb]),rfl,trivial⟩,rfl⟩
     obtain ⟨i,base,out,lv,nt,hi,hA,rfl,rfl⟩:=hI
     clear hcn hne heq
     by_cases hlt:i<kz.length
     · obtain ⟨x, hx⟩ : ∃ x, kz[i]? = some x := ⟨kz[i], by simp⟩
       have hm:x∈kz:=List.mem_of_getElem? hx
       have hle:=ZJ hm
       have hc:=ih x hm (hnk x hm) (by omega)
       have hsx:=Vp g hx
       have hsc:=Qc g hx
       obtain ⟨o1,lv1,nt1,hap1,hA1⟩:=Ux hA (x.xt g) (by rw [QA,List.length_take];omega)
       obtain ⟨kt,rfl⟩:=Xz hA1 fun e=>by
        have:=congrArg List.length e
        rw [Zb] at this
        simp at this
       rw [← hsx] at hA1 hap1
       have hlx:=Zt (i:Int) (kz.length:Int)
       rw [decide_eq_true (by omega)] at hlx
       have hBU:Yb 4 (.cells 4 [[.int .i64 k,.str nm,.int .i64 s,slV b 4 (Za kz)]])=true:=by simp [Yb,ZA,under,Zj]
       have hBU2:Yb 4 (.cells 4 [[.int .i64 k,.str nm',.int .i64 s,.sl (.tok kt) 4 (Za (xtL g (kz.take (i+1))))]])=true:=by simp [Yb,ZA,under]
       clear ih hnk
       generalize x.chg g=q at hc hsc
       generalize UG g (kz.take i)=C at hsc ⊢
       generalize x.xt g=U at hc hap1
       obtain ⟨k',nm1,s',b',kz'⟩:=x
       obtain ⟨k2,nm2,s2,b2,kz2⟩:=U
       have hj:=Zh hx
       simp only [Tm.cells] at hc hap1
       cases C<;>cases q
       all_goals
        repeat' first|refine Jk ?_|refine Jc (hc _) ?_|refine Js ?_|refine JA ?_|refine Ji ?_|refine JJ ?_|refine Jl ?_|refine Jx ?_|refine Jt ?_|refine Jb ?_ ?_|(apply qT (ty:=0);rfl;rfl;rfl)|(apply qF (ty:=0);rfl;rfl;rfl)|refine Jz ?_ ?_|refine Jo ?_|intro hb
        refine DropQ.go [(2,.ptr 0 2 0 0),(4,.ptr 2 4 0 0),(6,.ptr 3 4 0 0),(7,.bool (false||UG g (kz.take (i+1)))),(28,slV b 4 (Za kz)),(29,.int .i64 (kz.length:Int)),(30,.int .i64 ((i+1:Nat):Int))] ?_ ?_ rfl ?_ ?_
        · exact ⟨rfl,rfl,rfl,(by rw [hsc];rfl),rfl,rfl,Ze (Zc (n:=i+1) (by omega)),trivial⟩
        · simp [Zj,under]
        · show (Yb 4 _ && (Yb 4 _ && (Yb 4 _ && (Yb 4 _ && true)))) = true
          rw [hBU,hBU2]
          rfl
        · exact LoopI.go (m-1) (by omega) ⟨i+1,_,_,lv1,nt1,by omega,hA1,rfl,rfl⟩
     · have e : i = kz.length := by omega
       subst e
       rw [List.take_length] at hA
       clear ih hnk
       have hlx:=Zt (kz.length:Int) (kz.length:Int)
       rw [decide_eq_false (by omega)] at hlx
       have hfr:=fun m H=>ZaS hA k nm' s (false||UG g kz) m H
       rw [List.take_length]
       generalize UG g kz=C at hfr ⊢
       rcases WQ hA with rfl|⟨kt,rfl⟩<;>cases C
       all_goals
        repeat' first|refine Jk ?_|refine Js ?_|refine JA ?_|refine Ji ?_|refine JJ ?_|refine Jl ?_|refine Jx ?_|refine Jt ?_|refine Jb ?_ ?_|(apply qT (ty:=0);rfl;rfl;rfl)|(apply qF (ty:=0);rfl;rfl;rfl)|refine Jz ?_ ?_|refine Jo ?_|intro hb
        all_goals exact hfr _ _
   · skip
     repeat' first|refine Jk ?_|refine Jc (hcn _) ?_|refine Js ?_|refine JA ?_|refine Ji ?_|refine JJ ?_|refine Jl ?_|refine Jx ?_|refine Jt ?_|refine Jb ?_ ?_|(apply qT (ty:=0);rfl;rfl;rfl)|(apply qF (ty:=0);rfl;rfl;rfl)|refine Jz ?_ ?_|refine Jo ?_|intro hb
     refine Wp.while (fun m tm H => ∃ (i : Nat) (base : TM) (out : PV) (lv : List Nat) (nt : Nat), i + m = kz.length ∧ ApV true 4 (Za (xtL g (kz.take i))) out lv nt ∧
       tm=ovr base [(2,.ptr 0 2 0 0),(4,.ptr 2 4 0 0),(6,.ptr 3 4 0 0),(7,.bool (true||UG g (kz.take i))),(28,slV b 4 (Za kz)),(29,.int .i64 (kz.length:Int)),(30,.int .i64 (i:Int))]∧H=⟨[.cells 2 [[.int .i64 f,.int .i64 u]],.cells 4 [[.int .i64 k,.str nm,.int .i64 s,slV b 4 (Za kz)]],.cells 4 [zcT],.cells 4 [[.int .i64 k,.str nm',.int .i64 s,out]]],0,lv,nt⟩)
      (fun m tm H hI=>Wp.drop ?_) kz.length _ _ ⟨0,_,_,_,_,by omega,.nil _ _ rfl,Zf ⟨rfl,rfl,rfl,rfl,rfl,Ze (by rw [Zb]),rfl,trivial⟩,rfl⟩
     obtain ⟨i,base,out,lv,nt,hi,hA,rfl,rfl⟩:=hI
     clear hcn hne heq
     by_cases hlt:i<kz.length
     · obtain ⟨x, hx⟩ : ∃ x, kz[i]? = some x := ⟨kz[i], by simp⟩
       have hm:x∈kz:=List.mem_of_getElem? hx
       have hle:=ZJ hm
       have hc:=ih x hm (hnk x hm) (by omega)
       have hsx:=Vp g hx
       have hsc:=Qc g hx
       obtain ⟨o1,lv1,nt1,hap1,hA1⟩:=Ux hA (x.xt g) (by rw [QA,List.length_take];omega)
       obtain ⟨kt,rfl⟩:=Xz hA1 fun e=>by
        have:=congrArg List.length e
        rw [Zb] at this
        simp at this
       rw [← hsx] at hA1 hap1
       have hlx:=Zt (i:Int) (kz.length:Int)
       rw [decide_eq_true (by omega)] at hlx
       have hBU:Yb 4 (.cells 4 [[.int .i64 k,.str nm,.int .i64 s,slV b 4 (Za kz)]])=true:=by simp [Yb,ZA,under,Zj]
       have hBU2:Yb 4 (.cells 4 [[.int .i64 k,.str nm',.int .i64 s,.sl (.tok kt) 4 (Za (xtL g (kz.take (i+1))))]])=true:=by simp [Yb,ZA,under]
       clear ih hnk
       generalize x.chg g=q at hc hsc
       generalize UG g (kz.take i)=C at hsc ⊢
       generalize x.xt g=U at hc hap1
       obtain ⟨k',nm1,s',b',kz'⟩:=x
       obtain ⟨k2,nm2,s2,b2,kz2⟩:=U
       have hj:=Zh hx
       simp only [Tm.cells] at hc hap1
       cases C<;>cases q
       all_goals
        repeat' first|refine Jk ?_|refine Jc (hc _) ?_|refine Js ?_|refine JA ?_|refine Ji ?_|refine JJ ?_|refine Jl ?_|refine Jx ?_|refine Jt ?_|refine Jb ?_ ?_|(apply qT (ty:=0);rfl;rfl;rfl)|(apply qF (ty:=0);rfl;rfl;rfl)|refine Jz ?_ ?_|refine Jo ?_|intro hb
        refine DropQ.go [(2,.ptr 0 2 0 0),(4,.ptr 2 4 0 0),(6,.ptr 3 4 0 0),(7,.bool (true||UG g (kz.take (i+1)))),(28,slV b 4 (Za kz)),(29,.int .i64 (kz.length:Int)),(30,.int .i64 ((i+1:Nat):Int))] ?_ ?_ rfl ?_ ?_
        · exact ⟨rfl,rfl,rfl,(by rw [hsc];rfl),rfl,rfl,Ze (Zc (n:=i+1) (by omega)),trivial⟩
        · simp [Zj,under]
        · show (Yb 4 _ && (Yb 4 _ && (Yb 4 _ && (Yb 4 _ && true)))) = true
          rw [hBU,hBU2]
          rfl
        · exact LoopI.go (m-1) (by omega) ⟨i+1,_,_,lv1,nt1,by omega,hA1,rfl,rfl⟩
     · have e : i = kz.length := by omega
       subst e
       rw [List.take_length] at hA
       clear ih hnk
       have hlx:=Zt (kz.length:Int) (kz.length:Int)
       rw [decide_eq_false (by omega)] at hlx
       have hfr:=fun m H=>ZaS hA k nm' s (true||UG g kz) m H
       rw [List.take_length]
       generalize UG g kz=C at hfr ⊢
       rcases WQ hA with rfl|⟨kt,rfl⟩<;>cases C
       all_goals
        repeat' first|refine Jk ?_|refine Js ?_|refine JA ?_|refine Ji ?_|refine JJ ?_|refine Jl ?_|refine Jx ?_|refine Jt ?_|refine Jb ?_ ?_|(apply qT (ty:=0);rfl;rfl;rfl)|(apply qF (ty:=0);rfl;rfl;rfl)|refine Jz ?_ ?_|refine Jo ?_|intro hb
        all_goals exact hfr _ _
 · rw [if_neg hk2] at hnm'
   subst hnm'
   rw [decide_eq_false hk2,Bool.false_and] at hc0
   subst hc0
   rw [decide_eq_false hk2] at heq
   clear hne
   have hne:=hnl
   repeat' first|refine Jk ?_|refine Js ?_|refine JA ?_|refine Ji ?_|refine JJ ?_|refine Jl ?_|refine Jx ?_|refine Jt ?_|refine Jb ?_ ?_|(apply qT (ty:=0);rfl;rfl;rfl)|(apply qF (ty:=0);rfl;rfl;rfl)|refine Jz ?_ ?_|refine Jo ?_|intro hb
   refine Wp.while (fun m tm H => ∃ (i : Nat) (base : TM) (out : PV) (lv : List Nat) (nt : Nat), i + m = kz.length ∧ ApV true 4 (Za (xtL g (kz.take i))) out lv nt ∧
     tm=ovr base [(2,.ptr 0 2 0 0),(4,.ptr 2 4 0 0),(6,.ptr 3 4 0 0),(7,.bool (false||UG g (kz.take i))),(28,slV b 4 (Za kz)),(29,.int .i64 (kz.length:Int)),(30,.int .i64 (i:Int))]∧H=⟨[.cells 2 [[.int .i64 f,.int .i64 u]],.cells 4 [[.int .i64 k,.str nm',.int .i64 s,slV b 4 (Za kz)]],.cells 4 [zcT],.cells 4 [[.int .i64 k,.str nm',.int .i64 s,out]]],0,lv,nt⟩)
    (fun m tm H hI=>Wp.drop ?_) kz.length _ _ ⟨0,_,_,_,_,by omega,.nil _ _ rfl,Zf ⟨rfl,rfl,rfl,rfl,rfl,Ze (by rw [Zb]),rfl,trivial⟩,rfl⟩
   obtain ⟨i,base,out,lv,nt,hi,hA,rfl,rfl⟩:=hI
   clear hcn hne heq
   by_cases hlt:i<kz.length
   · obtain ⟨x, hx⟩ : ∃ x, kz[i]? = some x := ⟨kz[i], by simp⟩
     have hm:x∈kz:=List.mem_of_getElem? hx
     have hle:=ZJ hm
     have hc:=ih x hm (hnk x hm) (by omega)
     have hsx:=Vp g hx
     have hsc:=Qc g hx
     obtain ⟨o1,lv1,nt1,hap1,hA1⟩:=Ux hA (x.xt g) (by rw [QA,List.length_take];omega)
     obtain ⟨kt,rfl⟩:=Xz hA1 fun e=>by
      have:=congrArg List.length e
      rw [Zb] at this
      simp at this
     rw [← hsx] at hA1 hap1
     have hlx:=Zt (i:Int) (kz.length:Int)
     rw [decide_eq_true (by omega)] at hlx
     have hBU:Yb 4 (.cells 4 [[.int .i64 k,.str nm',.int .i64 s,slV b 4 (Za kz)]])=true:=by simp [Yb,ZA,under,Zj]
     have hBU2:Yb 4 (.cells 4 [[.int .i64 k,.str nm',.int .i64 s,.sl (.tok kt) 4 (Za (xtL g (kz.take (i+1))))]])=true:=by simp [Yb,ZA,under]
     clear ih hnk
     generalize x.chg g=q at hc hsc
     generalize UG g (kz.take i)=C at hsc ⊢
     generalize x.xt g=U at hc hap1
     obtain ⟨k',nm1,s',b',kz'⟩:=x
     obtain ⟨k2,nm2,s2,b2,kz2⟩:=U
     have hj:=Zh hx
     simp only [Tm.cells] at hc hap1
     cases C<;>cases q
     all_goals
      repeat' first|refine Jk ?_|refine Jc (hc _) ?_|refine Js ?_|refine JA ?_|refine Ji ?_|refine JJ ?_|refine Jl ?_|refine Jx ?_|refine Jt ?_|refine Jb ?_ ?_|(apply qT (ty:=0);rfl;rfl;rfl)|(apply qF (ty:=0);rfl;rfl;rfl)|refine Jz ?_ ?_|refine Jo ?_|intro hb
      refine DropQ.go [(2,.ptr 0 2 0 0),(4,.ptr 2 4 0 0),(6,.ptr 3 4 0 0),(7,.bool (false||UG g (kz.take (i+1)))),(28,slV b 4 (Za kz)),(29,.int .i64 (kz.length:Int)),(30,.int .i64 ((i+1:Nat):Int))] ?_ ?_ rfl ?_ ?_
      · exact ⟨rfl,rfl,rfl,(by rw [hsc];rfl),rfl,rfl,Ze (Zc (n:=i+1) (by omega)),trivial⟩
      · simp [Zj,under]
      · show (Yb 4 _ && (Yb 4 _ && (Yb 4 _ && (Yb 4 _ && true)))) = true
        rw [hBU,hBU2]
        rfl
      · exact LoopI.go (m-1) (by omega) ⟨i+1,_,_,lv1,nt1,by omega,hA1,rfl,rfl⟩
   · have e : i = kz.length := by omega
     subst e
     rw [List.take_length] at hA
     clear ih hnk
     have hlx:=Zt (kz.length:Int) (kz.length:Int)
     rw [decide_eq_false (by omega)] at hlx
     have hfr:=fun m H=>ZaS hA k nm' s (false||UG g kz) m H
     rw [List.take_length]
     generalize UG g kz=C at hfr ⊢
     rcases WQ hA with rfl|⟨kt,rfl⟩<;>cases C
     all_goals
      repeat' first|refine Jk ?_|refine Js ?_|refine JA ?_|refine Ji ?_|refine JJ ?_|refine Jl ?_|refine Jx ?_|refine Jt ?_|refine Jb ?_ ?_|(apply qT (ty:=0);rfl;rfl;rfl)|(apply qF (ty:=0);rfl;rfl;rfl)|refine Jz ?_ ?_|refine Jo ?_|intro hb
      all_goals exact hfr _ _
