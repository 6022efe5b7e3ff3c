/-
  Two sessions are exchanged in a trace (the second text).
-/
import Derived.Test.YtfiflgphoepgeaaGreatDoorOw
set_option maxHeartbeats 0
set_option maxRecDepth 100000
namespace Go.Vm
variable {l:List Tm} {i:Nat} {x:Tm}
mutual
def Tm.nb:Tm→Bool
 | .mk _ nm _ _ kz=>decide (nm.length≤40)&&nbL kz
def nbL:List Tm→Bool
 | []=>true
 |t::r=>t.nb&&nbL r
end
theorem ZdI:∀ {l:List Tm},nbL l=true→∀ x,x∈l→x.nb=true
 | [],_,x,hx=>by simp at hx
 | t :: r, h, x, hx => by
   simp only [nbL,Bool.and_eq_true] at h
   rcases List.mem_cons.1 hx with rfl|hx
   · exact h.1
   · exact ZdI h.2 x hx
theorem QI (g:Bs→Bs):∀ l:List Tm,xtL g l=l.map (·.xt g)
 | []=>rfl
 |t::r=>by rw [xtL,QI g r];rfl
theorem ZbP (g:Bs→Bs):∀ l:List Tm,U1 g l=l.any (·.chg g)
 | []=>rfl
 |t::r=>by rw [U1,ZbP g r];rfl
theorem ZbY (g:Bs→Bs) (h:l[i]? = some x):xtL g (l.take (i+1))=xtL g (l.take i)++ [x.xt g]:=by
 rw [QI,QI,List.take_add_one,h]
 simp
theorem Qj (g:Bs→Bs) (h:l[i]? = some x):U1 g (l.take (i+1))=(U1 g (l.take i)||x.chg g):=by
 rw [ZbP,ZbP,List.take_add_one,h]
 simp
theorem Zeg (g:Bs→Bs) (l:List Tm):(xtL g l).length=l.length:=by rw [QI,List.length_map]
end Go.Vm
namespace Go.Vm.Seat
open Go.Proofs
theorem Znw (a b:Bs):Y2 E0 .neq 9 (.str a) (.str b)=some (.bool (!decide (a=b))):=by
 show some (PV.bool (!(a==b)))=_
 by_cases h:a=b
 · subst h;simp
 · simp [h]
theorem ZbM {L:List (List PV)} {out:PV} {lv:List Nat} {nt:Nat} (hA:ApV true 4 L out lv nt) (k:Int) (nm:Bs) (s:Int) (c:Bool) (m:Nat) (H:Heap):frz3 m H (.tup [.agg [.int .i64 k,.str nm,.int .i64 s,out],.bool c])=some (.tup [.agg [.int .i64 k,.str nm,.int .i64 s,slV true 4 L],.bool c]):=by
 have h:=hA.frzC m H
 rw [Xx]
 simp only [Vq,frz2,Wf,h]
 rfl
theorem Zoj (m:Nat) (H:Heap) (k:Int) (nm:Bs) (s:Int) (b:Bool) (L:List (List PV)) (c:Bool):frz3 m H (.tup [.agg [.int .i64 k,.str nm,.int .i64 s,slV b 4 L],.bool c])=some (.tup [.agg [.int .i64 k,.str nm,.int .i64 s,slV b 4 L],.bool c]):=by
 have h:frzC m H (slV b 4 L)=some (slV b 4 L):=by
  have:=Zeo m H b 4 L
  rcases QU b L with e|⟨el,e⟩<;>rw [e] at this ⊢ <;> exact this
 rw [Xx]
 simp only [Vq,frz2,Wf,h]
 rfl
theorem c20 {f u:Int} (hf:0≤f∧f≤9) (hu:0≤u∧u≤9) {t:Tm} (ht:t.Ok):t.nb=true→t.size≤100000→∀ H,CallOk E0 Tryz.prog 20 [.agg [.int .i64 f,.int .i64 u],.agg t.cells] H (.tup [.agg (t.xt (nmP f u)).cells,.bool (t.chg (nmP f u))]) H:=by
 induction ht with
 | @mk k nm s b kz hk hs hn hl hok ih=>
 intro hnb hsz
 rw [Tm.size] at hsz
 have hkl:=Yj kz
 rw [Tm.nb,Bool.and_eq_true,decide_eq_true_eq] at hnb
 obtain ⟨hnl,hnk⟩:=hnb
 have hnk:=ZdI hnk
 have hcn:=c38 hf hu (s:=nm) (by omega)
 rw [Tm.xt,Tm.chg]
 generalize nmP f u=g at ih hcn ⊢
 obtain ⟨nm',hnm'⟩:∃ nm',nm'=if k=2 then g nm else nm:=⟨_,rfl⟩
 obtain ⟨c0,hc0⟩:∃ c0,c0=(decide (k=2)&& !decide (g nm=nm)):=⟨_,rfl⟩
 rw [← hnm', ← hc0]
 have heq:=YB k 2
 have hne:=Znw nm' nm
 simp only [Tm.cells]
 refine Jw tOk fe20.ok (Zoj _ _ _ _ _ _ _ _) ?_ (by simp [ZM,frzG,Xr];rfl)
 by_cases hk2:k=2
 · rw [if_pos hk2] at hnm'
   rw [← hnm'] at hcn
   rw [decide_eq_true hk2, ← hnm',Bool.true_and] at hc0
   rw [← hc0] at hne
   rw [decide_eq_true hk2] at heq
   clear hc0
   cases c0
   · skip
     repeat' first|refine Jk ?_|refine Jc (hcn _) ?_|refine Js ?_|refine JA ?_|refine Ji ?_|refine JJ ?_|refine Jl ?_|refine Jx ?_|refine Jt ?_|refine Jb ?_ ?_|(apply qT (ty:=0);rfl;rfl;rfl)|(apply qF (ty:=0);rfl;rfl;rfl)|refine Jz ?_ ?_|refine Jo ?_|intro hb
     refine Wp.while (fun m tm H => ∃ (i : Nat) (base : TM) (out : PV) (lv : List Nat) (nt : Nat), i + m = kz.length ∧ ApV true 4 (Za (xtL g (kz.take i))) out lv nt ∧
       tm=ovr base [(2,.ptr 0 2 0 0),(4,.ptr 2 4 0 0),(6,.ptr 3 4 0 0),(7,.bool (false||U1 g (kz.take i))),(28,slV b 4 (Za kz)),(29,.int .i64 (kz.length:Int)),(30,.int .i64 (i:Int))]∧H=⟨[.cells 2 [[.int .i64 f,.int .i64 u]],.cells 4 [[.int .i64 k,.str nm,.int .i64 s,slV b 4 (Za kz)]],.cells 4 [zcT],.cells 4 [[.int .i64 k,.str nm',.int .i64 s,out]]],0,lv,nt⟩)
      (fun m tm H hI=>Wp.drop ?_) kz.length _ _ ⟨0,_,_,_,_,by omega,.nil _ _ rfl,Zf ⟨rfl,rfl,rfl,rfl,rfl,Zd (by rw [Zb]),rfl,trivial⟩,rfl⟩
     obtain ⟨i,base,out,lv,nt,hi,hA,rfl,rfl⟩:=hI
     clear hcn hne heq
     by_cases hlt:i<kz.length
     · obtain ⟨x, hx⟩ : ∃ x, kz[i]? = some x := ⟨kz[i], by simp⟩
       have hm:x∈kz:=List.mem_of_getElem? hx
       have hle:=ZR hm
       have hc:=ih x hm (hnk x hm) (by omega)
       have hsx:=ZbY g hx
       have hsc:=Qj g hx
       obtain ⟨o1,lv1,nt1,hap1,hA1⟩:=QS hA (x.xt g) (by rw [Zeg,List.length_take];omega)
       obtain ⟨kt,rfl⟩:=XO hA1 fun e=>by
        have:=congrArg List.length e
        rw [Zb] at this
        simp at this
       rw [← hsx] at hA1 hap1
       have hlx:=Zt (i:Int) (kz.length:Int)
       rw [decide_eq_true (by omega)] at hlx
       have hBU:Yq 4 (.cells 4 [[.int .i64 k,.str nm,.int .i64 s,slV b 4 (Za kz)]])=true:=by simp [Yq,ZL,under,Zg]
       have hBU2:Yq 4 (.cells 4 [[.int .i64 k,.str nm',.int .i64 s,.sl (.tok kt) 4 (Za (xtL g (kz.take (i+1))))]])=true:=by simp [Yq,ZL,under]
       clear ih hnk
       generalize x.chg g=q at hc hsc
       generalize U1 g (kz.take i)=C at hsc ⊢
       generalize x.xt g=U at hc hap1
       obtain ⟨k',nm1,s',b',kz'⟩:=x
       obtain ⟨k2,nm2,s2,b2,kz2⟩:=U
       have hj:=Zk hx
       simp only [Tm.cells] at hc hap1
       cases C<;>cases q
       all_goals
        repeat' first|refine Jk ?_|refine Jc (hc _) ?_|refine Js ?_|refine JA ?_|refine Ji ?_|refine JJ ?_|refine Jl ?_|refine Jx ?_|refine Jt ?_|refine Jb ?_ ?_|(apply qT (ty:=0);rfl;rfl;rfl)|(apply qF (ty:=0);rfl;rfl;rfl)|refine Jz ?_ ?_|refine Jo ?_|intro hb
        refine DropQ.go [(2,.ptr 0 2 0 0),(4,.ptr 2 4 0 0),(6,.ptr 3 4 0 0),(7,.bool (false||U1 g (kz.take (i+1)))),(28,slV b 4 (Za kz)),(29,.int .i64 (kz.length:Int)),(30,.int .i64 ((i+1:Nat):Int))] ?_ ?_ rfl ?_ ?_
        · exact ⟨rfl,rfl,rfl,(by rw [hsc];rfl),rfl,rfl,Zd (Zc (n:=i+1) (by omega)),trivial⟩
        · simp [Zg,under]
        · show (Yq 4 _ && (Yq 4 _ && (Yq 4 _ && (Yq 4 _ && true)))) = true
          rw [hBU,hBU2]
          rfl
        · exact LoopI.go (m-1) (by omega) ⟨i+1,_,_,lv1,nt1,by omega,hA1,rfl,rfl⟩
     · have e : i = kz.length := by omega
       subst e
       rw [List.take_length] at hA
       clear ih hnk
       have hlx:=Zt (kz.length:Int) (kz.length:Int)
       rw [decide_eq_false (by omega)] at hlx
       have hfr:=fun m H=>ZbM hA k nm' s (false||U1 g kz) m H
       rw [List.take_length]
       generalize U1 g kz=C at hfr ⊢
       rcases Wi hA with rfl|⟨kt,rfl⟩<;>cases C
       all_goals
        repeat' first|refine Jk ?_|refine Js ?_|refine JA ?_|refine Ji ?_|refine JJ ?_|refine Jl ?_|refine Jx ?_|refine Jt ?_|refine Jb ?_ ?_|(apply qT (ty:=0);rfl;rfl;rfl)|(apply qF (ty:=0);rfl;rfl;rfl)|refine Jz ?_ ?_|refine Jo ?_|intro hb
        all_goals exact hfr _ _
   · skip
     repeat' first|refine Jk ?_|refine Jc (hcn _) ?_|refine Js ?_|refine JA ?_|refine Ji ?_|refine JJ ?_|refine Jl ?_|refine Jx ?_|refine Jt ?_|refine Jb ?_ ?_|(apply qT (ty:=0);rfl;rfl;rfl)|(apply qF (ty:=0);rfl;rfl;rfl)|refine Jz ?_ ?_|refine Jo ?_|intro hb
     refine Wp.while (fun m tm H => ∃ (i : Nat) (base : TM) (out : PV) (lv : List Nat) (nt : Nat), i + m = kz.length ∧ ApV true 4 (Za (xtL g (kz.take i))) out lv nt ∧
       tm=ovr base [(2,.ptr 0 2 0 0),(4,.ptr 2 4 0 0),(6,.ptr 3 4 0 0),(7,.bool (true||U1 g (kz.take i))),(28,slV b 4 (Za kz)),(29,.int .i64 (kz.length:Int)),(30,.int .i64 (i:Int))]∧H=⟨[.cells 2 [[.int .i64 f,.int .i64 u]],.cells 4 [[.int .i64 k,.str nm,.int .i64 s,slV b 4 (Za kz)]],.cells 4 [zcT],.cells 4 [[.int .i64 k,.str nm',.int .i64 s,out]]],0,lv,nt⟩)
      (fun m tm H hI=>Wp.drop ?_) kz.length _ _ ⟨0,_,_,_,_,by omega,.nil _ _ rfl,Zf ⟨rfl,rfl,rfl,rfl,rfl,Zd (by rw [Zb]),rfl,trivial⟩,rfl⟩
     obtain ⟨i,base,out,lv,nt,hi,hA,rfl,rfl⟩:=hI
     clear hcn hne heq
     by_cases hlt:i<kz.length
     · obtain ⟨x, hx⟩ : ∃ x, kz[i]? = some x := ⟨kz[i], by simp⟩
       have hm:x∈kz:=List.mem_of_getElem? hx
       have hle:=ZR hm
       have hc:=ih x hm (hnk x hm) (by omega)
       have hsx:=ZbY g hx
       have hsc:=Qj g hx
       obtain ⟨o1,lv1,nt1,hap1,hA1⟩:=QS hA (x.xt g) (by rw [Zeg,List.length_take];omega)
       obtain ⟨kt,rfl⟩:=XO hA1 fun e=>by
        have:=congrArg List.length e
        rw [Zb] at this
        simp at this
       rw [← hsx] at hA1 hap1
       have hlx:=Zt (i:Int) (kz.length:Int)
       rw [decide_eq_true (by omega)] at hlx
       have hBU:Yq 4 (.cells 4 [[.int .i64 k,.str nm,.int .i64 s,slV b 4 (Za kz)]])=true:=by simp [Yq,ZL,under,Zg]
       have hBU2:Yq 4 (.cells 4 [[.int .i64 k,.str nm',.int .i64 s,.sl (.tok kt) 4 (Za (xtL g (kz.take (i+1))))]])=true:=by simp [Yq,ZL,under]
       clear ih hnk
       generalize x.chg g=q at hc hsc
       generalize U1 g (kz.take i)=C at hsc ⊢
       generalize x.xt g=U at hc hap1
       obtain ⟨k',nm1,s',b',kz'⟩:=x
       obtain ⟨k2,nm2,s2,b2,kz2⟩:=U
       have hj:=Zk hx
       simp only [Tm.cells] at hc hap1
       cases C<;>cases q
       all_goals
        repeat' first|refine Jk ?_|refine Jc (hc _) ?_|refine Js ?_|refine JA ?_|refine Ji ?_|refine JJ ?_|refine Jl ?_|refine Jx ?_|refine Jt ?_|refine Jb ?_ ?_|(apply qT (ty:=0);rfl;rfl;rfl)|(apply qF (ty:=0);rfl;rfl;rfl)|refine Jz ?_ ?_|refine Jo ?_|intro hb
        refine DropQ.go [(2,.ptr 0 2 0 0),(4,.ptr 2 4 0 0),(6,.ptr 3 4 0 0),(7,.bool (true||U1 g (kz.take (i+1)))),(28,slV b 4 (Za kz)),(29,.int .i64 (kz.length:Int)),(30,.int .i64 ((i+1:Nat):Int))] ?_ ?_ rfl ?_ ?_
        · exact ⟨rfl,rfl,rfl,(by rw [hsc];rfl),rfl,rfl,Zd (Zc (n:=i+1) (by omega)),trivial⟩
        · simp [Zg,under]
        · show (Yq 4 _ && (Yq 4 _ && (Yq 4 _ && (Yq 4 _ && true)))) = true
          rw [hBU,hBU2]
          rfl
        · exact LoopI.go (m-1) (by omega) ⟨i+1,_,_,lv1,nt1,by omega,hA1,rfl,rfl⟩
     · have e : i = kz.length := by omega
       subst e
       rw [List.take_length] at hA
       clear ih hnk
       have hlx:=Zt (kz.length:Int) (kz.length:Int)
       rw [decide_eq_false (by omega)] at hlx
       have hfr:=fun m H=>ZbM hA k nm' s (true||U1 g kz) m H
       rw [List.take_length]
       generalize U1 g kz=C at hfr ⊢
       rcases Wi hA with rfl|⟨kt,rfl⟩<;>cases C
       all_goals
        repeat' first|refine Jk ?_|refine Js ?_|refine JA ?_|refine Ji ?_|refine JJ ?_|refine Jl ?_|refine Jx ?_|refine Jt ?_|refine Jb ?_ ?_|(apply qT (ty:=0);rfl;rfl;rfl)|(apply qF (ty:=0);rfl;rfl;rfl)|refine Jz ?_ ?_|refine Jo ?_|intro hb
        all_goals exact hfr _ _
 · rw [if_neg hk2] at hnm'
   subst hnm'
   rw [decide_eq_false hk2,Bool.false_and] at hc0
   subst hc0
   rw [decide_eq_false hk2] at heq
   clear hne
   have hne:=hnl
   repeat' first|refine Jk ?_|refine Js ?_|refine JA ?_|refine Ji ?_|refine JJ ?_|refine Jl ?_|refine Jx ?_|refine Jt ?_|refine Jb ?_ ?_|(apply qT (ty:=0);rfl;rfl;rfl)|(apply qF (ty:=0);rfl;rfl;rfl)|refine Jz ?_ ?_|refine Jo ?_|intro hb
   refine Wp.while (fun m tm H => ∃ (i : Nat) (base : TM) (out : PV) (lv : List Nat) (nt : Nat), i + m = kz.length ∧ ApV true 4 (Za (xtL g (kz.take i))) out lv nt ∧
     tm=ovr base [(2,.ptr 0 2 0 0),(4,.ptr 2 4 0 0),(6,.ptr 3 4 0 0),(7,.bool (false||U1 g (kz.take i))),(28,slV b 4 (Za kz)),(29,.int .i64 (kz.length:Int)),(30,.int .i64 (i:Int))]∧H=⟨[.cells 2 [[.int .i64 f,.int .i64 u]],.cells 4 [[.int .i64 k,.str nm',.int .i64 s,slV b 4 (Za kz)]],.cells 4 [zcT],.cells 4 [[.int .i64 k,.str nm',.int .i64 s,out]]],0,lv,nt⟩)
    (fun m tm H hI=>Wp.drop ?_) kz.length _ _ ⟨0,_,_,_,_,by omega,.nil _ _ rfl,Zf ⟨rfl,rfl,rfl,rfl,rfl,Zd (by rw [Zb]),rfl,trivial⟩,rfl⟩
   obtain ⟨i,base,out,lv,nt,hi,hA,rfl,rfl⟩:=hI
   clear hcn hne heq
   by_cases hlt:i<kz.length
   · obtain ⟨x, hx⟩ : ∃ x, kz[i]? = some x := ⟨kz[i], by simp⟩
     have hm:x∈kz:=List.mem_of_getElem? hx
     have hle:=ZR hm
     have hc:=ih x hm (hnk x hm) (by omega)
     have hsx:=ZbY g hx
     have hsc:=Qj g hx
     obtain ⟨o1,lv1,nt1,hap1,hA1⟩:=QS hA (x.xt g) (by rw [Zeg,List.length_take];omega)
     obtain ⟨kt,rfl⟩:=XO hA1 fun e=>by
      have:=congrArg List.length e
      rw [Zb] at this
      simp at this
     rw [← hsx] at hA1 hap1
     have hlx:=Zt (i:Int) (kz.length:Int)
     rw [decide_eq_true (by omega)] at hlx
     have hBU:Yq 4 (.cells 4 [[.int .i64 k,.str nm',.int .i64 s,slV b 4 (Za kz)]])=true:=by simp [Yq,ZL,under,Zg]
     have hBU2:Yq 4 (.cells 4 [[.int .i64 k,.str nm',.int .i64 s,.sl (.tok kt) 4 (Za (xtL g (kz.take (i+1))))]])=true:=by simp [Yq,ZL,under]
     clear ih hnk
     generalize x.chg g=q at hc hsc
     generalize U1 g (kz.take i)=C at hsc ⊢
     generalize x.xt g=U at hc hap1
     obtain ⟨k',nm1,s',b',kz'⟩:=x
     obtain ⟨k2,nm2,s2,b2,kz2⟩:=U
     have hj:=Zk hx
     simp only [Tm.cells] at hc hap1
     cases C<;>cases q
     all_goals
      repeat' first|refine Jk ?_|refine Jc (hc _) ?_|refine Js ?_|refine JA ?_|refine Ji ?_|refine JJ ?_|refine Jl ?_|refine Jx ?_|refine Jt ?_|refine Jb ?_ ?_|(apply qT (ty:=0);rfl;rfl;rfl)|(apply qF (ty:=0);rfl;rfl;rfl)|refine Jz ?_ ?_|refine Jo ?_|intro hb
      refine DropQ.go [(2,.ptr 0 2 0 0),(4,.ptr 2 4 0 0),(6,.ptr 3 4 0 0),(7,.bool (false||U1 g (kz.take (i+1)))),(28,slV b 4 (Za kz)),(29,.int .i64 (kz.length:Int)),(30,.int .i64 ((i+1:Nat):Int))] ?_ ?_ rfl ?_ ?_
      · exact ⟨rfl,rfl,rfl,(by rw [hsc];rfl),rfl,rfl,Zd (Zc (n:=i+1) (by omega)),trivial⟩
      · simp [Zg,under]
      · show (Yq 4 _ && (Yq 4 _ && (Yq 4 _ && (Yq 4 _ && true)))) = true
        rw [hBU,hBU2]
        rfl
      · exact LoopI.go (m-1) (by omega) ⟨i+1,_,_,lv1,nt1,by omega,hA1,rfl,rfl⟩
   · have e : i = kz.length := by omega
     subst e
     rw [List.take_length] at hA
     clear ih hnk
     have hlx:=Zt (kz.length:Int) (kz.length:Int)
     rw [decide_eq_false (by omega)] at hlx
     have hfr:=fun m H=>ZbM hA k nm' s (false||U1 g kz) m H
     rw [List.take_length]
     generalize U1 g kz=C at hfr ⊢
     rcases Wi hA with rfl|⟨kt,rfl⟩<;>cases C
     all_goals
      repeat' first|refine Jk ?_|refine Js ?_|refine JA ?_|refine Ji ?_|refine JJ ?_|refine Jl ?_|refine Jx ?_|refine Jt ?_|refine Jb ?_ ?_|(apply qT (ty:=0);rfl;rfl;rfl)|(apply qF (ty:=0);rfl;rfl;rfl)|refine Jz ?_ ?_|refine Jo ?_|intro hb
      all_goals exact hfr _ _
end Go.Vm.Seat
namespace Go.Vm
variable {α:Type} {i:Nat}
theorem Zdw {f u:Int} (hf:0≤f∧f≤9) (hu:0≤u∧u≤9) {s:Bs} (hs:s.length≤40):(nmP f u s).length≤41:=by
 have a1:(Lib.itoa (Yb f u f)).length=1:=by
  have:=Uz hf hu hf
  rw [WV this.1 this.2];rfl
 have a2:(Lib.itoa (Yb f u u)).length=1:=by
  have:=Uz hf hu hu
  rw [WV this.1 this.2];rfl
 have h:=List.length_take (i:=(Ys s).toNat+1) (l:=s)
 unfold nmP
 split
 · omega
 · split
   · rw [List.length_append];omega
   · split
     · rw [List.length_append];omega
     · omega
theorem ZlV {g:Bs→Bs} (hg:∀ s:Bs,s.length≤40→(g s).length≤41) {t:Tm} (ht:t.Ok):t.nb=true→(t.xt g).Ok:=by
 induction ht with
 | @mk k nm s b kz hk hs hn hl hok ih=>
 intro hnb
 rw [Tm.nb,Bool.and_eq_true,decide_eq_true_eq] at hnb
 have h2:=ZdI hnb.2
 rw [Tm.xt,QI]
 refine .mk hk hs ?_ (by rw [List.length_map];exact hl) fun z hz=>?_
 · have := hg nm hnb.1
   split
   · exact Nat.le_trans this (by decide)
   · exact hn
 · obtain ⟨x, hx, rfl⟩ := List.mem_map.1 hz
   exact ih x hx (h2 x hx)
mutual
theorem Zbk (g:Bs→Bs):∀ t:Tm,(t.xt g).size=t.size
 | .mk k nm s b kz=>by rw [Tm.xt,Tm.size,Tm.size,ZeK g kz]
theorem ZeK (g:Bs→Bs):∀ l:List Tm,Zl (xtL g l)=Zl l
 | []=>rfl
 |t::r=>by rw [xtL,Zl,Zl,Zbk g t,ZeK g r]
end
theorem ZZ (l:List α) (x:α):(l++ [x])[l.length]? = some x:=by
 rw [List.getElem?_append_right (Nat.le_refl _),Nat.sub_self];rfl
theorem Zj {l:List α} {x y:α} (h:l[i]? = some y):(l++ [x])[i]? = some y:=by
 rw [List.getElem?_append_left (Zx h)];exact h
theorem Z4 {l:List α} {y z:α} (h:l[i]? = some z):(l.set i y)[i]? = some y:=List.getElem?_set_self (Zx h)
theorem Ye {l:List α} {y z:α} {j:Nat} (hij:i≠j) (h:l[j]? = some z):(l.set i y)[j]? = some z:=by
 rw [List.getElem?_set_ne hij];exact h
structure TrOk (l:List Mo):Prop where
 len:l.length≤420
 tl:∀ m,m∈l→m.terms.length≤14
 ts:∀ m,m∈l→∀ t,t∈m.terms→t.Ok∧t.nb=true∧t.size≤1000
end Go.Vm
namespace Go.Vm.Seat
variable {b bx:List Box} {i j len off p:Nat} {x:Tm} {L:List Mo} {cs:List (List PV)} {c:List PV} {av tv v:PV} {go kd nu ro:Int} {tn:Bool} {ts:List Tm}
open Go.Proofs
theorem UB (h:b[p]? = some (.cells 4 [x.cells])):YK E0 41 (.ptr p 4 0 0) ⟨b,0,[],0⟩=some (.agg x.cells):=by
 obtain ⟨k,nm,s,f,kz⟩:=x
 exact Zaz rfl rfl (el:=[(Tm.mk k nm s f kz).cells]) ((Zo _ _).trans h) rfl rfl
theorem Zrk {y:Tm} (h:b[p]? = some (.cells 4 [x.cells])):Heap.wr ⟨b,0,[],0⟩ (.ptr p 4 0 0) y.cells=some ⟨b.set p (.cells 4 [y.cells]),0,[],0⟩:=by
 obtain ⟨k,nm,s,f,kz⟩:=x
 obtain ⟨k',nm',s',f',kz'⟩:=y
 have:=Zb5 (H:=⟨b,0,[],0⟩) (id:=p) (es:=4) (ix:=0) (off:=0) (el:=[(Tm.mk k nm s f kz).cells]) (cs:=(Tm.mk k' nm' s' f' kz').cells) ((Zo _ _).trans h) rfl (Nat.le_refl 4) (Nat.zero_le _)
 rw [this]
 simp [Tm.cells]
theorem Zlf {L:List Tm} {t u:Tm} (h:b[p]? = some (.cells 4 (Za L))) (hj:L[j]? = some u):Heap.wr ⟨b,0,[],0⟩ (.ptr p 4 j 0) t.cells=some ⟨b.set p (.cells 4 (Za (L.set j t))),0,[],0⟩:=
 Zoy (H:=⟨b,0,[],0⟩) ((Zo _ _).trans h) hj (Nat.zero_le _)
theorem Zby {f u:Int} (h:b[0]? = some (.cells 2 [[.int .i64 f,.int .i64 u]])):YK E0 52 (.ptr 0 2 0 0) ⟨b,0,[],0⟩=some (.agg [.int .i64 f,.int .i64 u]):=
 Zaz rfl rfl ((Zo _ _).trans h) rfl rfl
def mcl (kd nu ro:Int) (av:PV) (go:Int) (tv:PV):List PV:=[.int .i64 kd,.int .i64 nu,.int .i64 ro,av,.int .i64 go,tv]
def zcM:List PV:=[.int .i64 0,.int .i64 0,.int .i64 0,.nils,.int .i64 0,.nils]
theorem ZoU {v:Int} (h:b[p]? = some (.cells 6 cs)) (hc:cs[i]? = some c) (hv:c[off]? = some (.int .i64 v)):YK E0 3 (.ptr p 6 i off) ⟨b,0,[],0⟩=some (.int .i64 v):=
 ZeN (ti:=⟨.int .i64,1,8,.int .i64 0⟩) rfl rfl ((Zo _ _).trans h) ((Zo _ _).trans hc) ((Zo _ _).trans hv)
theorem Qo (h:b[p]? = some (.cells 6 cs)) (hc:cs[i]? = some c) (hv:c[off]? = some v):YK E0 32 (.ptr p 6 i off) ⟨b,0,[],0⟩=some v:=
 ZeN (ti:=⟨.slice 41,1,24,.nils⟩) rfl rfl ((Zo _ _).trans h) ((Zo _ _).trans hc) ((Zo _ _).trans hv)
theorem ZqJ {nu':Int} (h:b[1]? = some (.cells 6 cs)) (hc:cs[i]? = some (mcl kd nu ro av go tv)):Heap.wr ⟨b,0,[],0⟩ (.ptr 1 6 i 1) [.int .i64 nu']=some ⟨b.set 1 (.cells 6 (cs.set i (mcl kd nu' ro av go tv))),0,[],0⟩:=by
 rw [Zb5 (H:=⟨b,0,[],0⟩) ((Zo _ _).trans h) ((Zo _ _).trans hc) (by simp [mcl]) (Nat.zero_le _)]
 rfl
theorem Zoq {tv':PV} (h:b[1]? = some (.cells 6 cs)) (hc:cs[i]? = some (mcl kd nu ro av go tv)):Heap.wr ⟨b,0,[],0⟩ (.ptr 1 6 i 5) [tv']=some ⟨b.set 1 (.cells 6 (cs.set i (mcl kd nu ro av go tv'))),0,[],0⟩:=by
 rw [Zb5 (H:=⟨b,0,[],0⟩) ((Zo _ _).trans h) ((Zo _ _).trans hc) (by simp [mcl]) (Nat.zero_le _)]
 rfl
theorem ZlK (b:List Box) (kd nu ro go:Int) (av tv:PV):Heap.wr ⟨b++ [.cells 6 [zcM]],0,[],0⟩ (.ptr b.length 6 0 0) (mcl kd nu ro av go tv)=some ⟨b++ [.cells 6 [mcl kd nu ro av go tv]],0,[],0⟩:=by
 have h:=Zb5 (H:=⟨b++ [.cells 6 [zcM]],0,[],0⟩) (id:=b.length) (es:=6) (ix:=0) (off:=0) (el:=[zcM]) (cs:=mcl kd nu ro av go tv) (old:=zcM) (Vv _ _) rfl (Nat.le_refl 6) (Nat.zero_le _)
 rw [h]
 simp [mcl,zcM]
theorem Zpr {id:Nat} (hj:j<len):Zv E0 27 (.own id 6 0 len) (.int .i64 (j:Int))=some (.ptr id 6 j 0):=by
 have:Zv E0 27 (.own id 6 0 len) (.int .i64 (j:Int))=some (.ptr id 6 (0+j) 0):=ZiC rfl rfl rfl rfl hj
 rwa [Nat.zero_add] at this
theorem Zoh {id:Nat} (hj:j<len):Zv E0 32 (.own id 4 0 len) (.int .i64 (j:Int))=some (.ptr id 4 j 0):=by
 have:=ZnY (id:=id) (ix:=0) hj
 rwa [Nat.zero_add] at this
theorem ZfC:∀ l:List Mo,ZX (moC l)=some (moC l)
 | []=>rfl
 | ⟨kd, nu, ro, an, ag, go, tn, te⟩ :: l => by
   have:=ZfC l
   unfold moC at this ⊢
   simp only [List.map_cons,ZX,this,Mo.cells,UU,YI]
   rfl
theorem ZiK {l:List Mo} (h:l≠ []) (b:Bool):slV b 6 (moC l)= .sl .none 6 (moC l):=by
 cases l with
 |nil=>exact absurd rfl h
 | cons a r =>
   obtain ⟨kd,nu,ro,an,ag,go,tn,te⟩:=a
   exact Zm _ _ _ _
theorem ZoJ (hL:L≠ []) (hl:L.length≤1000) (H:Heap):ZV E0 27 27 (.sl .full 6 []) (.sl .none 6 (moC L)) H=some (.own H.bx.length 6 0 L.length,H.push (.cells 6 (moC L))):=by
 have he:=ZU (s:= .sl .full 6 []) ZaQ (ElV.slV true 6 (moC L)) (Zcr _) rfl rfl H
 rw [ZiK hL] at he
 have hn:=XE L
 cases hE:moC L with
 |nil=>rw [hE] at hn;exact absurd (List.length_eq_zero_iff.1 hn.symm) hL
 | cons y yr =>
   rw [hE] at hn he
   simp only [ZV,he,YN,List.nil_append]
   rw [if_pos (ZS (by rw [hn];simp;omega) (by decide))]
   simp only [List.length_nil,Nat.zero_add]
   rw [hn]
theorem Zmj (hL:L≠ []) (hl:L.length≤1000):CallOk E0 Tryz.prog 9 [.sl .none 6 (moC L)] hNil (.own 0 6 0 L.length) ⟨[.cells 6 (moC L)],0,[],0⟩:=by
 have hap:=ZoJ hL hl hNil
 refine YG (own:=fun d=>Nat.beq d 7) tOk fe9.ok ?_
 refine Wp.seq ?_
 repeat' first|refine Js ?_|refine JA ?_|refine Jt ?_|refine Jb ?_ ?_|refine Jo ?_|intro hb
 refine Zpd rfl rfl rfl rfl rfl hap ?_
 repeat' first|refine Js ?_|refine JA ?_|refine Jt ?_|refine Jb ?_ ?_|refine Jo ?_|intro hb
 all_goals exact RetE.ret rfl rfl rfl
theorem Zo1 (hL:L≠ []) (hl:L.length≤1000) (H:Heap):CallOk E0 Tryz.prog 9 [.sl .none 6 (moC L)] H (.own H.bx.length 6 0 L.length) {H with bx:=H.bx++ [.cells 6 (moC L)]}:=
 (Zmj hL hl).slot (L:=[]) (k:=0) (B:= .cells 6 (moC L)) (j:=0) (.inl rfl) (fun g g0 l hS _ x=>Zcu hS rfl x) (.inr ⟨6,moC L,[],rfl,by simp,ZfC L⟩) (fun g1 g2 v hS hs x=>V3 hs.1 hs.2 x)
def TV (bx:List Box) (tn:Bool) (ts:List Tm) (v:PV):Prop:=(ts= []∧v=slV tn 4 [])∨(ts≠ []∧∃ k,v= .own k 4 0 ts.length∧bx[k]? = some (.cells 4 (Za ts)))
def MoW (bx:List Box) (m:Mo) (c:List PV):Prop:=∃ tv,TV bx m.tn m.terms tv∧c=mcl m.kind m.num m.role (slV m.an 1 (Y1 m.agents)) m.goal tv
theorem TV.mono {bx':List Box} (h:TV bx tn ts v) (h1:bx[1]? = some (.cells 6 cs)) (hk:∀ k,k<bx.length→k≠1→bx'[k]? = bx[k]?):TV bx' tn ts v:=by
 rcases h with h|⟨h2,k,h3,h4⟩
 · exact .inl h
 · refine .inr ⟨h2, k, h3, ?_⟩
   rw [hk k (Zx h4) fun e=>?_]
   · exact h4
   · subst e
     rw [h1] at h4
     cases h4
theorem MoW.mono {bx bx':List Box} {cs:List (List PV)} {m:Mo} {c:List PV} (h:MoW bx m c) (h1:bx[1]? = some (.cells 6 cs)) (hk:∀ k,k<bx.length→k≠1→bx'[k]? = bx[k]?):MoW bx' m c:=by
 obtain ⟨tv,a,b⟩:=h
 exact ⟨tv,a.mono h1 hk,b⟩
theorem Wl (m:Nat) (H:Heap) (b:Bool) (es:Nat) (el:List (List PV)):frzC m H (slV b es el)=some (slV b es el):=by
 cases el with
 | nil =>
   cases b
   · rw [Zq];rfl
   · rw [Zh];rfl
 |cons c r=>rw [Zm];rfl
theorem TV.frz (h:TV bx tn ts v):frzC 0 ⟨bx,0,[],0⟩ v=some (slV tn 4 (Za ts)):=by
 rcases h with ⟨rfl,rfl⟩|⟨h2,k,rfl,h4⟩
 · exact Wl _ _ _ _ _
 · have hn : nth bx k = some (.cells 4 (Za ts)) := (Zo _ _).trans h4
   simp only [frzC,Nat.not_lt_zero,if_false,hn]
   rw [if_pos ⟨trivial,by rw [Zb];omega⟩,List.drop_zero, ← Zb ts,List.take_length,X1,ZeW h2]
theorem MoW.frz {bx:List Box} {m:Mo} {c:List PV} (h:MoW bx m c):Wf 0 ⟨bx,0,[],0⟩ c=some m.cells:=by
 obtain ⟨tv,a,rfl⟩:=h
 have ha:=a.frz
 have h3:=Wl 0 ⟨bx,0,[],0⟩ m.an 1 (Y1 m.agents)
 simp only [mcl,Wf,ha,h3]
 rfl
end Go.Vm.Seat
namespace Go.Vm
end Go.Vm
namespace Go.Vm.Seat
open Go.Proofs
