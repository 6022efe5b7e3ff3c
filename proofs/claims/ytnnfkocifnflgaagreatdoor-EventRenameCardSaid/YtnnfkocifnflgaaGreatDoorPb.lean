/-
  Two sessions are exchanged in a term (the second text).
-/
import Derived.Test.YtnnfkocifnflgaaGreatDoorOy
set_option maxHeartbeats 0
set_option maxRecDepth 100000
namespace Go.Vm.Seat
variable {s:Bs} {f u:Int}
open Go.Proofs
theorem Zpz {n:Int} (h0':0≤n) (h1':n≤9):∀ H,CallOk E0 Tryz.prog 72 [.int .i64 n] H (.str (Lib.itoa n)) H:=by
 rw [WG h0' h1']
 rcases (show n=0∨n=1∨n=2∨n=3∨n=4∨n=5∨n=6∨n=7∨n=8∨n=9 by omega) with rfl|rfl|rfl|rfl|rfl|rfl|rfl|rfl|rfl|rfl
 all_goals
  refine Jw tOk fe72.ok rfl ?_
  repeat' first|refine Js ?_|refine Ji ?_|(apply qCv;rfl;rfl;rfl;assumption;exact IsV.any _)|refine Jt ?_|refine Jb ?_ ?_|refine Jo ?_|refine JB ?_|refine JD ?_|(apply dCv;rfl;rfl;rfl;assumption;exact IsV.any _;rfl)|(apply dT (ty:=4);rfl;rfl;rfl;rfl)|(apply dF (ty:=4);rfl;rfl;rfl;rfl)|(apply dB (ty:=4);rfl;rfl;rfl;rfl)|refine Jh ?_|(apply Wp.draw tOk follows;kernel_rfl)|intro hb
  all_goals rfl
theorem Zoq (c:UInt8) (n:Int):Xs E0 .lss 5 (.int .u8 (c.toNat:Int)) (.int .u8 n)=some (.bool (decide ((c.toNat:Int)<n))):=rfl
theorem ZoG (c:UInt8) (n:Int):Xs E0 .gtr 5 (.int .u8 (c.toNat:Int)) (.int .u8 n)=some (.bool (decide (n<(c.toNat:Int)))):=rfl
theorem ZnT (c:UInt8):Xs E0 .neq 5 (.int .u8 (c.toNat:Int)) (.int .u8 35)=some (.bool (!decide (c=35))):=by
 have e:((c.toNat:Int)==35)=decide (c=35):=by
  rw [Bool.eq_iff_iff]
  simp only [beq_iff_eq,decide_eq_true_eq]
  rw [← UInt8.toNat_inj]
  show _↔c.toNat=35
  omega
 show some (PV.bool (!((c.toNat:Int)==35)))=_
 rw [e]
theorem Zhc (h:2≤s.length):Zck s=decide (s.take 2= [101,35]):=by
 match s,h with
 |a::b::r,_=>simp [Zck]
theorem Zld (h:s.length<2):∀ H,CallOk E0 Tryz.prog 40 [.str s,.int .i64 f,.int .i64 u] H (.str s) H:=by
 have q1:=Zt (s.length:Int) 2
 rw [decide_eq_true (by omega)] at q1
 have q2:=QI (s.length:Int) 2
 rw [decide_eq_false (by omega)] at q2
 refine Jw tOk fe40.ok rfl ?_
 repeat' first|refine Jk ?_|refine JS ?_|refine JX ?_|refine Ji ?_|(apply qCv;rfl;rfl;rfl;assumption;exact IsV.any _)|refine Jl ?_|refine Jt ?_|refine Jb ?_ ?_|refine Jo ?_|(apply dK;rfl;rfl;rfl)|(apply dSl;rfl;rfl;rfl;rfl;rfl;rfl;assumption;exact IsV.any _;rfl)|(apply dXi;rfl;rfl;rfl;rfl;assumption;exact IsV.any _;rfl)|refine JD ?_|(apply dCv;rfl;rfl;rfl;assumption;exact IsV.any _;rfl)|(apply dLn;rfl;rfl;rfl;rfl;rfl)|(apply dT (ty:=4);rfl;rfl;rfl;rfl)|(apply dF (ty:=4);rfl;rfl;rfl;rfl)|(apply dB (ty:=4);rfl;rfl;rfl;rfl)|refine Jh ?_|(apply Wp.draw tOk follows;kernel_rfl)|intro hb
 all_goals rfl
theorem Zk9 (hf:0≤f∧f≤9) (hu:0≤u∧u≤9) {p:Bs} {a c:UInt8} (hp:p.length≤100000):∀ H,CallOk E0 Tryz.prog 40 [.str (p++ [a,c]),.int .i64 f,.int .i64 u] H (.str (if Zck (p++ [a,c])=true∨a≠35∨c.toNat<48∨57<c.toNat then p++ [a,c] else (p++ [a])++Lib.itoa (Yo f u ((c.toNat:Int)-48)))) H:=by
 obtain ⟨e1,e2,e3,e4⟩:=ZaQ p a c
 obtain ⟨s,es⟩:∃ s,s=p++ [a,c]:=⟨_,rfl⟩
 rw [← es] at e1 e4 ⊢
 have ga:s[p.length]? = some a:=by rw [es,List.getElem?_append_right (Nat.le_refl _),Nat.sub_self];rfl
 have gc:s[p.length+1]? = some c:=by rw [es,List.getElem?_append_right (by omega),Nat.add_sub_cancel_left];rfl
 have q1:=Zt (s.length:Int) 2
 rw [decide_eq_false (by omega)] at q1
 have q2:=QI (s.length:Int) 2
 rw [decide_eq_true (by omega)] at q2
 have q3:=ZdF (s:=s) (k:=2) (by omega)
 have q4:=ZhE (s.take 2) [101,35]
 rw [← Zhc (by omega)] at q4
 have q5:Xs E0 .sub 3 (.int .i64 (s.length:Int)) (.int .i64 2)=some (.int .i64 (p.length:Int)):=by
  rw [Zet (by omega) (by omega)]
  congr 2
  omega
 have q6:Xs E0 .sub 3 (.int .i64 (s.length:Int)) (.int .i64 1)=some (.int .i64 ((p.length+1:Nat):Int)):=by
  rw [Zet (by omega) (by omega)]
  congr 2
  omega
 have x1:=Zj1 ga
 have x2:=Zj1 gc
 have q7:=ZnT a
 have q8:=Zoq c 48
 have q9:=ZoG c 57
 have hs1:=ZdF (s:=s) (k:=p.length+1) (by omega)
 rw [show p.length+1=s.length-1 by omega,e4] at hs1
 have hs1:Xj E0 9 (.str s) none (some (.int .i64 ((p.length+1:Nat):Int))) none=some (.str (p++ [a])):=by
  rw [show p.length+1=s.length-1 by omega]
  exact hs1
 have hla:(p++ [a]).length=p.length+1:=by simp
 clear e1 e2 e3 e4 es
 generalize p++ [a]=T at hs1 hla ⊢
 refine Jw tOk fe40.ok rfl ?_
 cases ho:Zck s with
 | true =>
   rw [if_pos (.inl rfl)]
   rw [ho] at q4
   repeat' first|refine Jk ?_|refine JS ?_|refine JX ?_|refine Ji ?_|(apply qCv;rfl;rfl;rfl;assumption;exact IsV.any _)|(apply qLe;rfl;rfl;rfl;assumption;exact IsV.any _)|refine Jl ?_|refine Jt ?_|refine Jb ?_ ?_|refine Jo ?_|(apply dK;rfl;rfl;rfl)|(apply dSl;rfl;rfl;rfl;rfl;rfl;rfl;assumption;exact IsV.any _;rfl)|(apply dXi;rfl;rfl;rfl;rfl;assumption;exact IsV.any _;rfl)|refine JD ?_|(apply dCv;rfl;rfl;rfl;assumption;exact IsV.any _;rfl)|(apply dLe;rfl;rfl;rfl;assumption;exact IsV.any _;rfl)|(apply dLn;rfl;rfl;rfl;rfl;rfl)|(apply dT (ty:=4);rfl;rfl;rfl;rfl)|(apply dF (ty:=4);rfl;rfl;rfl;rfl)|(apply dB (ty:=4);rfl;rfl;rfl;rfl)|refine Jh ?_|(apply Wp.draw tOk follows;kernel_rfl)|intro hb
   all_goals rfl
 | false =>
   rw [ho] at q4
   by_cases c1:a=35
   rotate_left
   · rw [if_pos (.inr (.inl c1))]
     rw [decide_eq_false c1,Bool.not_false] at q7
     repeat' first|refine Jk ?_|refine JS ?_|refine JX ?_|refine Ji ?_|(apply qCv;rfl;rfl;rfl;assumption;exact IsV.any _)|(apply qLe;rfl;rfl;rfl;assumption;exact IsV.any _)|refine Jl ?_|refine Jt ?_|refine Jb ?_ ?_|refine Jo ?_|(apply dK;rfl;rfl;rfl)|(apply dSl;rfl;rfl;rfl;rfl;rfl;rfl;assumption;exact IsV.any _;rfl)|(apply dXi;rfl;rfl;rfl;rfl;assumption;exact IsV.any _;rfl)|refine JD ?_|(apply dCv;rfl;rfl;rfl;assumption;exact IsV.any _;rfl)|(apply dLe;rfl;rfl;rfl;assumption;exact IsV.any _;rfl)|(apply dLn;rfl;rfl;rfl;rfl;rfl)|(apply dT (ty:=4);rfl;rfl;rfl;rfl)|(apply dF (ty:=4);rfl;rfl;rfl;rfl)|(apply dB (ty:=4);rfl;rfl;rfl;rfl)|refine Jh ?_|(apply Wp.draw tOk follows;kernel_rfl)|intro hb
     all_goals rfl
   rw [decide_eq_true c1,Bool.not_true] at q7
   by_cases c2:c.toNat<48
   · rw [if_pos (.inr (.inr (.inl c2)))]
     rw [decide_eq_true (by omega)] at q8
     repeat' first|refine Jk ?_|refine JS ?_|refine JX ?_|refine Ji ?_|(apply qCv;rfl;rfl;rfl;assumption;exact IsV.any _)|(apply qLe;rfl;rfl;rfl;assumption;exact IsV.any _)|refine Jl ?_|refine Jt ?_|refine Jb ?_ ?_|refine Jo ?_|(apply dK;rfl;rfl;rfl)|(apply dSl;rfl;rfl;rfl;rfl;rfl;rfl;assumption;exact IsV.any _;rfl)|(apply dXi;rfl;rfl;rfl;rfl;assumption;exact IsV.any _;rfl)|refine JD ?_|(apply dCv;rfl;rfl;rfl;assumption;exact IsV.any _;rfl)|(apply dLe;rfl;rfl;rfl;assumption;exact IsV.any _;rfl)|(apply dLn;rfl;rfl;rfl;rfl;rfl)|(apply dT (ty:=4);rfl;rfl;rfl;rfl)|(apply dF (ty:=4);rfl;rfl;rfl;rfl)|(apply dB (ty:=4);rfl;rfl;rfl;rfl)|refine Jh ?_|(apply Wp.draw tOk follows;kernel_rfl)|intro hb
     all_goals rfl
   rw [decide_eq_false (by omega)] at q8
   by_cases c3:57<c.toNat
   · rw [if_pos (.inr (.inr (.inr c3)))]
     rw [decide_eq_true (by omega)] at q9
     repeat' first|refine Jk ?_|refine JS ?_|refine JX ?_|refine Ji ?_|(apply qCv;rfl;rfl;rfl;assumption;exact IsV.any _)|(apply qLe;rfl;rfl;rfl;assumption;exact IsV.any _)|refine Jl ?_|refine Jt ?_|refine Jb ?_ ?_|refine Jo ?_|(apply dK;rfl;rfl;rfl)|(apply dSl;rfl;rfl;rfl;rfl;rfl;rfl;assumption;exact IsV.any _;rfl)|(apply dXi;rfl;rfl;rfl;rfl;assumption;exact IsV.any _;rfl)|refine JD ?_|(apply dCv;rfl;rfl;rfl;assumption;exact IsV.any _;rfl)|(apply dLe;rfl;rfl;rfl;assumption;exact IsV.any _;rfl)|(apply dLn;rfl;rfl;rfl;rfl;rfl)|(apply dT (ty:=4);rfl;rfl;rfl;rfl)|(apply dF (ty:=4);rfl;rfl;rfl;rfl)|(apply dB (ty:=4);rfl;rfl;rfl;rfl)|refine Jh ?_|(apply Wp.draw tOk follows;kernel_rfl)|intro hb
     all_goals rfl
   rw [decide_eq_false (by omega)] at q9
   rw [if_neg (fun h=>h.elim (fun h=>by cases h) fun h=>h.elim (fun h=>h c1) fun h=>h.elim c2 c3)]
   obtain ⟨n,hn,hn9⟩:∃ n:Nat,c.toNat=48+n∧n<10:=⟨c.toNat-48,by omega,by omega⟩
   have en:(c.toNat:Int)-48=(n:Int):=by omega
   rw [en]
   have hw8:∀ n:Fin 10,IntKind.u8.wrap (((48+n.val:Nat):Int)-48)=(n.val:Int):=by decide
   have k1:Xs E0 .sub 5 (.int .u8 (c.toNat:Int)) (.int .u8 48)=some (.int .u8 (n:Int)):=by
    show some (PV.int .u8 (IntKind.u8.wrap ((c.toNat:Int)-48)))=_
    rw [hn]
    exact congrArg (fun z=>some (PV.int .u8 z)) (hw8 ⟨n,hn9⟩)
   have k2:ZbZ E0 5 3 (.int .u8 (n:Int))=some (.int .i64 (n:Int)):=by
    show some (PV.int .i64 (IntKind.i64.wrap (n:Int)))=_
    rw [IntWalk.i64_in _ (by omega)]
   have k3:=c19 (n:Int) f u
   have sw:=U5 hf hu (n:=(n:Int)) (by omega)
   have k4:=Zpz sw.1 sw.2
   have k5:=ZfU (a:=T) (b:=Lib.itoa (Yo f u (n:Int))) (by rw [Qx sw,hla];omega)
   clear hw8 hn en sw
   generalize Lib.itoa (Yo f u (n:Int))=D at k4 k5 ⊢
   generalize Yo f u (n:Int)=w at k3 k4
   repeat' first|refine Jk ?_|refine Jc (k3 _) ?_|refine Jc (k4 _) ?_|refine JS ?_|refine JX ?_|refine Ji ?_|(apply qCv;rfl;rfl;rfl;assumption;exact IsV.any _)|(apply qLe;rfl;rfl;rfl;assumption;exact IsV.any _)|refine Jl ?_|refine Jt ?_|refine Jb ?_ ?_|refine Jo ?_|(apply dK;rfl;rfl;rfl)|refine Jd (k3 _) ?_|refine Jd (k4 _) ?_|(apply dSl;rfl;rfl;rfl;rfl;rfl;rfl;assumption;exact IsV.any _;rfl)|(apply dXi;rfl;rfl;rfl;rfl;assumption;exact IsV.any _;rfl)|refine JD ?_|(apply dCv;rfl;rfl;rfl;assumption;exact IsV.any _;rfl)|(apply dLe;rfl;rfl;rfl;assumption;exact IsV.any _;rfl)|(apply dLn;rfl;rfl;rfl;rfl;rfl)|(apply dT (ty:=4);rfl;rfl;rfl;rfl)|(apply dF (ty:=4);rfl;rfl;rfl;rfl)|(apply dB (ty:=4);rfl;rfl;rfl;rfl)|refine Jh ?_|(apply Wp.draw tOk follows;kernel_rfl)|intro hb
   all_goals rfl
theorem c40 (hf:0≤f∧f≤9) (hu:0≤u∧u≤9) (hs:s.length≤100000):∀ H,CallOk E0 Tryz.prog 40 [.str s,.int .i64 f,.int .i64 u] H (.str (nmR f u s)) H:=by
 by_cases h:s.length<2
 · unfold nmR
   rw [if_pos (.inl h)]
   exact Zld h
 · obtain ⟨p, a, c, rfl⟩ := ZcQ s (by omega)
   obtain ⟨e1,e2,e3,e4⟩:=ZaQ p a c
   have:=Zk9 hf hu (p:=p) (a:=a) (c:=c) (by rw [e1] at hs;omega)
   unfold nmR
   rw [e2,e3,e4]
   simp only [h,false_or]
   exact this
theorem Zdk {L:List (List PV)} {out:PV} {lv:List Nat} {nt:Nat} (hA:ApV true 4 L out lv nt) (k:Int) (nm:Bs) (s:Int) (m:Nat) (H:Heap):frz3 m H (.agg [.int .i64 k,.str nm,.int .i64 s,out])=some (.agg [.int .i64 k,.str nm,.int .i64 s,slV true 4 L]):=by
 have h:=hA.frzC m H
 rw [UN]
 simp only [X4,h]
 rfl
theorem c20 (hf:0≤f∧f≤9) (hu:0≤u∧u≤9) {t:Tm} (ht:t.Ok):t.nb=true→t.size≤100000→∀ H,CallOk E0 Tryz.prog 20 [.agg t.cells,.int .i64 f,.int .i64 u] H (.agg (t.xt (nmR f u)).cells) H:=by
 induction ht with
 | @mk k nm s b kz hk hs hn hl hok ih=>
 intro hnb hsz
 rw [Tm.size] at hsz
 have hkl:=Ya kz
 have hcl:=Zb kz
 rw [Tm.nb,Bool.and_eq_true,decide_eq_true_eq] at hnb
 obtain ⟨hnl,hnk⟩:=hnb
 have hnk:=ZaG hnk
 have hcn:=c40 hf hu (s:=nm) (by omega)
 rw [Tm.xt]
 generalize nmR f u=g at ih hcn ⊢
 obtain ⟨nm',hnm'⟩:∃ nm',nm'=if k=2 then g nm else nm:=⟨_,rfl⟩
 rw [← hnm']
 have heq:=Uf k 2
 simp only [Tm.cells]
 refine Jw tOk fe20.ok (ZS _ _ _ _ _ _ _) ?_ (by simp [ZP,frzG,Xv];rfl)
 by_cases hk2:k=2
 · rw [if_pos hk2] at hnm'
   rw [← hnm'] at hcn
   rw [decide_eq_true hk2] at heq
   repeat' first|refine Jc (hcn _) ?_|refine Js ?_|refine JA ?_|refine Ji ?_|refine JJ ?_|refine Jl ?_|refine Jx ?_|refine Jt ?_|refine Jb ?_ ?_|refine Jo ?_|refine Jd (hcn _) ?_|refine JB ?_|(apply dAq;rfl;rfl;rfl;rfl;rfl;rfl;(first|assumption|solve_by_elim))|(apply dAp;rfl;rfl;rfl;rfl;rfl;(first|assumption|solve_by_elim);rfl)|refine JD ?_|refine JK ?_|(apply dLn;rfl;rfl;rfl;rfl;rfl)|refine JI ?_|(apply dT (ty:=4);rfl;rfl;rfl;rfl)|(apply dF (ty:=4);rfl;rfl;rfl;rfl)|(apply dB (ty:=4);rfl;rfl;rfl;rfl)|refine Jh ?_|(apply Wp.drawS tOk follows;kernel_rfl;rfl)|intro hb
   refine Wp.while (fun m tm H => ∃ (i : Nat) (base : TM) (out : PV) (lv : List Nat) (nt : Nat), i + m = kz.length ∧ ApV true 4 (Za (xtL g (kz.take i))) out lv nt ∧
     tm=ovr base [(1,.int .i64 f),(2,.int .i64 u),(3,.ptr 0 4 0 0),(6,.ptr 1 4 0 0),(7,.ptr 2 4 0 0),(8,.int .i64 (i:Int))]∧H=⟨[.cells 4 [[.int .i64 k,.str nm,.int .i64 s,slV b 4 (Za kz)]],.cells 4 [zcT],.cells 4 [[.int .i64 k,.str nm',.int .i64 s,out]]],0,lv,nt⟩)
    (fun m tm H hI=>?_) kz.length _ _ ⟨0,_,_,_,_,by omega,.nil _ _ rfl,Zf ⟨rfl,rfl,rfl,rfl,rfl,rfl,trivial⟩,rfl⟩
   obtain ⟨i,base,out,lv,nt,hi,hA,rfl,rfl⟩:=hI
   clear hcn heq
   by_cases hlt:i<kz.length
   · obtain ⟨x, hx⟩ : ∃ x, kz[i]? = some x := ⟨kz[i], by simp⟩
     have hm:x∈kz:=List.mem_of_getElem? hx
     have hle:=ZJ hm
     have hc:=ih x hm (hnk x hm) (by omega)
     have hsx:=Vp g hx
     obtain ⟨o1,lv1,nt1,hap1,hA1⟩:=Ux hA (x.xt g) (by rw [QA,List.length_take];omega)
     obtain ⟨kt,rfl⟩:=Xz hA1 fun e=>by
      have:=congrArg List.length e
      rw [Zb] at this
      simp at this
     rw [← hsx] at hA1 hap1
     have hlx:=Zt (i:Int) ((Za kz).length:Int)
     rw [decide_eq_true (by omega)] at hlx
     clear ih hnk
     generalize x.xt g=U at hc hap1
     obtain ⟨k',nm1,s',b',kz'⟩:=x
     obtain ⟨k2,nm2,s2,b2,kz2⟩:=U
     have hj:=Zh hx
     simp only [Tm.cells] at hc hap1
     repeat' first|refine Jc (hc _) ?_|refine Js ?_|refine JA ?_|refine Ji ?_|refine JJ ?_|refine Jl ?_|refine Jx ?_|refine Jt ?_|refine Jb ?_ ?_|refine Jo ?_|refine Jd (hc _) ?_|refine JB ?_|(apply dAq;rfl;rfl;rfl;rfl;rfl;rfl;(first|assumption|solve_by_elim))|(apply dAp;rfl;rfl;rfl;rfl;rfl;(first|assumption|solve_by_elim);rfl)|refine JD ?_|refine JK ?_|(apply dLn;rfl;rfl;rfl;rfl;rfl)|refine JI ?_|(apply dT (ty:=4);rfl;rfl;rfl;rfl)|(apply dF (ty:=4);rfl;rfl;rfl;rfl)|(apply dB (ty:=4);rfl;rfl;rfl;rfl)|refine Jh ?_|(apply Wp.drawS tOk follows;kernel_rfl;rfl)|intro hb
     exact LoopI.go (m-1) (by omega) ⟨i+1,_,_,lv1,nt1,by omega,hA1,Zf ⟨rfl,rfl,rfl,rfl,rfl,Ze (Zc (n:=i+1) (by omega)),trivial⟩,rfl⟩
   · have e : i = kz.length := by omega
     subst e
     rw [List.take_length] at hA
     clear ih hnk
     have hlx:=Zt (kz.length:Int) ((Za kz).length:Int)
     rw [decide_eq_false (by omega)] at hlx
     have hfr:=fun m H=>Zdk hA k nm' s m H
     rcases WQ hA with rfl|⟨kt,rfl⟩
     all_goals
      repeat' first|refine Js ?_|refine JA ?_|refine Ji ?_|refine JJ ?_|refine Jl ?_|refine Jx ?_|refine Jt ?_|refine Jb ?_ ?_|refine Jo ?_|refine JB ?_|(apply dAq;rfl;rfl;rfl;rfl;rfl;rfl;(first|assumption|solve_by_elim))|(apply dAp;rfl;rfl;rfl;rfl;rfl;(first|assumption|solve_by_elim);rfl)|refine JD ?_|refine JK ?_|(apply dLn;rfl;rfl;rfl;rfl;rfl)|refine JI ?_|(apply dT (ty:=4);rfl;rfl;rfl;rfl)|(apply dF (ty:=4);rfl;rfl;rfl;rfl)|(apply dB (ty:=4);rfl;rfl;rfl;rfl)|refine Jh ?_|(apply Wp.drawS tOk follows;kernel_rfl;rfl)|intro hb
      all_goals exact hfr _ _
 · rw [if_neg hk2] at hnm'
   subst hnm'
   rw [decide_eq_false hk2] at heq
   repeat' first|refine Js ?_|refine JA ?_|refine Ji ?_|refine JJ ?_|refine Jl ?_|refine Jx ?_|refine Jt ?_|refine Jb ?_ ?_|refine Jo ?_|refine JB ?_|(apply dAq;rfl;rfl;rfl;rfl;rfl;rfl;(first|assumption|solve_by_elim))|(apply dAp;rfl;rfl;rfl;rfl;rfl;(first|assumption|solve_by_elim);rfl)|refine JD ?_|refine JK ?_|(apply dLn;rfl;rfl;rfl;rfl;rfl)|refine JI ?_|(apply dT (ty:=4);rfl;rfl;rfl;rfl)|(apply dF (ty:=4);rfl;rfl;rfl;rfl)|(apply dB (ty:=4);rfl;rfl;rfl;rfl)|refine Jh ?_|(apply Wp.drawS tOk follows;kernel_rfl;rfl)|intro hb
   refine Wp.while (fun m tm H => ∃ (i : Nat) (base : TM) (out : PV) (lv : List Nat) (nt : Nat), i + m = kz.length ∧ ApV true 4 (Za (xtL g (kz.take i))) out lv nt ∧
     tm=ovr base [(1,.int .i64 f),(2,.int .i64 u),(3,.ptr 0 4 0 0),(6,.ptr 1 4 0 0),(7,.ptr 2 4 0 0),(8,.int .i64 (i:Int))]∧H=⟨[.cells 4 [[.int .i64 k,.str nm',.int .i64 s,slV b 4 (Za kz)]],.cells 4 [zcT],.cells 4 [[.int .i64 k,.str nm',.int .i64 s,out]]],0,lv,nt⟩)
    (fun m tm H hI=>?_) kz.length _ _ ⟨0,_,_,_,_,by omega,.nil _ _ rfl,Zf ⟨rfl,rfl,rfl,rfl,rfl,rfl,trivial⟩,rfl⟩
   obtain ⟨i,base,out,lv,nt,hi,hA,rfl,rfl⟩:=hI
   clear hcn heq
   by_cases hlt:i<kz.length
   · obtain ⟨x, hx⟩ : ∃ x, kz[i]? = some x := ⟨kz[i], by simp⟩
     have hm:x∈kz:=List.mem_of_getElem? hx
     have hle:=ZJ hm
     have hc:=ih x hm (hnk x hm) (by omega)
     have hsx:=Vp g hx
     obtain ⟨o1,lv1,nt1,hap1,hA1⟩:=Ux hA (x.xt g) (by rw [QA,List.length_take];omega)
     obtain ⟨kt,rfl⟩:=Xz hA1 fun e=>by
      have:=congrArg List.length e
      rw [Zb] at this
      simp at this
     rw [← hsx] at hA1 hap1
     have hlx:=Zt (i:Int) ((Za kz).length:Int)
     rw [decide_eq_true (by omega)] at hlx
     clear ih hnk
     generalize x.xt g=U at hc hap1
     obtain ⟨k',nm1,s',b',kz'⟩:=x
     obtain ⟨k2,nm2,s2,b2,kz2⟩:=U
     have hj:=Zh hx
     simp only [Tm.cells] at hc hap1
     repeat' first|refine Jc (hc _) ?_|refine Js ?_|refine JA ?_|refine Ji ?_|refine JJ ?_|refine Jl ?_|refine Jx ?_|refine Jt ?_|refine Jb ?_ ?_|refine Jo ?_|refine Jd (hc _) ?_|refine JB ?_|(apply dAq;rfl;rfl;rfl;rfl;rfl;rfl;(first|assumption|solve_by_elim))|(apply dAp;rfl;rfl;rfl;rfl;rfl;(first|assumption|solve_by_elim);rfl)|refine JD ?_|refine JK ?_|(apply dLn;rfl;rfl;rfl;rfl;rfl)|refine JI ?_|(apply dT (ty:=4);rfl;rfl;rfl;rfl)|(apply dF (ty:=4);rfl;rfl;rfl;rfl)|(apply dB (ty:=4);rfl;rfl;rfl;rfl)|refine Jh ?_|(apply Wp.drawS tOk follows;kernel_rfl;rfl)|intro hb
     exact LoopI.go (m-1) (by omega) ⟨i+1,_,_,lv1,nt1,by omega,hA1,Zf ⟨rfl,rfl,rfl,rfl,rfl,Ze (Zc (n:=i+1) (by omega)),trivial⟩,rfl⟩
   · have e : i = kz.length := by omega
     subst e
     rw [List.take_length] at hA
     clear ih hnk
     have hlx:=Zt (kz.length:Int) ((Za kz).length:Int)
     rw [decide_eq_false (by omega)] at hlx
     have hfr:=fun m H=>Zdk hA k nm' s m H
     rcases WQ hA with rfl|⟨kt,rfl⟩
     all_goals
      repeat' first|refine Js ?_|refine JA ?_|refine Ji ?_|refine JJ ?_|refine Jl ?_|refine Jx ?_|refine Jt ?_|refine Jb ?_ ?_|refine Jo ?_|refine JB ?_|(apply dAq;rfl;rfl;rfl;rfl;rfl;rfl;(first|assumption|solve_by_elim))|(apply dAp;rfl;rfl;rfl;rfl;rfl;(first|assumption|solve_by_elim);rfl)|refine JD ?_|refine JK ?_|(apply dLn;rfl;rfl;rfl;rfl;rfl)|refine JI ?_|(apply dT (ty:=4);rfl;rfl;rfl;rfl)|(apply dF (ty:=4);rfl;rfl;rfl;rfl)|(apply dB (ty:=4);rfl;rfl;rfl;rfl)|refine Jh ?_|(apply Wp.drawS tOk follows;kernel_rfl;rfl)|intro hb
      all_goals exact hfr _ _
