/-
  Proofs of an extension: what the program reads out of one; both kinds of proofs as the document reads them. Proofs as the document reads them: of incl
-/
import Derived.Test.YtkaocdljkonfaaaGreatDoorGa
set_option maxHeartbeats 64000000
set_option maxRecDepth 100000
namespace Go.Vm.Seat
variable {a b:Int} {l:List Tm} {x y z:Tm}
open Go.Proofs
theorem Zgq (n:Nat) (x y:Tm):under n (.tup [.agg x.cells,.agg y.cells])=true:=by
 have h1:=YR n x
 have h2:=YR n y
 simp only [under,ZH,Bool.and_true] at h1 h2 ⊢
 simp [h1,h2]
theorem uE (n m:Int) (w:Bool) (t:Tm):ZH 3 [.ptr 2 2 0 0,.int .i64 n,.int .i64 m,.bool w,.agg t.cells]=true:=by
 have:=YR 3 t
 simp only [ZH,under,Bool.and_true] at this ⊢
 simpa using this
theorem Zqm (h:a=b):ZV E7 .eql 3 (.int .i64 a) (.int .i64 b)=some (.bool true):=by
 show some (PV.bool (a==b))=_
 rw [h,beq_self_eq_true]
theorem ZnR (h:a≠b):ZV E7 .eql 3 (.int .i64 a) (.int .i64 b)=some (.bool false):=by
 show some (PV.bool (a==b))=_
 rw [beq_eq_false_iff_ne.2 h]
theorem ZpH (h:a≤b):ZV E7 .leq 3 (.int .i64 a) (.int .i64 b)=some (.bool true):=by
 show some (PV.bool (decide (a≤b)))=_
 rw [decide_eq_true h]
theorem Zpx (h:¬ a≤b):ZV E7 .leq 3 (.int .i64 a) (.int .i64 b)=some (.bool false):=by
 show some (PV.bool (decide (a≤b)))=_
 rw [decide_eq_false h]
theorem Zp7 : ∀ (f : Nat) {n m : Nat}, m ≤ f → 1 ≤ n → n ≤ m → m ≤ 32 → ∀ (w : Bool) (old : Tm) (p : List Tm × Bool) (b : Bool), ∃ b', ∀ A B, YA 3 A = true → YA 3 B = true →
  CallOk E7 Tryz.prog 113 [.ptr 2 2 0 0,.int .i64 (n:Int),.int .i64 (m:Int),.bool w,.agg old.cells] ⟨[A,B,prB b p.1 p.2],0,[],0⟩ (.tup [.agg (WQ f n m w old p).1.1.cells,.agg (WQ f n m w old p).1.2.cells]) ⟨[A,B,prB b' (WQ f n m w old p).2.1 (WQ f n m w old p).2.2],0,[],0⟩
 |0,n,m,h,h1,h2,_=>by omega
 | f + 1, n, m, hm, h1, hnm, h32 => by
   intro w old p b
   have hch:=fun H=>Zft (c96 h32 H)
   have hhp:=WY m
   by_cases hn:n=m
   · have he := Zqm (a := (n : Int)) (b := (m : Int)) (by omega)
     simp only [WQ,if_pos hn]
     cases w with
     | true =>
       refine ⟨b,fun A B hA hB=>ZcS ?_ (Zgq _ _ _) hA hB (Vl _ _ _ _)⟩
       simp only [if_true]
       generalize prB b p.1 p.2=X0
       obtain ⟨k,nm,s,tb,kids⟩:=old
       simp only [Tm.cells]
       refine ZW (own:=(fun d=>[29999,50018,50024,50026,40200,40201,40208,40209].any (Nat.beq d))) WB fe113.ok ?_
       refine Wp.seq ?_
       repeat' first|refine Ji ?_|refine Jt ?_|refine Jo ?_|refine Jh ?_|(apply Wp.drawS WB follows;kernel_rfl;rfl)|fail
       all_goals exact RetR.ret rfl ⟨rfl,_,rfl⟩
     | false =>
       obtain ⟨b2,hx⟩:=Zax b p
       refine ⟨b2,fun A B hA hB=>ZcS ?_ (Zgq _ _ _) hA hB (Vl _ _ _ _)⟩
       simp only [Bool.false_eq_true,if_false]
       have hx:=(hx A B hA hB).ext (ext:=[.cells 4 [old.cells],.cells 4 [Tm.zero.cells],.cells 4 [Tm.zero.cells]]) rfl rfl (by simp [hA,hB,Vl]) (Nat.zero_le _)
       rw [Zn] at hx
       generalize YU p=Q at hx ⊢
       obtain ⟨y,q⟩:=Q
       simp only [] at hx ⊢
       generalize prB b p.1 p.2=X0 at hx ⊢
       generalize prB b2 q.1 q.2=X1 at hx ⊢
       obtain ⟨k,nm,s,tb,kids⟩:=old
       obtain ⟨k1,nm1,s1,tb1,kids1⟩:=y
       simp only [Tm.cells] at hx ⊢
       refine ZW (own:=(fun d=>[29999,50018,50024,50026,40200,40201,40208,40209].any (Nat.beq d))) WB fe113.ok ?_
       refine Wp.seq ?_
       repeat' first|refine Jc hx ?_|refine Ji ?_|refine Jt ?_|refine Jo ?_|refine Jh ?_|(apply Wp.drawS WB follows;kernel_rfl;rfl)|fail
       all_goals exact RetR.ret rfl ⟨rfl,_,rfl⟩
   · have he := ZnR (a := (n : Int)) (b := (m : Int)) (by omega)
     have hhl:=Ur (n:=m) (by omega)
     simp only [WQ,if_neg hn]
     by_cases hlt:n≤Zo m
     · have hb1 := ZpH (a := (n : Int)) (b := (Zo m : Int)) (by omega)
       obtain ⟨b1,hr⟩:=Zp7 f (n:=n) (m:=Zo m) (by omega) h1 hlt (by omega) w old p b
       obtain ⟨b2,hx⟩:=Zax b1 (WQ f n (Zo m) w old p).2
       have hN:=fun H=>Zft (Zns (WQ f n (Zo m) w old p).1.2 (YU (WQ f n (Zo m) w old p).2).1 H)
       refine ⟨b2,fun A B hA hB=>ZcS ?_ (by simp only [if_pos hlt];exact Zgq _ _ _) hA hB (Vl _ _ _ _)⟩
       have hr:=hr A B hA hB
       simp only [if_pos hlt]
       generalize WQ f n (Zo m) w old p=Q at hr hx hN ⊢
       obtain ⟨⟨x,y⟩,q⟩:=Q
       simp only [] at hr hx hN ⊢
       generalize YU q=Q2 at hx hN ⊢
       obtain ⟨z,q2⟩:=Q2
       simp only [] at hr hx hN ⊢
       have hs:=Zez hx rfl (Vl 3 b1 q.1 q.2) (by simp [prB]) hA hB [.cells 4 [old.cells],.cells 4 [Tm.zero.cells],.cells 4 [Tm.zero.cells],.cells 4 [x.cells],.cells 4 [y.cells]]
       have hr:=hr.ext (ext:=[.cells 4 [old.cells],.cells 4 [Tm.zero.cells],.cells 4 [Tm.zero.cells]]) rfl (uE _ _ _ old) (by simp [hA,hB,Vl]) (Nat.zero_le _)
       rw [Zn] at hs hr
       generalize YQ y z=R at hN ⊢
       generalize prB b p.1 p.2=X0 at hr ⊢
       generalize prB b1 q.1 q.2=X1 at hr hs
       generalize prB b2 q2.1 q2.2=X2 at hs ⊢
       obtain ⟨k,nm,s,tb,kids⟩:=old
       obtain ⟨k1,nm1,s1,tb1,kids1⟩:=R
       obtain ⟨k2,nm2,s2,tb2,kids2⟩:=x
       obtain ⟨k3,nm3,s3,tb3,kids3⟩:=y
       obtain ⟨k4,nm4,s4,tb4,kids4⟩:=z
       simp only [Tm.cells] at hr hs hN ⊢
       refine ZW (own:=(fun d=>[29999,6044,50025,50042,50048,50050,40329,40330,40336,40337,40338].any (Nat.beq d))) WB fe113.ok ?_
       refine Wp.seq ?_
       repeat' first|refine Jc (hch _) ?_|refine Jc hr ?_|refine Ji ?_|refine Jo ?_|refine Jd (hN _) ?_|(apply dCs;rfl;rfl;rfl;rfl;rfl;exact hs;exact IsH.mkN;rfl;rfl)|refine Jh ?_|(apply Wp.drawS WB follows;kernel_rfl;rfl)|fail
       all_goals exact RetR.ret rfl ⟨rfl,_,rfl⟩
     · have hb1 := Zpx (a := (n : Int)) (b := (Zo m : Int)) (by omega)
       obtain ⟨b1,hr⟩:=Zp7 f (n:=n-Zo m) (m:=m-Zo m) (by omega) (by omega) (by omega) (by omega) false old p b
       obtain ⟨b2,hx⟩:=Zax b1 (WQ f (n-Zo m) (m-Zo m) false old p).2
       have hN1:=fun H=>Zft (Zns (YU (WQ f (n-Zo m) (m-Zo m) false old p).2).1 (WQ f (n-Zo m) (m-Zo m) false old p).1.1 H)
       have hN2:=fun H=>Zft (Zns (YU (WQ f (n-Zo m) (m-Zo m) false old p).2).1 (WQ f (n-Zo m) (m-Zo m) false old p).1.2 H)
       refine ⟨b2,fun A B hA hB=>ZcS ?_ (by simp only [if_neg hlt];exact Zgq _ _ _) hA hB (Vl _ _ _ _)⟩
       have hr:=hr A B hA hB
       simp only [if_neg hlt]
       have w1:IntKind.i64.wrap ((n:Int)-(Zo m:Int))=((n-Zo m:Nat):Int):=by
        rw [IntWalk.i64_in _ (by omega)];omega
       have w2:IntKind.i64.wrap ((m:Int)-(Zo m:Int))=((m-Zo m:Nat):Int):=by
        rw [IntWalk.i64_in _ (by omega)];omega
       generalize WQ f (n-Zo m) (m-Zo m) false old p=Q at hr hx hN1 hN2 ⊢
       rw [← w1, ← w2] at hr
       obtain ⟨⟨x,y⟩,q⟩:=Q
       simp only [] at hr hx hN1 hN2 ⊢
       generalize YU q=Q2 at hx hN1 hN2 ⊢
       obtain ⟨z,q2⟩:=Q2
       simp only [] at hr hx hN1 hN2 ⊢
       have hx:=(hx A B hA hB).ext (ext:=[.cells 4 [old.cells],.cells 4 [Tm.zero.cells],.cells 4 [Tm.zero.cells],.cells 4 [x.cells],.cells 4 [y.cells]]) rfl rfl (by simp [hA,hB,Vl]) (Nat.zero_le _)
       have hr:=hr.ext (ext:=[.cells 4 [old.cells],.cells 4 [Tm.zero.cells],.cells 4 [Tm.zero.cells]]) rfl (uE _ _ _ old) (by simp [hA,hB,Vl]) (Nat.zero_le _)
       rw [Zn] at hx hr
       generalize YQ z x=R at hN1 ⊢
       generalize YQ z y=R' at hN2 ⊢
       generalize prB b p.1 p.2=X0 at hr ⊢
       generalize prB b1 q.1 q.2=X1 at hr hx
       generalize prB b2 q2.1 q2.2=X2 at hx ⊢
       obtain ⟨k,nm,s,tb,kids⟩:=old
       obtain ⟨k1,nm1,s1,tb1,kids1⟩:=R
       obtain ⟨k2,nm2,s2,tb2,kids2⟩:=x
       obtain ⟨k3,nm3,s3,tb3,kids3⟩:=y
       obtain ⟨k4,nm4,s4,tb4,kids4⟩:=z
       obtain ⟨k5,nm5,s5,tb5,kids5⟩:=R'
       simp only [Tm.cells] at hr hx hN1 hN2 ⊢
       refine ZW (own:=(fun d=>[29999,50050,50056,50058,40483,40489,40490,40507,40512,40513,40514].any (Nat.beq d))) WB fe113.ok ?_
       refine Wp.seq ?_
       repeat' first|(apply qCl;rfl;rfl;rfl;rfl;first|exact hch _|exact hr|exact hx)|refine Ji ?_|refine Jo ?_|refine Jd (hN1 _) ?_|refine Jd (hN2 _) ?_|refine Jh ?_|(apply Wp.drawS WB follows;kernel_rfl;rfl)|fail
       all_goals exact RetR.ret rfl ⟨rfl,_,rfl⟩
theorem Ze9 {S : Nat} (hS : 1 ≤ S) {old : Tm} (ho : old.Ok) (hos : old.size ≤ S) : ∀ (f n m : Nat) (w : Bool) {p : List Tm × Bool}, (∀ x, x ∈ p.1 → x.Ok ∧ x.size ≤ S) →
  ((WQ f n m w old p).1.1.Ok∧(WQ f n m w old p).1.1.size≤(f+1)*(S+4))∧((WQ f n m w old p).1.2.Ok∧(WQ f n m w old p).1.2.size≤(f+1)*(S+4))∧∀ x,x∈(WQ f n m w old p).2.1→x.Ok∧x.size≤S
 | 0, n, m, w, p, hp => by
   have hz:Tm.zero.Ok∧Tm.zero.size≤(0+1)*(S+4):=⟨Tm.ok_zero,by simp [Tm.zero,Tm.size,Zz]⟩
   exact ⟨hz,hz,hp⟩
 | f + 1, n, m, w, p, hp => by
   have e:(f+1+1)*(S+4)=(f+1)*(S+4)+(S+4):=by rw [Nat.succ_mul]
   have e0:S≤(f+1+1)*(S+4):=by rw [e];omega
   simp only [WQ]
   split
   · split
     · exact ⟨⟨ho,by simp only [];omega⟩,⟨ho,by simp only [];omega⟩,hp⟩
     · obtain ⟨b1, b2, b3⟩ := UB hS hp
       exact ⟨⟨b1,by simp only [];omega⟩,⟨b1,by simp only [];omega⟩,b3⟩
   · split
     · obtain ⟨⟨a1, a2⟩, ⟨a3, a4⟩, a5⟩ := Ze9 hS ho hos f n (Zo m) w hp
       obtain ⟨b1,b2,b3⟩:=UB hS a5
       refine ⟨⟨a1,by simp only [];omega⟩,⟨VU a3 b1,?_⟩,b3⟩
       simp only [Uy];omega
     · obtain ⟨⟨a1, a2⟩, ⟨a3, a4⟩, a5⟩ := Ze9 hS ho hos f (n - Zo m) (m - Zo m) false hp
       obtain ⟨b1,b2,b3⟩:=UB hS a5
       refine ⟨⟨VU b1 a1,?_⟩,⟨VU b1 a3,?_⟩,b3⟩
       all_goals (simp only [Uy];omega)
theorem Zrb {n m : Nat} (h1 : 1 ≤ n) (h2 : n ≤ m) (h32 : m ≤ 32) (old : Tm) (l : List Tm) (b : Bool) : ∃ b', ∀ A B, YA 3 A = true → YA 3 B = true →
  CallOk E7 Tryz.prog 113 [.ptr 2 2 0 0,.int .i64 (n:Int),.int .i64 (m:Int),.bool true,.agg old.cells] ⟨[A,B,prB b l false],0,[],0⟩ (.tup [.agg (WQ 32 n m true old (l,false)).1.1.cells,.agg (WQ 32 n m true old (l,false)).1.2.cells]) ⟨[A,B,prB b' (WQ 32 n m true old (l,false)).2.1 (WQ 32 n m true old (l,false)).2.2],0,[],0⟩:=
 Zp7 32 h32 h1 h2 h32 true old (l,false) b
theorem Zot (h t:Tm) (n i:Int) (b:Bool) (L:List (List PV)):ZC [.agg h.cells,.int .i64 n,.agg t.cells,.int .i64 i,slV b 4 L]=some [.agg h.cells,.int .i64 n,.agg t.cells,.int .i64 i,slV b 4 L]:=by
 obtain ⟨k,nm,s,tb,kids⟩:=h
 obtain ⟨k',nm',s',tb',kids'⟩:=t
 simp only [Tm.cells]
 have e1:∀ (k:Int) (nm:List UInt8) (s:Int) (tb:Bool) (kids:List Tm),frzG (.agg [.int .i64 k,.str nm,.int .i64 s,slV tb 4 (Za kids)])=some (.agg [.int .i64 k,.str nm,.int .i64 s,slV tb 4 (Za kids)]):=fun k nm s tb kids=>by
  simp only [frzG,Xm,Zu];rfl
 simp only [ZC,Yl,e1]
 rfl
theorem c60 {old h : Tm} (ho : old.Ok) (hos : old.size ≤ 20000) (hh : h.Ok) (hhs : h.size ≤ 20000) (hl : ∀ x, x ∈ l → x.Ok ∧ x.size ≤ 20000) (b : Bool) {n m : Int} (hn : (Lit.int .i64 n).wf = true) (hm : (Lit.int .i64 m).wf = true) : ∀ H,
  CallOk E0 Tryz.prog 60 [.agg old.cells,.int .i64 n,.agg h.cells,.int .i64 m,slV b 4 (Za l)] H (.bool (Zaq old n h m l)) H:=by
 by_cases hC:m<1∨32<m∨n<1∨m<n∨32<l.length
 · unfold Zaq
   rw [if_pos hC]
   have hfz:=Zot old h n m b (Za l)
   have hlen:=Zb l
   obtain ⟨k,nm,s,tb,kids⟩:=old
   obtain ⟨k',nm',s',tb',kids'⟩:=h
   simp only [Tm.cells] at hfz ⊢
   refine Jw tOk fe60.ok rfl ?_ hfz
   repeat' first|refine Jk ?_|refine Jl ?_|refine Jt ?_|refine Jb ?_ ?_|refine Jo ?_|intro hb
   all_goals first
    | rfl
    | (exfalso;simp only [decide_eq_false_iff_not,hlen] at *;omega)
 · obtain ⟨n', rfl⟩ := Int.eq_ofNat_of_zero_le (show 0 ≤ n by omega)
   obtain ⟨m',rfl⟩:=Int.eq_ofNat_of_zero_le (show 0≤m by omega)
   have e0:∀ R,R=WQ 32 n' m' true old (l,false)→Zaq old n' h m' l=(!R.2.2&&R.2.1.isEmpty&&decide (R.1.1.cmp old=0)&&decide (R.1.2.cmp h=0)):=fun R hR=>by
    subst hR
    unfold Zaq
    rw [if_neg hC]
    rfl
   obtain ⟨b',hr⟩:=Zrb (n:=n') (m:=m') (by omega) (by omega) (by omega) old l b
   obtain ⟨⟨x1,x2⟩,⟨y1,y2⟩, -⟩:=Ze9 (S:=20000) (by omega) ho hos 32 n' m' true (p:=(l,false)) hl
   have hr:=hr (.cells 4 [old.cells]) (.cells 4 [h.cells]) (by have:=YR 3 old;simpa [YA,under] using this) (by have:=YR 3 h;simpa [YA,under] using this)
   have hs1:=fun H=>Zft (Zrt x1 ho (by omega) (by omega) H)
   have hs2:=fun H=>Zft (Zrt y1 hh (by omega) (by omega) H)
   have hbl:=Zlr b l
   have hlen:=Zb l
   have hfz:=Zot old h n' m' b (Za l)
   obtain ⟨R,hR⟩:∃ R,R=WQ 32 n' m' true old (l,false):=⟨_,rfl⟩
   rw [e0 R hR]
   rw [← hR] at hr hs1 hs2
   clear x1 x2 y1 y2 e0 hR
   obtain ⟨⟨x,y⟩,q,f⟩:=R
   unfold prB at hr
   simp only [] at hr hs1 hs2 ⊢
   generalize decide (x.cmp old=0)=D at hs1 ⊢
   generalize decide (y.cmp h=0)=D' at hs2 ⊢
   generalize Za l=L at hr hbl hlen hfz ⊢
   have h1:decide ((m':Int)<1)=false:=by simp;omega
   have h2:decide ((32:Int)<(m':Int))=false:=by simp;omega
   have h3:decide ((n':Int)<1)=false:=by simp;omega
   have h4:decide ((m':Int)<(n':Int))=false:=by simp;omega
   have h5:decide ((32:Int)<(L.length:Int))=false:=by simp;omega
   obtain ⟨k,nm,s,tb,kids⟩:=old
   obtain ⟨k',nm',s',tb',kids'⟩:=h
   obtain ⟨k2,nm2,s2,tb2,kids2⟩:=x
   obtain ⟨k3,nm3,s3,tb3,kids3⟩:=y
   simp only [Tm.cells] at hr hs1 hs2 hfz ⊢
   cases q with
   | nil =>
     simp only [Za] at hr
     cases b'<;>cases f<;>simp only [Zq,Z8] at hr<;>cases D<;>cases D'
     all_goals
      refine Zen ?_
      refine Jw WB fe60.ok rfl ?_ hfz
      repeat' first|refine Jk ?_|(apply qCl;rfl;rfl;rfl;rfl;first|exact hr|exact hs1 _|exact hs2 _)|(apply qBd;rfl;rfl;rfl;assumption;exact IsV.aggN)|refine Jl ?_|refine Jt ?_|refine Jb ?_ ?_|refine Jo ?_|intro hb
     all_goals first
      | rfl
      | (exfalso;clear h1 h2 h3 h4 hr hs1 hs2;simp only [decide_eq_true_eq,decide_eq_false_iff_not] at *;omega)
      | (exfalso;clear hbl hfz hr hs1 hs2;simp_all;done)
   | cons c r =>
     simp only [Za,Zw] at hr
     generalize Za r=L' at hr
     generalize c.cells=C at hr
     have h6:(((L'.length+1:Nat):Int)==0)=false:=by simp;omega
     cases f
     all_goals
      refine Zen ?_
      refine Jw WB fe60.ok rfl ?_ hfz
      repeat' first|refine Jk ?_|refine Jc hr ?_|(apply qBd;rfl;rfl;rfl;assumption;exact IsV.aggN)|refine Jl ?_|refine Jt ?_|refine Jb ?_ ?_|refine Jo ?_|intro hb
     all_goals first
      | rfl
      | (exfalso;clear h1 h2 h3 h4 hr hs1 hs2;simp only [decide_eq_true_eq,decide_eq_false_iff_not] at *;omega)
      | (exfalso;clear hbl hfz hr hs1 hs2;simp_all;done)
open Go.Proofs
theorem ZdT (h:a=b):ZV E0 .eql 3 (.int .i64 a) (.int .i64 b)=some (.bool true):=by
 show some (PV.bool (a==b))=_
 rw [h,beq_self_eq_true]
theorem V9 (h:a≠b):ZV E0 .eql 3 (.int .i64 a) (.int .i64 b)=some (.bool false):=by
 show some (PV.bool (a==b))=_
 rw [beq_eq_false_iff_ne.2 h]
theorem Zo5 (h:a≤b):ZV E0 .leq 3 (.int .i64 a) (.int .i64 b)=some (.bool true):=by
 show some (PV.bool (decide (a≤b)))=_
 rw [decide_eq_true h]
theorem ZnM (h:¬ a≤b):ZV E0 .leq 3 (.int .i64 a) (.int .i64 b)=some (.bool false):=by
 show some (PV.bool (decide (a≤b)))=_
 rw [decide_eq_false h]
open Go.Proofs
open Go.Proofs
def ZeI:List Tm→List Tm→Bool
 | [],[]=>true
 |x::r,y::r'=>decide (x.cmp y=0)&&ZeI r r'
 | [],_::_=>false
 |_::_,[]=>false
theorem Zgp:∀ {l m:List Tm},l.length≠m.length→ZeI l m=false
 | [],[],h=>absurd rfl h
 | [],_::_,_=>rfl
 |_::_,[],_=>rfl
 | x :: r, y :: r', h => by
   simp only [ZeI,Zgp (l:=r) (m:=r') (fun e=>h (by simp [e])),Bool.and_false]
theorem c48 {m:List Tm} (hl:∀ t,t∈l→t.Ok∧t.size≤1000000) (hm:∀ t,t∈m→t.Ok∧t.size≤1000000) (hll:l.length≤1000000) (b c:Bool):∀ H,CallOk E0 Tryz.prog 48 [slV b 4 (Za l),slV c 4 (Za m)] H (.bool (ZeI l m)) H:=by
 have h1:=Zb l
 have h2:=Zb m
 refine Jw tOk fe48.ok rfl ?_
 repeat' first|refine Ji ?_|refine JJ ?_|refine Jl ?_|refine Jx ?_|refine Jt ?_|refine Jb ?_ ?_|refine Jo ?_|refine JD ?_|refine JK ?_|(apply dLn;rfl;rfl;rfl;rfl;rfl)|refine JI ?_|(apply dT (ty:=4);rfl;rfl;rfl;rfl)|(apply dF (ty:=4);rfl;rfl;rfl;rfl)|(apply dB (ty:=4);rfl;rfl;rfl;rfl)|refine Jh ?_|(apply Wp.draw tOk follows;kernel_rfl)|intro hb
 · rw [h1, h2] at hb
   rw [Zgp (l:=l) (m:=m) (by intro e;rw [e] at hb;simp at hb)]
 have hlm:l.length=m.length:=by
  rw [h1,h2] at hb
  have:(l.length:Int)=m.length:=by simpa using hb
  omega
 clear hb
 refine Wp.while (fun k tm H=>∃ (i:Nat) (base:TM),i+k=l.length∧ZeI l m=ZeI (l.drop i) (m.drop i)∧tm=ovr base [(0,slV b 4 (Za l)),(1,slV c 4 (Za m)),(5,.int .i64 (i:Int))]∧H=⟨[],0,[],0⟩)
  (fun k tm H hI=>?_) l.length _ _ ⟨0,_,by omega,by simp,Zi ⟨rfl,rfl,rfl,trivial⟩,rfl⟩
 obtain ⟨i,base,hi,hI,rfl,rfl⟩:=hI
 by_cases hlt:i<l.length
 · obtain ⟨t', ht'⟩ : ∃ t', l[i]? = some t' := ⟨l[i], by simp⟩
   obtain ⟨u',hu'⟩:∃ u',m[i]? = some u':=⟨m[i]'(by omega),by simp⟩
   have m1:=hl t' (List.mem_of_getElem? ht')
   have m2:=hm u' (List.mem_of_getElem? hu')
   have hc:=c23 m1.1 m2.1 m1.2 m2.2
   rw [ZM ht',ZM hu'] at hI
   simp only [ZeI] at hI
   have hlx:decide ((i:Int)<((Za l).length:Int))=true:=by rw [h1];simp;omega
   have hlx2:i<(Za l).length:=by omega
   have hlx3:i<(Za m).length:=by omega
   generalize decide (t'.cmp u'=0)=D at hc hI
   obtain ⟨k',nm',s',b',kids'⟩:=t'
   obtain ⟨k2,nm2,s2,b2,kids2⟩:=u'
   have hj1:=Zk ht'
   have hj2:=Zk hu'
   simp only [Tm.cells] at hc
   cases D with
   | false =>
     simp only [Bool.false_and] at hI
     rw [hI]
     repeat' first|refine Jc (hc _) ?_|refine Ji ?_|refine JJ ?_|refine Jl ?_|refine Jx ?_|refine Jt ?_|refine Jb ?_ ?_|refine Jo ?_|refine Jd (hc _) ?_|refine JD ?_|refine JK ?_|(apply dLn;rfl;rfl;rfl;rfl;rfl)|refine JI ?_|(apply dT (ty:=4);rfl;rfl;rfl;rfl)|(apply dF (ty:=4);rfl;rfl;rfl;rfl)|(apply dB (ty:=4);rfl;rfl;rfl;rfl)|refine Jh ?_|(apply Wp.draw tOk follows;kernel_rfl)|intro hb
     all_goals first
      | rfl
      | (exfalso;rw [h1] at hb;simp at hb;omega)
   | true =>
     simp only [Bool.true_and] at hI
     repeat' first|refine Jc (hc _) ?_|refine Ji ?_|refine JJ ?_|refine Jl ?_|refine Jx ?_|refine Jt ?_|refine Jb ?_ ?_|refine Jo ?_|refine Jd (hc _) ?_|refine JD ?_|refine JK ?_|(apply dLn;rfl;rfl;rfl;rfl;rfl)|refine JI ?_|(apply dT (ty:=4);rfl;rfl;rfl;rfl)|(apply dF (ty:=4);rfl;rfl;rfl;rfl)|(apply dB (ty:=4);rfl;rfl;rfl;rfl)|refine Jh ?_|(apply Wp.draw tOk follows;kernel_rfl)|intro hb
     · exact LoopI.go (k-1) (by omega) ⟨i+1,_,by omega,hI,Zi ⟨rfl,rfl,Zh (Ze (n:=i+1) (by omega)),trivial⟩,rfl⟩
     all_goals (exfalso;rw [h1] at hb;simp at hb;omega)
 · have e : i = l.length := by omega
   subst e
   rw [List.drop_length,show m.drop l.length= [] by rw [hlm,List.drop_length]] at hI
   rw [hI]
   repeat' first|refine Ji ?_|refine JJ ?_|refine Jl ?_|refine Jx ?_|refine Jt ?_|refine Jb ?_ ?_|refine Jo ?_|refine JD ?_|refine JK ?_|(apply dLn;rfl;rfl;rfl;rfl;rfl)|refine JI ?_|(apply dT (ty:=4);rfl;rfl;rfl;rfl)|(apply dF (ty:=4);rfl;rfl;rfl;rfl)|(apply dB (ty:=4);rfl;rfl;rfl;rfl)|refine Jh ?_|(apply Wp.draw tOk follows;kernel_rfl)|intro hb
   all_goals first
    | rfl
    | (exfalso;rw [h1] at hb;simp at hb)
open Go.Proofs
def Zhd (S:Nat) (c:Rd):Prop:=(c.svc.Ok∧c.svc.size≤S)∧(c.head.Ok∧c.head.size≤S)∧c.signed.Ok∧c.signed.size≤S
theorem ZnT {x' y' z':Tm} (h:∀ t,t∈ [x,y,z]→t.Ok∧t.size≤1000000) (h':∀ t,t∈ [x',y',z']→t.Ok∧t.size≤1000000):∀ H,CallOk E0 Tryz.prog 48 [.sl .full 4 [x.cells,y.cells,z.cells],.sl .full 4 [x'.cells,y'.cells,z'.cells]] H (.bool (ZeI [x,y,z] [x',y',z'])) H:=fun H=>by
 have:=c48 h h' (by simp) true true H
 simp only [Za,Zw] at this
 exact Z9 this rfl
theorem Zt6 (hx:x.Ok) (hy:y.Ok) (hz:z.Ok):∀ H,CallOk E0 Tryz.prog 25 [.sl .full 4 [x.cells,y.cells,z.cells],.int .i64 3,.int .i64 900] H (.bool (QL [x,y,z] 3 900)) H:=fun H=>by
 have:=c25 (l:=[x,y,z]) (by
  intro t ht
  rcases (by simpa using ht:t=x∨t=y∨t=z) with rfl|rfl|rfl
  · exact hx
  · exact hy
  · exact hz) (by unfold maxLen;simp) true (n:=3) (most:=900) (by decide) (by decide) H
 simp only [Za,Zw] at this
 exact Z9 this rfl
def ZdZ (x y:Rd):Bool:=decide (x.size=y.size)&&ZeI [x.svc,x.head,x.signed] [y.svc,y.head,y.signed]
theorem c15 {x y:Rd} (hx:Zhd 1000000 x) (hy:Zhd 1000000 y):∀ H,CallOk E0 Tryz.prog 15 [.agg x.cells,.agg y.cells] H (.bool (ZdZ x y)) H:=by
 have hL:=ZnT (x:=x.svc) (y:=x.head) (z:=x.signed) (x':=y.svc) (y':=y.head) (z':=y.signed) (by simpa [Zhd] using hx) (by simpa [Zhd] using hy)
 unfold ZdZ
 generalize ZeI [x.svc,x.head,x.signed] [y.svc,y.head,y.signed]=D at hL ⊢
 clear hx hy
 obtain ⟨⟨k1,nm1,s1,b1,kids1⟩,n,⟨k2,nm2,s2,b2,kids2⟩,k3,nm3,s3,b3,kids3⟩:=x
 obtain ⟨⟨k4,nm4,s4,b4,kids4⟩,n',⟨k5,nm5,s5,b5,kids5⟩,k6,nm6,s6,b6,kids6⟩:=y
 simp only [Rd.cells,Tm.cells,List.cons_append,List.nil_append] at hL ⊢
 by_cases hn:n=n'
 · have he := ZdT hn
   rw [decide_eq_true hn]
   refine Jw tOk fe15.ok rfl ?_
   repeat' first|refine Jk ?_|refine Jc (hL _) ?_|refine Js ?_|refine Ji ?_|refine Jt ?_|refine Jo ?_|intro hb
   all_goals rfl
 · have he := V9 hn
   rw [decide_eq_false hn]
   refine Jw tOk fe15.ok rfl ?_
   repeat' first|refine Jk ?_|refine Jc (hL _) ?_|refine Js ?_|refine Ji ?_|refine Jt ?_|refine Jo ?_|intro hb
   all_goals rfl
def ZkU (a:An):Bool:=decide (a.name.length≤100)&&(QL [a.entry,a.head,a.signed] 3 900&&(QL a.incl 40 900&&QL a.ext 40 900))
structure AnOk (a:An):Prop where
 e:a.entry.Ok
 h:a.head.Ok
 s:a.signed.Ok
 i:∀ t,t∈a.incl→t.Ok
 x:∀ t,t∈a.ext→t.Ok
 il:a.incl.length≤maxLen
 xl:a.ext.length≤maxLen
theorem c21 {a:An} (h:AnOk a):∀ H,CallOk E0 Tryz.prog 21 [.agg a.cells] H (.bool (ZkU a)) H:=by
 have h1:=Zt6 h.e h.h h.s
 have h2:=c25 h.i h.il a.ib (n:=40) (most:=900) (by decide) (by decide)
 have h3:=c25 h.x h.xl a.eb (n:=40) (most:=900) (by decide) (by decide)
 clear h
 unfold ZkU
 generalize QL [a.entry,a.head,a.signed] 3 900=D1 at h1 ⊢
 generalize QL a.incl 40 900=D2 at h2 ⊢
 generalize QL a.ext 40 900=D3 at h3 ⊢
 obtain ⟨name,⟨k1,nm1,s1,b1,kids1⟩,ai,n,⟨k2,nm2,s2,b2,kids2⟩,⟨k3,nm3,s3,b3,kids3⟩,ib,incl,eb,ext⟩:=a
 simp only [An.cells,Tm.cells,List.cons_append,List.nil_append] at h1 h2 h3 ⊢
 by_cases hn:name.length≤100
 · have he := Zo5 (a := (name.length : Int)) (b := 100) (by omega)
   rw [decide_eq_true hn]
   refine Jw tOk fe21.ok rfl ?_
   repeat' first|refine Jk ?_|(apply qCl;rfl;rfl;rfl;rfl;first|exact h1 _|exact h2 _|exact h3 _)|refine Js ?_|refine Ji ?_|refine Jl ?_|refine Jt ?_|refine Jb ?_ ?_|refine Jo ?_|intro hb
   all_goals (subst_vars;rfl)
 · have he := ZnM (a := (name.length : Int)) (b := 100) (by omega)
   rw [decide_eq_false hn]
   refine Jw tOk fe21.ok rfl ?_
   repeat' first|refine Jk ?_|(apply qCl;rfl;rfl;rfl;rfl;first|exact h1 _|exact h2 _|exact h3 _)|refine Js ?_|refine Ji ?_|refine Jl ?_|refine Jt ?_|refine Jb ?_ ?_|refine Jo ?_|intro hb
   all_goals rfl
theorem ZeS (k:Int) (nm:Bs) (s:Int) (b:Bool) (kids:List Tm):Zcz (.mk k nm s b kids)=(decide (k=0)&&(decide (nm= [])&&(decide (s=0)&&decide (kids.length=0)))):=by
 unfold Zcz
 cases kids<;>cases nm<;>simp
 all_goals (by_cases h1:k=0<;>by_cases h2:s=0<;>simp [h1,h2])
theorem Zoc {a b:Bs} (h:a=b):ZV E0 .eql 9 (.str a) (.str b)=some (.bool true):=by
 show some (PV.bool (a==b))=_
 rw [h,beq_self_eq_true]
theorem ZnY {a b:Bs} (h:a≠b):ZV E0 .eql 9 (.str a) (.str b)=some (.bool false):=by
 show some (PV.bool (a==b))=_
 rw [beq_eq_false_iff_ne.2 h]
theorem ZiH (h:a≠b):ZV E0 .neq 3 (.int .i64 a) (.int .i64 b)=some (.bool true):=by
 show some (PV.bool (!(a==b)))=_
 rw [beq_eq_false_iff_ne.2 h]
 rfl
theorem ZnI {a b:Bs} (h:a≠b):ZV E0 .neq 9 (.str a) (.str b)=some (.bool true):=by
 show some (PV.bool (!(a==b)))=_
 rw [beq_eq_false_iff_ne.2 h]
 rfl
theorem Zuh (l:List Tm):ZV E0 .eql 3 (.int .i64 ((Za l).length:Int)) (.int .i64 0)=some (.bool (decide (l.length=0))):=by
 show some (PV.bool (((Za l).length:Int)==0))=_
 rw [Zb]
 congr 2
 rw [Bool.eq_iff_iff]
 simp
theorem ZnD (t:Tm):∀ H,CallOk E0 Tryz.prog 104 [.agg t.cells] H (.bool (Zcz t)) H:=by
 obtain ⟨k,nm,s,b,kids⟩:=t
 rw [ZeS]
 have hl:=Zuh kids
 simp only [Tm.cells]
 generalize decide (kids.length=0)=D at hl ⊢
 by_cases h1:k=0
 · rw [decide_eq_true h1]
   have e1:=ZdT h1
   by_cases h2:nm= []
   · rw [decide_eq_true h2]
     have e2:=Zoc h2
     by_cases h3:s=0
     · rw [decide_eq_true h3]
       have e3:=ZdT h3
       clear h1 h2 h3
       refine Jw tOk fe104.ok rfl ?_
       repeat' first|refine Ji ?_|refine Jl ?_|refine Jt ?_|refine Jo ?_|fail
       all_goals rfl
     · rw [decide_eq_false h3]
       have e3:=V9 h3
       refine Jw tOk fe104.ok rfl ?_
       repeat' first|refine Jk ?_|refine Ji ?_|refine Jt ?_|refine Jo ?_|fail
       all_goals rfl
   · rw [decide_eq_false h2]
     have e2:=ZnY h2
     refine Jw tOk fe104.ok rfl ?_
     repeat' first|refine Jk ?_|refine Ji ?_|refine Jt ?_|refine Jo ?_|fail
     all_goals rfl
 · rw [decide_eq_false h1]
   have e1:=V9 h1
   refine Jw tOk fe104.ok rfl ?_
   repeat' first|refine Jk ?_|refine Ji ?_|refine Jt ?_|refine Jo ?_|fail
   all_goals rfl
end Go.Vm.Seat
