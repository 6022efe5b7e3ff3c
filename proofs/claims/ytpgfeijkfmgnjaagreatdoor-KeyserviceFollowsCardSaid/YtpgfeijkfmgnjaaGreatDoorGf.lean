/-
  Readers of a service: their validity, in the program and in the document.
-/
import Derived.Test.YtpgfeijkfmgnjaaGreatDoorGa
set_option maxHeartbeats 0
set_option maxRecDepth 100000
namespace Go.Vm.Seat
variable {a b:Int}
open Go.Proofs
theorem ZfD (n:Nat) (x y:Tm):under n (.tup [.agg x.cells,.agg y.cells])=true:=by
 have h1:=YP n x
 have h2:=YP n y
 simp only [under,ZI,Bool.and_true] at h1 h2 ⊢
 simp [h1,h2]
theorem uE (n m:Int) (w:Bool) (t:Tm):ZI 3 [.ptr 2 2 0 0,.int .i64 n,.int .i64 m,.bool w,.agg t.cells]=true:=by
 have:=YP 3 t
 simp only [ZI,under,Bool.and_true] at this ⊢
 simpa using this
theorem ZqK (h:a=b):ZP E7 .eql 3 (.int .i64 a) (.int .i64 b)=some (.bool true):=by
 show some (PV.bool (a==b))=_
 rw [h,beq_self_eq_true]
theorem Zn2 (h:a≠b):ZP E7 .eql 3 (.int .i64 a) (.int .i64 b)=some (.bool false):=by
 show some (PV.bool (a==b))=_
 rw [beq_eq_false_iff_ne.2 h]
theorem ZoO (h:a≤b):ZP E7 .leq 3 (.int .i64 a) (.int .i64 b)=some (.bool true):=by
 show some (PV.bool (decide (a≤b)))=_
 rw [decide_eq_true h]
theorem Zog (h:¬ a≤b):ZP E7 .leq 3 (.int .i64 a) (.int .i64 b)=some (.bool false):=by
 show some (PV.bool (decide (a≤b)))=_
 rw [decide_eq_false h]
theorem c78 : ∀ (f : Nat) {n m : Nat}, m ≤ f → 1 ≤ n → n ≤ m → m ≤ 32 → ∀ (w : Bool) (old : Tm) (p : List Tm × Bool) (b : Bool), ∃ b', ∀ A B, Yw 3 A = true → Yw 3 B = true →
  CallOk E7 Tryz.prog 78 [.ptr 2 2 0 0,.int .i64 (n:Int),.int .i64 (m:Int),.bool w,.agg old.cells] ⟨[A,B,prB b p.1 p.2],0,[],0⟩ (.tup [.agg (Wn f n m w old p).1.1.cells,.agg (Wn f n m w old p).1.2.cells]) ⟨[A,B,prB b' (Wn f n m w old p).2.1 (Wn f n m w old p).2.2],0,[],0⟩
 |0,n,m,h,h1,h2,_=>by omega
 | f + 1, n, m, hm, h1, hnm, h32 => by
   intro w old p b
   have hch:=fun H=>Zfh (c70 h32 H)
   have hhp:=Y8 m
   by_cases hn:n=m
   · have he := ZqK (a := (n : Int)) (b := (m : Int)) (by omega)
     simp only [Wn,if_pos hn]
     cases w with
     | true =>
       refine ⟨b,fun A B hA hB=>Zcl ?_ (ZfD _ _ _) hA hB (Vl _ _ _ _)⟩
       simp only [if_true]
       generalize prB b p.1 p.2=X0
       obtain ⟨k,nm,s,tb,kz⟩:=old
       simp only [Tm.cells]
       refine Z4 (own:=(fun d=>[29999,50018,50024,50026,40200,40201,40208,40209].any (Nat.beq d))) WF fe78.ok ?_
       refine Wp.seq ?_
       repeat' first|refine Ji ?_|refine Jt ?_|refine Jo ?_|refine Jh ?_|(apply Wp.drawS WF follows;kernel_rfl;rfl)|fail
       all_goals exact RetR.ret rfl ⟨rfl,_,rfl⟩
     | false =>
       obtain ⟨b2,hx⟩:=Zac b p
       refine ⟨b2,fun A B hA hB=>Zcl ?_ (ZfD _ _ _) hA hB (Vl _ _ _ _)⟩
       simp only [Bool.false_eq_true,if_false]
       have hx:=(hx A B hA hB).ext (ext:=[.cells 4 [old.cells],.cells 4 [Tm.zero.cells],.cells 4 [Tm.zero.cells]]) rfl rfl (by simp [hA,hB,Vl]) (Nat.zero_le _)
       rw [Zk] at hx
       generalize YM p=Q at hx ⊢
       obtain ⟨y,q⟩:=Q
       simp only [] at hx ⊢
       generalize prB b p.1 p.2=X0 at hx ⊢
       generalize prB b2 q.1 q.2=X1 at hx ⊢
       obtain ⟨k,nm,s,tb,kz⟩:=old
       obtain ⟨k1,nm1,s1,tb1,kz1⟩:=y
       simp only [Tm.cells] at hx ⊢
       refine Z4 (own:=(fun d=>[29999,50018,50024,50026,40200,40201,40208,40209].any (Nat.beq d))) WF fe78.ok ?_
       refine Wp.seq ?_
       repeat' first|refine Jc hx ?_|refine Ji ?_|refine Jt ?_|refine Jo ?_|refine Jh ?_|(apply Wp.drawS WF follows;kernel_rfl;rfl)|fail
       all_goals exact RetR.ret rfl ⟨rfl,_,rfl⟩
   · have he := Zn2 (a := (n : Int)) (b := (m : Int)) (by omega)
     have hhl:=XG (n:=m) (by omega)
     simp only [Wn,if_neg hn]
     by_cases hlt:n≤Zd m
     · have hb1 := ZoO (a := (n : Int)) (b := (Zd m : Int)) (by omega)
       obtain ⟨b1,hr⟩:=c78 f (n:=n) (m:=Zd m) (by omega) h1 hlt (by omega) w old p b
       obtain ⟨b2,hx⟩:=Zac b1 (Wn f n (Zd m) w old p).2
       have hN:=fun H=>Zfh (Zns (Wn f n (Zd m) w old p).1.2 (YM (Wn f n (Zd m) w old p).2).1 H)
       refine ⟨b2,fun A B hA hB=>Zcl ?_ (by simp only [if_pos hlt];exact ZfD _ _ _) hA hB (Vl _ _ _ _)⟩
       have hr:=hr A B hA hB
       simp only [if_pos hlt]
       generalize Wn f n (Zd m) w old p=Q at hr hx hN ⊢
       obtain ⟨⟨x,y⟩,q⟩:=Q
       simp only [] at hr hx hN ⊢
       generalize YM q=Q2 at hx hN ⊢
       obtain ⟨z,q2⟩:=Q2
       simp only [] at hr hx hN ⊢
       have hs:=ZeL hx rfl (Vl 3 b1 q.1 q.2) (by simp [prB]) hA hB [.cells 4 [old.cells],.cells 4 [Tm.zero.cells],.cells 4 [Tm.zero.cells],.cells 4 [x.cells],.cells 4 [y.cells]]
       have hr:=hr.ext (ext:=[.cells 4 [old.cells],.cells 4 [Tm.zero.cells],.cells 4 [Tm.zero.cells]]) rfl (uE _ _ _ old) (by simp [hA,hB,Vl]) (Nat.zero_le _)
       rw [Zk] at hs hr
       generalize YL y z=R at hN ⊢
       generalize prB b p.1 p.2=X0 at hr ⊢
       generalize prB b1 q.1 q.2=X1 at hr hs
       generalize prB b2 q2.1 q2.2=X2 at hs ⊢
       obtain ⟨k,nm,s,tb,kz⟩:=old
       obtain ⟨k1,nm1,s1,tb1,kz1⟩:=R
       obtain ⟨k2,nm2,s2,tb2,kz2⟩:=x
       obtain ⟨k3,nm3,s3,tb3,kz3⟩:=y
       obtain ⟨k4,nm4,s4,tb4,kz4⟩:=z
       simp only [Tm.cells] at hr hs hN ⊢
       refine Z4 (own:=(fun d=>[29999,6044,50025,50042,50048,50050,40329,40330,40336,40337,40338].any (Nat.beq d))) WF fe78.ok ?_
       refine Wp.seq ?_
       repeat' first|refine Jc (hch _) ?_|refine Jc hr ?_|refine Ji ?_|refine Jo ?_|refine Jd (hN _) ?_|(apply dCs;rfl;rfl;rfl;rfl;rfl;exact hs;exact IsH.mkN;rfl;rfl)|refine Jh ?_|(apply Wp.drawS WF follows;kernel_rfl;rfl)|fail
       all_goals exact RetR.ret rfl ⟨rfl,_,rfl⟩
     · have hb1 := Zog (a := (n : Int)) (b := (Zd m : Int)) (by omega)
       obtain ⟨b1,hr⟩:=c78 f (n:=n-Zd m) (m:=m-Zd m) (by omega) (by omega) (by omega) (by omega) false old p b
       obtain ⟨b2,hx⟩:=Zac b1 (Wn f (n-Zd m) (m-Zd m) false old p).2
       have hN1:=fun H=>Zfh (Zns (YM (Wn f (n-Zd m) (m-Zd m) false old p).2).1 (Wn f (n-Zd m) (m-Zd m) false old p).1.1 H)
       have hN2:=fun H=>Zfh (Zns (YM (Wn f (n-Zd m) (m-Zd m) false old p).2).1 (Wn f (n-Zd m) (m-Zd m) false old p).1.2 H)
       refine ⟨b2,fun A B hA hB=>Zcl ?_ (by simp only [if_neg hlt];exact ZfD _ _ _) hA hB (Vl _ _ _ _)⟩
       have hr:=hr A B hA hB
       simp only [if_neg hlt]
       have w1:IntKind.i64.wrap ((n:Int)-(Zd m:Int))=((n-Zd m:Nat):Int):=by
        rw [IntWalk.i64_in _ (by omega)];omega
       have w2:IntKind.i64.wrap ((m:Int)-(Zd m:Int))=((m-Zd m:Nat):Int):=by
        rw [IntWalk.i64_in _ (by omega)];omega
       generalize Wn f (n-Zd m) (m-Zd m) false old p=Q at hr hx hN1 hN2 ⊢
       rw [← w1, ← w2] at hr
       obtain ⟨⟨x,y⟩,q⟩:=Q
       simp only [] at hr hx hN1 hN2 ⊢
       generalize YM q=Q2 at hx hN1 hN2 ⊢
       obtain ⟨z,q2⟩:=Q2
       simp only [] at hr hx hN1 hN2 ⊢
       have hx:=(hx A B hA hB).ext (ext:=[.cells 4 [old.cells],.cells 4 [Tm.zero.cells],.cells 4 [Tm.zero.cells],.cells 4 [x.cells],.cells 4 [y.cells]]) rfl rfl (by simp [hA,hB,Vl]) (Nat.zero_le _)
       have hr:=hr.ext (ext:=[.cells 4 [old.cells],.cells 4 [Tm.zero.cells],.cells 4 [Tm.zero.cells]]) rfl (uE _ _ _ old) (by simp [hA,hB,Vl]) (Nat.zero_le _)
       rw [Zk] at hx hr
       generalize YL z x=R at hN1 ⊢
       generalize YL z y=R' at hN2 ⊢
       generalize prB b p.1 p.2=X0 at hr ⊢
       generalize prB b1 q.1 q.2=X1 at hr hx
       generalize prB b2 q2.1 q2.2=X2 at hx ⊢
       obtain ⟨k,nm,s,tb,kz⟩:=old
       obtain ⟨k1,nm1,s1,tb1,kz1⟩:=R
       obtain ⟨k2,nm2,s2,tb2,kz2⟩:=x
       obtain ⟨k3,nm3,s3,tb3,kz3⟩:=y
       obtain ⟨k4,nm4,s4,tb4,kz4⟩:=z
       obtain ⟨k5,nm5,s5,tb5,kz5⟩:=R'
       simp only [Tm.cells] at hr hx hN1 hN2 ⊢
       refine Z4 (own:=(fun d=>[29999,50050,50056,50058,40483,40489,40490,40507,40512,40513,40514].any (Nat.beq d))) WF fe78.ok ?_
       refine Wp.seq ?_
       repeat' first|(apply qCl;rfl;rfl;rfl;rfl;first|exact hch _|exact hr|exact hx)|refine Ji ?_|refine Jo ?_|refine Jd (hN1 _) ?_|refine Jd (hN2 _) ?_|refine Jh ?_|(apply Wp.drawS WF follows;kernel_rfl;rfl)|fail
       all_goals exact RetR.ret rfl ⟨rfl,_,rfl⟩
theorem ZeS {S : Nat} (hS : 1 ≤ S) {old : Tm} (ho : old.Ok) (hos : old.size ≤ S) : ∀ (f n m : Nat) (w : Bool) {p : List Tm × Bool}, (∀ x, x ∈ p.1 → x.Ok ∧ x.size ≤ S) →
  ((Wn f n m w old p).1.1.Ok∧(Wn f n m w old p).1.1.size≤(f+1)*(S+4))∧((Wn f n m w old p).1.2.Ok∧(Wn f n m w old p).1.2.size≤(f+1)*(S+4))∧∀ x,x∈(Wn f n m w old p).2.1→x.Ok∧x.size≤S
 | 0, n, m, w, p, hp => by
   have hz:Tm.zero.Ok∧Tm.zero.size≤(0+1)*(S+4):=⟨Tm.ok_zero,by simp [Tm.zero,Tm.size,Zx]⟩
   exact ⟨hz,hz,hp⟩
 | f + 1, n, m, w, p, hp => by
   have e:(f+1+1)*(S+4)=(f+1)*(S+4)+(S+4):=by rw [Nat.succ_mul]
   have e0:S≤(f+1+1)*(S+4):=by rw [e];omega
   simp only [Wn]
   split
   · split
     · exact ⟨⟨ho,by simp only [];omega⟩,⟨ho,by simp only [];omega⟩,hp⟩
     · obtain ⟨b1, b2, b3⟩ := UZ hS hp
       exact ⟨⟨b1,by simp only [];omega⟩,⟨b1,by simp only [];omega⟩,b3⟩
   · split
     · obtain ⟨⟨a1, a2⟩, ⟨a3, a4⟩, a5⟩ := ZeS hS ho hos f n (Zd m) w hp
       obtain ⟨b1,b2,b3⟩:=UZ hS a5
       refine ⟨⟨a1,by simp only [];omega⟩,⟨VG a3 b1,?_⟩,b3⟩
       simp only [UR];omega
     · obtain ⟨⟨a1, a2⟩, ⟨a3, a4⟩, a5⟩ := ZeS hS ho hos f (n - Zd m) (m - Zd m) false hp
       obtain ⟨b1,b2,b3⟩:=UZ hS a5
       refine ⟨⟨VG b1 a1,?_⟩,⟨VG b1 a3,?_⟩,b3⟩
       all_goals (simp only [UR];omega)
theorem Zqi {n m : Nat} (h1 : 1 ≤ n) (h2 : n ≤ m) (h32 : m ≤ 32) (old : Tm) (l : List Tm) (b : Bool) : ∃ b', ∀ A B, Yw 3 A = true → Yw 3 B = true →
  CallOk E7 Tryz.prog 78 [.ptr 2 2 0 0,.int .i64 (n:Int),.int .i64 (m:Int),.bool true,.agg old.cells] ⟨[A,B,prB b l false],0,[],0⟩ (.tup [.agg (Wn 32 n m true old (l,false)).1.1.cells,.agg (Wn 32 n m true old (l,false)).1.2.cells]) ⟨[A,B,prB b' (Wn 32 n m true old (l,false)).2.1 (Wn 32 n m true old (l,false)).2.2],0,[],0⟩:=
 c78 32 h32 h1 h2 h32 true old (l,false) b
theorem Zom (h t:Tm) (n i:Int) (b:Bool) (L:List (List PV)):ZJ [.agg h.cells,.int .i64 n,.agg t.cells,.int .i64 i,slV b 4 L]=some [.agg h.cells,.int .i64 n,.agg t.cells,.int .i64 i,slV b 4 L]:=by
 obtain ⟨k,nm,s,tb,kz⟩:=h
 obtain ⟨k',nm',s',tb',kz'⟩:=t
 simp only [Tm.cells]
 have e1:∀ (k:Int) (nm:List UInt8) (s:Int) (tb:Bool) (kz:List Tm),frzG (.agg [.int .i64 k,.str nm,.int .i64 s,slV tb 4 (Za kz)])=some (.agg [.int .i64 k,.str nm,.int .i64 s,slV tb 4 (Za kz)]):=fun k nm s tb kz=>by
  simp only [frzG,XY,ZD];rfl
 simp only [ZJ,Yy,e1]
 rfl
theorem c34 {old h : Tm} (ho : old.Ok) (hos : old.size ≤ 20000) (hh : h.Ok) (hhs : h.size ≤ 20000) {l : List Tm} (hl : ∀ x, x ∈ l → x.Ok ∧ x.size ≤ 20000) (b : Bool) {n m : Int} (hn : (Lit.int .i64 n).wf = true) (hm : (Lit.int .i64 m).wf = true) : ∀ H,
  CallOk E0 Tryz.prog 34 [.agg old.cells,.int .i64 n,.agg h.cells,.int .i64 m,slV b 4 (Za l)] H (.bool (V8 old n h m l)) H:=by
 by_cases hC:m<1∨32<m∨n<1∨m<n∨32<l.length
 · unfold V8
   rw [if_pos hC]
   have hfz:=Zom old h n m b (Za l)
   have hlen:=Zb l
   obtain ⟨k,nm,s,tb,kz⟩:=old
   obtain ⟨k',nm',s',tb',kz'⟩:=h
   simp only [Tm.cells] at hfz ⊢
   refine Jw tOk fe34.ok rfl ?_ hfz
   repeat' first|refine Jk ?_|refine Jl ?_|refine Jt ?_|refine Jb ?_ ?_|refine Jo ?_|intro hb
   all_goals first
    | rfl
    | (exfalso;simp only [decide_eq_false_iff_not,hlen] at *;omega)
 · obtain ⟨n', rfl⟩ := Int.eq_ofNat_of_zero_le (show 0 ≤ n by omega)
   obtain ⟨m',rfl⟩:=Int.eq_ofNat_of_zero_le (show 0≤m by omega)
   have e0:∀ R,R=Wn 32 n' m' true old (l,false)→V8 old n' h m' l=(!R.2.2&&R.2.1.isEmpty&&decide (R.1.1.cmp old=0)&&decide (R.1.2.cmp h=0)):=fun R hR=>by
    subst hR
    unfold V8
    rw [if_neg hC]
    rfl
   obtain ⟨b',hr⟩:=Zqi (n:=n') (m:=m') (by omega) (by omega) (by omega) old l b
   obtain ⟨⟨x1,x2⟩,⟨y1,y2⟩, -⟩:=ZeS (S:=20000) (by omega) ho hos 32 n' m' true (p:=(l,false)) hl
   have hr:=hr (.cells 4 [old.cells]) (.cells 4 [h.cells]) (by have:=YP 3 old;simpa [Yw,under] using this) (by have:=YP 3 h;simpa [Yw,under] using this)
   have hs1:=fun H=>Zfh (c77 x1 ho (by omega) (by omega) H)
   have hs2:=fun H=>Zfh (c77 y1 hh (by omega) (by omega) H)
   have hbl:=Zll b l
   have hlen:=Zb l
   have hfz:=Zom old h n' m' b (Za l)
   obtain ⟨R,hR⟩:∃ R,R=Wn 32 n' m' true old (l,false):=⟨_,rfl⟩
   rw [e0 R hR]
   rw [← hR] at hr hs1 hs2
   clear x1 x2 y1 y2 e0 hR
   obtain ⟨⟨x,y⟩,q,f⟩:=R
   unfold prB at hr
   simp only [] at hr hs1 hs2 ⊢
   generalize decide (x.cmp old=0)=D at hs1 ⊢
   generalize decide (y.cmp h=0)=D' at hs2 ⊢
   generalize Za l=L at hr hbl hlen hfz ⊢
   have h1:decide ((m':Int)<1)=false:=by simp;omega
   have h2:decide ((32:Int)<(m':Int))=false:=by simp;omega
   have h3:decide ((n':Int)<1)=false:=by simp;omega
   have h4:decide ((m':Int)<(n':Int))=false:=by simp;omega
   have h5:decide ((32:Int)<(L.length:Int))=false:=by simp;omega
   obtain ⟨k,nm,s,tb,kz⟩:=old
   obtain ⟨k',nm',s',tb',kz'⟩:=h
   obtain ⟨k2,nm2,s2,tb2,kz2⟩:=x
   obtain ⟨k3,nm3,s3,tb3,kz3⟩:=y
   simp only [Tm.cells] at hr hs1 hs2 hfz ⊢
   cases q with
   | nil =>
     simp only [Za] at hr
     cases b'<;>cases f<;>simp only [Zq,Yd] at hr<;>cases D<;>cases D'
     all_goals
      refine Zef ?_
      refine Jw WF fe34.ok rfl ?_ hfz
      repeat' first|refine Jk ?_|(apply qCl;rfl;rfl;rfl;rfl;first|exact hr|exact hs1 _|exact hs2 _)|(apply qBd;rfl;rfl;rfl;assumption;exact IsV.aggN)|refine Jl ?_|refine Jt ?_|refine Jb ?_ ?_|refine Jo ?_|intro hb
     all_goals first
      | rfl
      | (exfalso;clear h1 h2 h3 h4 hr hs1 hs2;simp only [decide_eq_true_eq,decide_eq_false_iff_not] at *;omega)
      | (exfalso;clear hbl hfz hr hs1 hs2;simp_all;done)
   | cons c r =>
     simp only [Za,Zw] at hr
     generalize Za r=L' at hr
     generalize c.cells=C at hr
     have h6:(((L'.length+1:Nat):Int)==0)=false:=by simp;omega
     cases f
     all_goals
      refine Zef ?_
      refine Jw WF fe34.ok rfl ?_ hfz
      repeat' first|refine Jk ?_|refine Jc hr ?_|(apply qBd;rfl;rfl;rfl;assumption;exact IsV.aggN)|refine Jl ?_|refine Jt ?_|refine Jb ?_ ?_|refine Jo ?_|intro hb
     all_goals first
      | rfl
      | (exfalso;clear h1 h2 h3 h4 hr hs1 hs2;simp only [decide_eq_true_eq,decide_eq_false_iff_not] at *;omega)
      | (exfalso;clear hbl hfz hr hs1 hs2;simp_all;done)
theorem ZbX (h:a=b):ZP E0 .eql 3 (.int .i64 a) (.int .i64 b)=some (.bool true):=by
 show some (PV.bool (a==b))=_
 rw [h,beq_self_eq_true]
theorem VC (h:a≠b):ZP E0 .eql 3 (.int .i64 a) (.int .i64 b)=some (.bool false):=by
 show some (PV.bool (a==b))=_
 rw [beq_eq_false_iff_ne.2 h]
def ZiF (S:Nat) (c:Rd):Prop:=(c.svc.Ok∧c.svc.size≤S)∧(c.head.Ok∧c.head.size≤S)∧c.signed.Ok∧c.signed.size≤S
structure AnOk (a:An):Prop where
 e:a.entry.Ok
 h:a.head.Ok
 s:a.signed.Ok
 i:∀ t,t∈a.incl→t.Ok
 x:∀ t,t∈a.ext→t.Ok
 il:a.incl.length≤maxLen
 xl:a.ext.length≤maxLen
theorem ZeY (k:Int) (nm:Bs) (s:Int) (b:Bool) (kz:List Tm):QV (.mk k nm s b kz)=(decide (k=0)&&(decide (nm= [])&&(decide (s=0)&&decide (kz.length=0)))):=by
 unfold QV
 cases kz<;>cases nm<;>simp
 all_goals (by_cases h1:k=0<;>by_cases h2:s=0<;>simp [h1,h2])
theorem ZlH {a b:Bs} (h:a=b):ZP E0 .eql 9 (.str a) (.str b)=some (.bool true):=by
 show some (PV.bool (a==b))=_
 rw [h,beq_self_eq_true]
theorem ZlJ {a b:Bs} (h:a≠b):ZP E0 .eql 9 (.str a) (.str b)=some (.bool false):=by
 show some (PV.bool (a==b))=_
 rw [beq_eq_false_iff_ne.2 h]
theorem Zif (h:a≠b):ZP E0 .neq 3 (.int .i64 a) (.int .i64 b)=some (.bool true):=by
 show some (PV.bool (!(a==b)))=_
 rw [beq_eq_false_iff_ne.2 h]
 rfl
theorem ZnH {a b:Bs} (h:a≠b):ZP E0 .neq 9 (.str a) (.str b)=some (.bool true):=by
 show some (PV.bool (!(a==b)))=_
 rw [beq_eq_false_iff_ne.2 h]
 rfl
theorem Zuk (l:List Tm):ZP E0 .eql 3 (.int .i64 ((Za l).length:Int)) (.int .i64 0)=some (.bool (decide (l.length=0))):=by
 show some (PV.bool (((Za l).length:Int)==0))=_
 rw [Zb]
 congr 2
 rw [Bool.eq_iff_iff]
 simp
theorem Zob (t:Tm):∀ H,CallOk E0 Tryz.prog 74 [.agg t.cells] H (.bool (QV t)) H:=by
 obtain ⟨k,nm,s,b,kz⟩:=t
 rw [ZeY]
 have hl:=Zuk kz
 simp only [Tm.cells]
 generalize decide (kz.length=0)=D at hl ⊢
 by_cases h1:k=0
 · rw [decide_eq_true h1]
   have e1:=ZbX h1
   by_cases h2:nm= []
   · rw [decide_eq_true h2]
     have e2:=ZlH h2
     by_cases h3:s=0
     · rw [decide_eq_true h3]
       have e3:=ZbX h3
       clear h1 h2 h3
       refine Jw tOk fe74.ok rfl ?_
       repeat' first|refine Ji ?_|refine Jl ?_|refine Jt ?_|refine Jo ?_|fail
       all_goals rfl
     · rw [decide_eq_false h3]
       have e3:=VC h3
       refine Jw tOk fe74.ok rfl ?_
       repeat' first|refine Jk ?_|refine Ji ?_|refine Jt ?_|refine Jo ?_|fail
       all_goals rfl
   · rw [decide_eq_false h2]
     have e2:=ZlJ h2
     refine Jw tOk fe74.ok rfl ?_
     repeat' first|refine Jk ?_|refine Ji ?_|refine Jt ?_|refine Jo ?_|fail
     all_goals rfl
 · rw [decide_eq_false h1]
   have e1:=VC h1
   refine Jw tOk fe74.ok rfl ?_
   repeat' first|refine Jk ?_|refine Ji ?_|refine Jt ?_|refine Jo ?_|fail
   all_goals rfl
