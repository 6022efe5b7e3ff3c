/-
  Valid terms of the reference.
-/
import Derived.Test.YtgnklbkmfeafaaaGreatDoorTv
set_option maxHeartbeats 0
set_option maxRecDepth 100000
namespace Go.Vm.Seat
variable {d e k lvl s:Int} {nm:List UInt8} {i n:Nat} {b:Bool} {kz l:List Tm} {t:Tm} {A:Box}
open Go.Proofs
theorem Zc2 (h:¬ (k=1∨k=2∨k=3)∨s<0∨5<s∨(k=3∧s≠0)∨(k≠3∧0<n)):Wo k nm s n=1:=if_pos h
theorem Zec (h:¬ (¬ (k=1∨k=2∨k=3)∨s<0∨5<s∨(k=3∧s≠0)∨(k≠3∧0<n))) (h2:WK nm=false):Wo k nm s n=2:=by unfold Wo;rw [if_neg h,if_pos h2]
theorem ZdB (h:¬ (¬ (k=1∨k=2∨k=3)∨s<0∨5<s∨(k=3∧s≠0)∨(k≠3∧0<n))) (h2:WK nm=true) (h3:8<n):Wo k nm s n=3:=by unfold Wo;rw [if_neg h,if_neg (by simp [h2]),if_pos h3]
theorem Zdb (h:¬ (¬ (k=1∨k=2∨k=3)∨s<0∨5<s∨(k=3∧s≠0)∨(k≠3∧0<n))) (h2:WK nm=true) (h3:¬ 8<n):Wo k nm s n=0:=by unfold Wo;rw [if_neg h,if_neg (by simp [h2]),if_neg h3]
theorem Uj {n:Int} (h:Wo k nm s kz.length=e) (he:e≠0):(Tm.mk k nm s b kz).check lvl n d=(e,n+1,if d<lvl then lvl else d):=by
 simp only [Tm.check];rw [h,if_pos he]
theorem ZeU {n:Int} (h:Wo k nm s kz.length=0):(Tm.mk k nm s b kz).check lvl n d=YP kz (lvl+1) (n+1) (if d<lvl then lvl else d):=by
 simp only [Tm.check];rw [h,if_neg (by simp)]
theorem Zba {n n' d':Int} (h:l[i]? = some t) (hc:t.check lvl n d=(e,n',d')):YP (l.drop i) lvl n d=if e≠0 then (e,n',d') else YP (l.drop (i+1)) lvl n' d':=by
 rw [ZA h];simp only [YP,hc]
theorem ZcC (h:l[i]? = some t):ZW (l.drop i)=t.size+ZW (l.drop (i+1)):=by
 rw [ZA h];simp only [ZW]
mutual
theorem Vw {n m:Nat} (h:n≤m):∀ {p:PV},under n p=true→under m p=true
 | .ptr id _ _ _,hp=>by simp only [under,Nat.blt_eq] at *;omega
 | .own id _ _ _,hp=>by simp only [under,Nat.blt_eq] at *;omega
 | .map id,hp=>by simp only [under,Nat.blt_eq] at *;omega
 | .agg cs,hp=>by simp only [under] at *;exact YV h hp
 | .tup cs,hp=>by simp only [under] at *;exact YV h hp
 | .fn _ cs,hp=>by simp only [under] at *;exact YV h hp
 | .undef,_| .bool _,_| .int _ _,_| .str _,_| .sl _ _ _,_| .fptr _ _,_| .nilp,_| .nils,_| .nilm,_| .nilf,_=>rfl
theorem YV {n m:Nat} (h:n≤m):∀ {l:List PV},Zo n l=true→Zo m l=true
 | [],_=>rfl
 | p :: r, hl => by
   simp only [Zo,Bool.and_eq_true] at *
   exact ⟨Vw h hl.1,YV h hl.2⟩
end
theorem Zem {m:Nat} (h:n≤m) {b:Box} (hb:ZO n b=true):ZO m b=true:=by
 cases b with
 |cells es el=>exact List.all_eq_true.2 fun x hx=>YV h (List.all_eq_true.1 hb x hx)
 | map es =>
   refine List.all_eq_true.2 fun x hx=>?_
   have:=List.all_eq_true.1 hb x hx
   simp only [Bool.and_eq_true] at this ⊢
   exact ⟨Vw h this.1,Vw h this.2⟩
 |sp t cs=>exact YV h hb
 |dead=>rfl
theorem UT (hA:ZO n A=true) (k k':IntKind) (x y:Int):[A,.cells 1 [[.int k x]],.cells 1 [[.int k' y]]].all (ZO n)=true:=by
 simp only [List.all_cons,hA];rfl
theorem Zhn {B:Box} (hA:ZO n A=true) (k k':IntKind) (x y:Int) (hB:ZO n B=true):[A,.cells 1 [[.int k x]],.cells 1 [[.int k' y]],B].all (ZO n)=true:=by
 simp only [List.all_cons,hA,hB];rfl
theorem ZjV (ht : t.Ok) : ∀ {A : Box}, ZO 3 A = true → ∀ {lvl n d : Int}, 0 ≤ lvl → lvl + t.size < 4611686018427387904 → 0 ≤ n → n + t.size < 4611686018427387904 → 0 ≤ d → d < 4611686018427387904 →
  CallOk E0 Tryz.prog 163 [.agg t.cells,.int .i64 lvl,.ptr 1 1 0 0,.ptr 2 1 0 0] ⟨[A,.cells 1 [[.int .i64 n]],.cells 1 [[.int .i64 d]]],0,[],0⟩ (.int .i64 (t.check lvl n d).1) ⟨[A,.cells 1 [[.int .i64 (t.check lvl n d).2.1]],.cells 1 [[.int .i64 (t.check lvl n d).2.2]]],0,[],0⟩:=by
 induction ht with
 | @mk k nm s b kz hk hs hn hl hok ih=>
 intro A hA lvl n d hl0 hl1 hn0 hn1 hd0 hd1
 simp only [Tm.size] at hl1 hn1
 obtain ⟨e,n',d',hchk⟩:∃ e n' d',(Tm.mk k nm s b kz).check lvl n d=(e,n',d'):=⟨_,_,_,rfl⟩
 rw [hchk]
 have hw:IntKind.i64.wrap (n+1)=n+1:=IntWalk.i64_in _ (by omega)
 have hw2:IntKind.i64.wrap (lvl+1)=lvl+1:=IntWalk.i64_in _ (by omega)
 have hc:=ZkU nm hn
 obtain ⟨N,hN⟩:∃ N,N=WK nm:=⟨_,rfl⟩
 rw [← hN] at hc
 refine U4 (own:=fun _=>false) tOk fe163.ok ?_
 refine Wp.seq ?_
 repeat' first|refine Jk ?_|refine Jc (hc _) ?_|refine Ji ?_|refine JJ ?_|refine Jl ?_|refine Jx ?_|refine Jt ?_|refine Jb ?_ ?_|(apply qT (ty:=0);rfl;rfl;rfl)|(apply qF (ty:=0);rfl;rfl;rfl)|refine Jz ?_ ?_|refine Jo ?_|intro hb
 all_goals first
  | (have h0 := Zc2 (k := k) (nm := nm) (s := s) (n := kz.length) (by clear ih hok hc hchk; simp only [Za, beq_iff_eq, bne_iff_ne, decide_eq_true_eq, decide_eq_false_iff_not, beq_eq_false_iff_ne, bne_eq_false_iff_eq] at *; omega)
     cases hchk.symm.trans (Uj h0 (by decide))
     exact DropF.ret [(8,.int .i64 1)] ⟨rfl,trivial⟩ rfl rfl (UT hA _ _ _ _) (RetE.ret rfl rfl (by rw [hw];rfl)))
  | (have h0 := Zec (k := k) (nm := nm) (s := s) (n := kz.length) (by clear ih hok hc hchk; simp only [Za, beq_iff_eq, decide_eq_true_eq, decide_eq_false_iff_not, beq_eq_false_iff_ne, bne_eq_false_iff_eq] at *; omega) (by rw [← hN]; simpa using hb)
     cases hchk.symm.trans (Uj h0 (by decide))
     exact DropF.ret [(8,.int .i64 2)] ⟨rfl,trivial⟩ rfl rfl (UT hA _ _ _ _) (RetE.ret rfl rfl (by rw [hw];rfl)))
  | (have h0 := ZdB (k := k) (nm := nm) (s := s) (n := kz.length) (by clear ih hok hc hchk; simp only [Za, beq_iff_eq, decide_eq_true_eq, decide_eq_false_iff_not, beq_eq_false_iff_ne, bne_eq_false_iff_eq] at *; omega) (by rw [← hN]; simpa using ‹(!N) = false›) (by simp [Za] at hb; omega)
     cases hchk.symm.trans (Uj h0 (by decide))
     exact DropF.ret [(8,.int .i64 3)] ⟨rfl,trivial⟩ rfl rfl (UT hA _ _ _ _) (RetE.ret rfl rfl (by rw [hw];rfl)))
  | skip
 all_goals
  have h0:Wo k nm s kz.length=0:=Zdb (by clear ih hok hc hchk;simp only [Za,beq_iff_eq,decide_eq_false_iff_not,beq_eq_false_iff_ne,bne_eq_false_iff_eq] at *;omega) (by rw [← hN];simpa using ‹(!N)=false›) (by simp [Za] at hb;omega)
  have hgo:=hchk.symm.trans (ZeU h0)
  clear hchk hc h0
  refine Wp.while (fun m tm H=>∃ (i:Nat),∃ base,∃ n1 d1:Int,i+m=kz.length∧(e,n',d')=YP (kz.drop i) (lvl+1) n1 d1∧0≤n1∧n1+ZW (kz.drop i)<4611686018427387904∧0≤d1∧d1<4611686018427387904∧tm=ovr base [(1,.int .i64 lvl),(2,.ptr 1 1 0 0),(3,.ptr 2 1 0 0),(57,slV b 4 (Zb kz)),(58,.int .i64 (kz.length:Int)),(59,.int .i64 (i:Int))]∧H=⟨[A,.cells 1 [[.int .i64 n1]],.cells 1 [[.int .i64 d1]],.cells 4 [[.int .i64 k,.str nm,.int .i64 s,slV b 4 (Zb kz)]]],0,[],0⟩)
   (fun m tm H hI=>Wp.drop ?_) kz.length _ _ ⟨0,_,n+1,if d<lvl then lvl else d,by omega,by simpa using hgo,by omega,by simp;omega,by split<;>omega,by split<;>omega,Zf ⟨rfl,rfl,rfl,rfl,Zz (by rw [Za]),rfl,trivial⟩,by rw [hw]⟩
  clear hgo
  obtain ⟨i,base,n1,d1,hi,hgo,hn2,hn3,hd2,hd3,rfl,rfl⟩:=hI
  unfold maxLen at hl
  by_cases hlt:i<kz.length
  · obtain ⟨t', ht'⟩ : ∃ t', kz[i]? = some t' := ⟨kz[i], by simp⟩
    have hm:t'∈kz:=List.mem_of_getElem? ht'
    have hle:=Un hm
    have hsd:=ZcC ht'
    have hr:=t'.check_range (lvl+1) n1 d1
    obtain ⟨e1,n2,d2,h1⟩:∃ e1 n2 d2,t'.check (lvl+1) n1 d1=(e1,n2,d2):=⟨_,_,_,rfl⟩
    have hc:=ih t' hm hA (lvl:=lvl+1) (n:=n1) (d:=d1) (by omega) (by omega) (by omega) (by omega) (by omega) (by omega)
    rw [h1] at hc hr
    simp only [] at hc hr
    rw [← hw2] at hc
    rw [Zba ht' h1] at hgo
    obtain ⟨k',nm',s',b',kz'⟩:=t'
    have hc:=hc.ext (ext:=[.cells 4 [[.int .i64 k,.str nm,.int .i64 s,slV b 4 (Zb kz)]],.cells 4 [[.int .i64 k',.str nm',.int .i64 s',slV b' 4 (Zb kz')]]]) rfl (by simp [Zo,under,Tm.cells,Ze]) (UT hA _ _ _ _) (by simp)
    have hj:=Zh ht'
    repeat' first|refine Jk ?_|refine Jc hc ?_|refine Ji ?_|refine JJ ?_|refine Jl ?_|refine Jx ?_|refine Jt ?_|refine Jb ?_ ?_|(apply qT (ty:=0);rfl;rfl;rfl)|(apply qF (ty:=0);rfl;rfl;rfl)|refine Jz ?_ ?_|refine Jo ?_|intro hb
    · have hb1 : e1 ≠ 0 := by simpa using hb
      rw [if_pos hb1] at hgo
      cases hgo
      exact DropF.ret [(8,.int .i64 _)] ⟨rfl,trivial⟩ rfl rfl (UT hA _ _ _ _) (RetE.ret rfl rfl rfl)
    · have hb1 : ¬ e1 ≠ 0 := by simpa using hb
      rw [if_neg hb1] at hgo
      exact DropQ.go [(1,.int .i64 lvl),(2,.ptr 1 1 0 0),(3,.ptr 2 1 0 0),(57,slV b 4 (Zb kz)),(58,.int .i64 (kz.length:Int)),(59,.int .i64 ((i+1:Nat):Int))] ⟨rfl,rfl,rfl,rfl,rfl,Zz (YB (n:=i+1) (by omega)),trivial⟩
       (by simp [Ze,under]) rfl (Zhn (Zem (show 3≤4 by omega) hA) _ _ _ _ (by simp [ZO,Zo,Ze,under])) (LoopI.go (m-1) (by omega) ⟨i+1,_,n2,d2,by omega,hgo,by omega,by omega,by omega,by omega,rfl,rfl⟩)
    · exfalso;simp at hb;omega
  · have e : i = kz.length := by omega
    subst e
    repeat' first|refine Jk ?_|refine Ji ?_|refine JJ ?_|refine Jl ?_|refine Jx ?_|refine Jt ?_|refine Jb ?_ ?_|(apply qT (ty:=0);rfl;rfl;rfl)|(apply qF (ty:=0);rfl;rfl;rfl)|refine Jz ?_ ?_|refine Jo ?_|intro hb
    · exfalso;simp at hb
    · simp only [List.drop_length, YP] at hgo
      cases hgo
      exact DropF.ret [(8,.int .i64 0)] ⟨rfl,trivial⟩ rfl rfl (UT hA _ _ _ _) (RetE.ret rfl rfl rfl)
theorem ZkA (ht:t.Ok) (hsz:t.size<4611686018427387000):∀ H,CallOk E0 Tryz.prog 152 [.agg t.cells] H (.int .i64 t.valid) H:=by
 have hc:=ZjV ht (A:= .cells 4 [t.cells]) (by obtain ⟨k,nm,s,b,kz⟩:=t;simp [ZO,Tm.cells,Zo,Ze,under]) (lvl:=1) (n:=0) (d:=0) (by omega) (by omega) (by omega) (by omega) (by omega) (by omega)
 rw [t.valid_check]
 obtain ⟨e,n,d,h1⟩:∃ e n d,t.check 1 0 0=(e,n,d):=⟨_,_,_,rfl⟩
 rw [h1] at hc ⊢
 obtain ⟨k,nm,s,b,kz⟩:=t
 refine Jw tOk fe152.ok rfl ?_
 repeat' first|refine Jk ?_|refine Jc hc ?_|refine Jt ?_|refine Jb ?_ ?_|refine Jo ?_|intro hb
 all_goals (refine Zz ?_;clear hc h1;simp only [bne_iff_ne,bne_eq_false_iff_eq,decide_eq_true_eq,decide_eq_false_iff_not] at *;(repeat' split)<;>omega)
theorem ZeW {d:UInt8}:Yr d=(XX (Int.ofNat d.toNat)||(Uz (Int.ofNat d.toNat)||(decide ((d.toNat:Int)=95)||decide ((d.toNat:Int)=35)))):=rfl
theorem Zi7 (s:List UInt8) (hs:s.length≤maxLen):∀ H,CallOk E0 Tryz.prog 126 [.str s] H (.bool (WK s)) H:=by
 refine Jw tOk fe126.ok rfl ?_
 cases s with
 | nil =>
   repeat' first|refine Jk ?_|refine JX ?_|refine Ji ?_|refine Jl ?_|refine Jt ?_|refine Jb ?_ ?_|refine Jo ?_|intro hb
   all_goals first
    | rfl
    | (exfalso;simp at hb;done)
 | cons c r =>
   have hc:=Zjd (Int.ofNat c.toNat)
   obtain ⟨L,hL⟩:∃ L,L=XX (Int.ofNat c.toNat):=⟨_,rfl⟩
   have hj:=Vi (show (c::r)[0]? = some c from rfl)
   rw [XE]
   obtain ⟨s,hss⟩:∃ s,s=c::r:=⟨_,rfl⟩
   rw [← hss] at hs hj ⊢
   have hne:s.length≠0:=by rw [hss];simp
   rw [← hL] at hc ⊢
   repeat' first|refine Jk ?_|refine Jc (hc _) ?_|refine JX ?_|refine Ji ?_|refine Jl ?_|refine Jt ?_|refine Jb ?_ ?_|refine Jo ?_|intro hb
   all_goals first
    | (exfalso;exact hne (by simpa using hb))
    | (refine V6 (.inl ?_);simp at hb;simp;omega)
    | (refine V6 (.inr (.inl (by simpa using hb)));done)
    | skip
   have h24:s.length≤24:=by
    have:= ‹decide (24<Int.ofNat s.length)=false›
    simp at this;omega
   have hlt:L=true:=by simpa using hb
   rw [show (decide (s.length≤24)&&(L&&s.all Yr))=s.all Yr by simp only [h24,hlt,decide_true,Bool.true_and]]
   refine Wp.while (fun m tm H=>∃ (i:Nat),∃ base,i+m=s.length∧(s.take i).all Yr=true∧tm=ovr base [(0,.str s),(3,.int .i64 (i:Int))]∧H=⟨[],0,[],0⟩)
    (fun m tm H hI=>?_) s.length _ _ ⟨0,_,by omega,by simp,Zf ⟨rfl,rfl,trivial⟩,rfl⟩
   clear hc hj
   obtain ⟨i,base,hi,hall,rfl,rfl⟩:=hI
   by_cases hlt2:i<s.length
   · obtain ⟨d, hd⟩ : ∃ d, s[i]? = some d := ⟨s[i], by simp⟩
     have hj:=Vi hd
     have hc:=Zjd (Int.ofNat d.toNat)
     have hc2:=ZjJ (Int.ofNat d.toNat)
     have hp:=ZeW (d:=d)
     generalize XX (Int.ofNat d.toNat)=D1 at hc hp
     generalize Uz (Int.ofNat d.toNat)=D2 at hc2 hp
     repeat' first|refine Jk ?_|refine Jc (hc _) ?_|refine Jc (hc2 _) ?_|refine JX ?_|refine Ji ?_|refine Jl ?_|refine Jt ?_|refine Jb ?_ ?_|refine Jo ?_|intro hb
     all_goals first
      | (refine LoopI.go (m-1) (by omega) ⟨i+1,_,by omega,Zcn hd (by rw [hp];simp at hb;simp [hb]) hall,Zf ⟨rfl,Zz (YB (n:=i+1) (by unfold maxLen at hs;omega)),trivial⟩,rfl⟩;done)
      | (exfalso;simp at hb;omega)
      | skip
     have hq:Yr d=false:=by
      rw [hp]
      clear hc hc2 hj hp hd hall hi
      simp at *
      simp [*]
     rw [Wv hd hq]
   · have e : i = s.length := by omega
     subst e
     repeat' first|refine Jk ?_|refine JX ?_|refine Ji ?_|refine Jl ?_|refine Jt ?_|refine Jb ?_ ?_|refine Jo ?_|intro hb
     · exfalso;simp at hb
     · rw [← hall,List.take_length]
theorem Zj1 (k:Int) (nm:List UInt8) (s:Int) (b:Bool) (kz:List Tm) (hn:nm.length≤maxLen):∀ H,CallOk E0 Tryz.prog 148 [.agg [.int .i64 k,.str nm,.int .i64 s,slV b 4 (Zb kz)]] H (.int .i64 (Wo k nm s kz.length)) H:=by
 have hc:=Zi7 nm hn
 obtain ⟨N,hN⟩:∃ N,N=WK nm:=⟨_,rfl⟩
 rw [← hN] at hc
 refine Jw tOk fe148.ok rfl ?_
 repeat' first|refine Jk ?_|refine Jc (hc _) ?_|refine Jl ?_|refine Jt ?_|refine Jb ?_ ?_|refine Jo ?_|intro hb
 all_goals (refine Zz ?_;clear hc)
 all_goals first
  | exact (Zc2 (by simp only [Za,beq_iff_eq,bne_iff_ne,decide_eq_true_eq,decide_eq_false_iff_not,beq_eq_false_iff_ne,bne_eq_false_iff_eq] at *;omega)).symm
  | exact (Zec (by simp only [Za,beq_iff_eq,decide_eq_true_eq,decide_eq_false_iff_not,beq_eq_false_iff_ne,bne_eq_false_iff_eq] at *;omega) (by rw [← hN];simpa using hb)).symm
  | exact (ZdB (by simp only [Za,beq_iff_eq,decide_eq_true_eq,decide_eq_false_iff_not,beq_eq_false_iff_ne,bne_eq_false_iff_eq] at *;omega) (by rw [← hN];simpa using ‹(!N)=false›) (by simp [Za] at hb;omega)).symm
  | exact (Zdb (by simp only [Za,beq_iff_eq,decide_eq_false_iff_not,beq_eq_false_iff_ne,bne_eq_false_iff_eq] at *;omega) (by rw [← hN];simpa using ‹(!N)=false›) (by simp [Za] at hb;omega)).symm
theorem Zbn (h:l[i]? = some t) (he:t.nodes=e):XU (l.drop i)=if e≠0 then e else XU (l.drop (i+1)):=by
 rw [ZA h];simp only [XU,he]
theorem Zkt (ht:t.Ok):∀ H,CallOk E0 Tryz.prog 127 [.agg t.cells] H (.int .i64 t.nodes) H:=by
 induction ht with
 | @mk k nm s b kz hk hs hn hl hok ih=>
 have hc:=Zj1 k nm s b kz hn
 simp only [Tm.nodes]
 generalize Wo k nm s kz.length=e at hc
 refine Jw tOk fe127.ok rfl ?_
 repeat' first|refine Jc (hc _) ?_|refine Ji ?_|refine JJ ?_|refine Jl ?_|refine Jx ?_|refine Jt ?_|refine Jb ?_ ?_|refine Jo ?_|intro hb
 · have h1 : e ≠ 0 := by simpa using hb
   rw [if_pos h1]
 rw [if_neg (by simpa using hb)]
 clear hc
 refine Wp.while (fun m tm H=>∃ (i:Nat),∃ base,i+m=kz.length∧XU kz=XU (kz.drop i)∧tm=ovr base [(1,.ptr 0 4 0 0),(4,.int .i64 (i:Int))]∧H=⟨[.cells 4 [[.int .i64 k,.str nm,.int .i64 s,slV b 4 (Zb kz)]]],0,[],0⟩)
  (fun m tm H hI=>?_) kz.length _ _ ⟨0,_,by omega,by simp,Zf ⟨rfl,rfl,trivial⟩,rfl⟩
 obtain ⟨i,base,hi,hgo,rfl,rfl⟩:=hI
 rw [hgo]
 unfold maxLen at hl
 by_cases hlt:i<kz.length
 · obtain ⟨t', ht'⟩ : ∃ t', kz[i]? = some t' := ⟨kz[i], by simp⟩
   have hm:t'∈kz:=List.mem_of_getElem? ht'
   have hc:=ih t' hm
   obtain ⟨e1,he1⟩:∃ e1,t'.nodes=e1:=⟨_,rfl⟩
   rw [he1] at hc
   rw [Zbn ht' he1]
   obtain ⟨k',nm',s',b',kz'⟩:=t'
   have hj:=Zh ht'
   repeat' first|refine Jc (hc _) ?_|refine Ji ?_|refine JJ ?_|refine Jl ?_|refine Jx ?_|refine Jt ?_|refine Jb ?_ ?_|refine Jo ?_|intro hb
   · rw [if_pos (by simpa using hb)]
   · rw [if_neg (by simpa using hb)]
     exact LoopI.go (m-1) (by omega) ⟨i+1,_,by omega,rfl,Zf ⟨rfl,Zz (YB (n:=i+1) (by omega)),trivial⟩,rfl⟩
   · exfalso;rw [Za] at hb;simp at hb;omega
 · have e : i = kz.length := by omega
   subst e
   repeat' first|refine Ji ?_|refine JJ ?_|refine Jl ?_|refine Jx ?_|refine Jt ?_|refine Jb ?_ ?_|refine Jo ?_|intro hb
   · exfalso;rw [Za] at hb;simp at hb
   · simp [XU]
theorem ZkL (ht:t.Ok):t.size<4611686018427387904→∀ H,CallOk E0 Tryz.prog 128 [.agg t.cells] H (.int .i64 (t.depth:Int)) H:=by
 induction ht with
 | @mk k nm s b kz hk hs hn hl hok ih=>
 intro hsz
 simp only [Tm.size] at hsz
 have hdl:=Uv kz
 simp only [Tm.depth]
 refine Jw tOk fe128.ok rfl ?_
 repeat' first|refine Ji ?_|refine JJ ?_|refine Jl ?_|refine Jx ?_|refine Jt ?_|refine Jb ?_ ?_|refine Jo ?_|intro hb
 refine Wp.while (fun m tm H=>∃ (i:Nat),∃ base,i+m=kz.length∧tm=ovr base [(1,.ptr 0 4 0 0),(3,.int .i64 (YQ (kz.take i):Int)),(4,.int .i64 (i:Int))]∧H=⟨[.cells 4 [[.int .i64 k,.str nm,.int .i64 s,slV b 4 (Zb kz)]]],0,[],0⟩)
  (fun m tm H hI=>?_) kz.length _ _ ⟨0,_,by omega,Zf ⟨rfl,rfl,rfl,trivial⟩,rfl⟩
 obtain ⟨i,base,hi,rfl,rfl⟩:=hI
 unfold maxLen at hl
 by_cases hlt:i<kz.length
 · obtain ⟨t', ht'⟩ : ∃ t', kz[i]? = some t' := ⟨kz[i], by simp⟩
   have hm:t'∈kz:=List.mem_of_getElem? ht'
   have hle:=Un hm
   have hdt:=Zbc ht'
   have hc:=ih t' hm (by omega)
   obtain ⟨k',nm',s',b',kz'⟩:=t'
   have hj:=Zh ht'
   repeat' first|refine Jc (hc _) ?_|refine Ji ?_|refine JJ ?_|refine Jl ?_|refine Jx ?_|refine Jt ?_|refine Jb ?_ ?_|refine Jo ?_|intro hb
   · refine LoopI.go (m - 1) (by omega) ⟨i + 1, _, by omega, Zf ⟨rfl, Zz ?_, Zz (YB (n := i + 1) (by omega)), trivial⟩, rfl⟩
     rw [hdt]
     split<;>omega
   · exfalso;rw [Za] at hb;simp at hb;omega
 · have e : i = kz.length := by omega
   subst e
   repeat' first|refine Ji ?_|refine JJ ?_|refine Jl ?_|refine Jx ?_|refine Jt ?_|refine Jb ?_ ?_|refine Jo ?_|intro hb
   · exfalso;rw [Za] at hb;simp at hb
   · refine Zz ?_
     rw [List.take_length]
     exact YB (n:=YQ kz+1) (by omega)
theorem c95 (ht:t.Ok) (hsz:t.size<4611686018427387904):∀ H,CallOk E0 Tryz.prog 95 [.agg t.cells] H (.int .i64 t.valid) H:=by
 have h1:=Zkt ht
 have h2:=c48 ht hsz
 have h3:=ZkL ht hsz
 unfold Tm.valid
 generalize t.nodes=e at h1
 generalize t.size=n at h2
 generalize t.depth=d at h3
 obtain ⟨k,nm,s,b,kz⟩:=t
 refine Jw tOk fe95.ok rfl ?_
 repeat' first|refine Jk ?_|(apply qCl;rfl;rfl;rfl;rfl;first|exact h1 _|exact h2 _|exact h3 _)|refine Jt ?_|refine Jb ?_ ?_|refine Jo ?_|intro hb
 all_goals (refine Zz ?_;clear h1 h2 h3;simp only [bne_iff_ne,bne_eq_false_iff_eq,decide_eq_true_eq,decide_eq_false_iff_not] at *;(repeat' split)<;>omega)
