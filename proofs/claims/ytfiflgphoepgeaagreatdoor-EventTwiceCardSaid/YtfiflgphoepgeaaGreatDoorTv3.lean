/-
  Valid terms of the reference.
-/
import Derived.Test.YtfiflgphoepgeaaGreatDoorEp
set_option maxHeartbeats 0
set_option maxRecDepth 100000
namespace Go.Vm.Seat
variable {a b:Bool} {d e k lvl s:Int} {i n:Nat} {x:UInt8} {nm:List UInt8} {kz l:List Tm} {t:Tm} {A:Box}
open Go.Proofs
theorem ZdR (h:a=true↔b=true):PV.bool a=PV.bool b:=by rw [Bool.eq_iff_iff.2 h]
theorem Zrb (c:Int):∀ H,CallOk E0 Tryz.prog 164 [.int .u8 c] H (.bool (Zb9 c)) H:=by
 refine Jw tOk fe164.ok rfl ?_
 repeat' first|refine Jk ?_|refine Jt ?_|refine Jb ?_ ?_|refine Jo ?_|intro hb
 all_goals
  refine ZdR ?_
  simp [Zb9,Ze4,Zlo] at *
  try omega
theorem ZrG (c:Int):∀ H,CallOk E0 Tryz.prog 127 [.int .u8 c] H (.bool (Ze4 c)) H:=by
 refine Jw tOk fe127.ok rfl ?_
 repeat' first|refine Jk ?_|refine Jt ?_|refine Jb ?_ ?_|refine Jo ?_|intro hb
 all_goals
  refine ZdR ?_
  simp [Ze4] at *
  try omega
theorem Zsy (c:Int):∀ H,CallOk E0 Tryz.prog 128 [.int .u8 c] H (.bool (Zlo c)) H:=by
 refine Jw tOk fe128.ok rfl ?_
 repeat' first|refine Jk ?_|refine Jt ?_|refine Jb ?_ ?_|refine Jo ?_|intro hb
 all_goals
  refine ZdR ?_
  simp [Zlo] at *
  try omega
theorem Vl {s:List UInt8} (h:s[i]? = some x) (hx:Xo x=false):s.all Xo=false:=by
 rw [List.all_eq_false]
 exact ⟨x,List.mem_of_getElem? h,by simp [hx]⟩
theorem ZaB (c:UInt8) (r:List UInt8):Z8 (c::r)=(decide ((c::r).length≤24)&&(Ze4 (Int.ofNat c.toNat)&&(c::r).all Xo)):=rfl
theorem Zhu {c:Int} (h:Zb9 c=true) (h1:¬ (48≤c∧c≤57)) (h2:c≠95) (h3:c≠35):Ze4 c=true:=by
 simp [Zb9,Ze4,Zlo] at *
 omega
theorem eTs:E0.T 9=some ⟨.string,1,16,.str []⟩:=rfl
theorem Zob {s:List UInt8} {c:UInt8} (h:s[i]? = some c):UE E0 9 (.str s) (.int .i64 (i:Int))=some (.int .u8 (c.toNat:Int)):=by
 have en:nat? (.int .i64 (i:Int))=some i:=rfl
 have hn:nth s i=some c:=by rw [Zo];exact h
 simp only [UE,eTs,en,hn]
 rfl
theorem Qv {c:Bool} (h:a=false∨b=false∨c=false):PV.bool false=PV.bool (a&&(b&&c)):=by
 rcases h with rfl|rfl|rfl<;>simp
theorem Zfc {s:List UInt8} (h:s[i]? = some x) (hx:Xo x=true) (ht:(s.take i).all Xo=true):(s.take (i+1)).all Xo=true:=by
 rw [List.take_add_one,h]
 simp [List.all_append,ht,hx]
theorem ZtD (s:List UInt8) (hs:s.length≤maxLen):∀ H,CallOk E0 Tryz.prog 126 [.str s] H (.bool (Z8 s)) H:=by
 refine Jw tOk fe126.ok rfl ?_
 cases s with
 | nil =>
   repeat' first|refine Jk ?_|refine Jt ?_|refine Jo ?_|fail
   all_goals first
    | rfl
    | (exfalso;simp at hb;done)
 | cons c r =>
   have hc:=Zrb (Int.ofNat c.toNat)
   obtain ⟨S,hS⟩:∃ S,S=Zb9 (Int.ofNat c.toNat):=⟨_,rfl⟩
   have hj:=Zob (show (c::r)[0]? = some c from rfl)
   rw [ZaB]
   obtain ⟨s,hss⟩:∃ s,s=c::r:=⟨_,rfl⟩
   rw [← hss] at hs hj ⊢
   have hne:¬ s= []:=by rw [hss];simp
   have hm:c∈s:=by rw [hss];simp
   have hall:S=false→s.all Xo=false:=fun h=>by
    rw [List.all_eq_false]
    exact ⟨c,hm,by rw [show Xo c=S from hS.symm,h];simp⟩
   rw [← hS] at hc
   repeat' first|refine Jk ?_|refine Jc (hc _) ?_|refine JX ?_|refine Jt ?_|refine Jb ?_ ?_|refine Jo ?_|intro hb
   all_goals first
    | (exfalso;simp at hb;exact hne hb)
    | (refine Qv (.inl ?_);simp at hb;simp;omega)
    | (refine Qv (.inr (.inr (hall (by simpa using hb))));done)
    | (refine Qv (.inr (.inl ?_));clear hc hall hj hS hm hne hss;simp [Ze4] at *;omega)
    | skip
   all_goals
    have f1:S=true:=by simpa using ‹(!S)=false›
    have f2:¬ (48≤(c.toNat:Int)∧(c.toNat:Int)≤57):=by
     first
      | (have:= ‹decide ((c.toNat:Int)≤57)=false›;simp at this;omega)
      | (have:= ‹decide (48≤(c.toNat:Int))=false›;simp at this;omega)
    have f3:(c.toNat:Int)≠95:=by simpa using ‹((c.toNat:Int)==95)=false›
    have f4:(c.toNat:Int)≠35:=by simpa using ‹((c.toNat:Int)==35)=false›
    have hlt:Ze4 (Int.ofNat c.toNat)=true:=Zhu (hS ▸ f1) f2 f3 f4
    have h24:s.length≤24:=by
     have:= ‹decide (24<Int.ofNat s.length)=false›
     simp at this;omega
    rw [show (decide (s.length≤24)&&(Ze4 (Int.ofNat c.toNat)&&s.all Xo))=s.all Xo by simp only [h24,hlt,decide_true,Bool.true_and]]
    refine Wp.while (fun m tm H=>∃ (i:Nat),∃ base,i+m=s.length∧(s.take i).all Xo=true∧tm=ovr base [(0,.str s),(38,.int .i64 (s.length:Int)),(39,.int .i64 (i:Int))]∧H=⟨[],0,[],0⟩)
     (fun m tm H hI=>?_) s.length _ _ ⟨0,_,by omega,by simp,Zf ⟨rfl,rfl,rfl,trivial⟩,rfl⟩
    clear hc hall hj
    obtain ⟨i,base,hi,hall,rfl,rfl⟩:=hI
    by_cases hlt2:i<s.length
    · obtain ⟨d, hd⟩ : ∃ d, s[i]? = some d := ⟨s[i], by simp⟩
      have hj:=Zob hd
      have hc:=Zrb (Int.ofNat d.toNat)
      obtain ⟨D,hD⟩:∃ D,D=Zb9 (Int.ofNat d.toNat):=⟨_,rfl⟩
      rw [← hD] at hc
      repeat' first|refine Jc (hc _) ?_|refine JX ?_|refine Jt ?_|refine Jb ?_ ?_|refine Jo ?_|intro hb
      · rw [Vl hd (by rw [show Xo d=D from hD.symm];simpa using hb)]
      · refine LoopI.go (m - 1) (by omega) ⟨i + 1, _, by omega, Zfc hd (by rw [show Xo d = D from hD.symm]; simpa using hb) hall, Zf ⟨rfl, rfl, ?_, trivial⟩, rfl⟩
        exact Zd (Zc (n:=i+1) (by unfold maxLen at hs;omega))
      · exfalso;simp at hb;omega
    · have e : i = s.length := by omega
      subst e
      repeat' first|refine Jt ?_|refine Jb ?_ ?_|refine Jo ?_|intro hb
      · exfalso;simp at hb
      · rw [← hall,List.take_length]
theorem Zgr (h:¬ (k=1∨k=2∨k=3)∨s<0∨5<s∨(k=3∧s≠0)∨(k≠3∧0<n)):Yw k nm s n=1:=if_pos h
theorem Zh1 (h:¬ (¬ (k=1∨k=2∨k=3)∨s<0∨5<s∨(k=3∧s≠0)∨(k≠3∧0<n))) (h2:Z8 nm=false):Yw k nm s n=2:=by unfold Yw;rw [if_neg h,if_pos h2]
theorem Zil (h:¬ (¬ (k=1∨k=2∨k=3)∨s<0∨5<s∨(k=3∧s≠0)∨(k≠3∧0<n))) (h2:Z8 nm=true) (h3:8<n):Yw k nm s n=3:=by unfold Yw;rw [if_neg h,if_neg (by simp [h2]),if_pos h3]
theorem ZhH (h:¬ (¬ (k=1∨k=2∨k=3)∨s<0∨5<s∨(k=3∧s≠0)∨(k≠3∧0<n))) (h2:Z8 nm=true) (h3:¬ 8<n):Yw k nm s n=0:=by unfold Yw;rw [if_neg h,if_neg (by simp [h2]),if_neg h3]
theorem Qn {n:Int} (h:Yw k nm s kz.length=e) (he:e≠0):(Tm.mk k nm s b kz).check lvl n d=(e,n+1,if d<lvl then lvl else d):=by
 simp only [Tm.check];rw [h,if_pos he]
theorem ZjI {n:Int} (h:Yw k nm s kz.length=0):(Tm.mk k nm s b kz).check lvl n d=Xd kz (lvl+1) (n+1) (if d<lvl then lvl else d):=by
 simp only [Tm.check];rw [h,if_neg (by simp)]
theorem ZdL {n n' d':Int} (h:l[i]? = some t) (hc:t.check lvl n d=(e,n',d')):Xd (l.drop i) lvl n d=if e≠0 then (e,n',d') else Xd (l.drop (i+1)) lvl n' d':=by
 rw [ZC h];simp only [Xd,hc]
theorem Zgj (h:l[i]? = some t):Zl (l.drop i)=t.size+Zl (l.drop (i+1)):=by
 rw [ZC h];simp only [Zl]
mutual
theorem Uo {n m:Nat} (h:n≤m):∀ {p:PV},under n p=true→under m p=true
 | .ptr id _ _ _,hp=>by simp only [under,Nat.blt_eq] at *;omega
 | .own id _ _ _,hp=>by simp only [under,Nat.blt_eq] at *;omega
 | .map id,hp=>by simp only [under,Nat.blt_eq] at *;omega
 | .agg cs,hp=>by simp only [under] at *;exact Xg h hp
 | .tup cs,hp=>by simp only [under] at *;exact Xg h hp
 | .fn _ cs,hp=>by simp only [under] at *;exact Xg h hp
 | .undef,_| .bool _,_| .int _ _,_| .str _,_| .sl _ _ _,_| .fptr _ _,_| .nilp,_| .nils,_| .nilm,_| .nilf,_=>rfl
theorem Xg {n m:Nat} (h:n≤m):∀ {l:List PV},ZL n l=true→ZL m l=true
 | [],_=>rfl
 | p :: r, hl => by
   simp only [ZL,Bool.and_eq_true] at *
   exact ⟨Uo h hl.1,Xg h hl.2⟩
end
theorem Zid {m:Nat} (h:n≤m) {b:Box} (hb:Yq n b=true):Yq m b=true:=by
 cases b with
 |cells es el=>exact List.all_eq_true.2 fun x hx=>Xg h (List.all_eq_true.1 hb x hx)
 | map es =>
   refine List.all_eq_true.2 fun x hx=>?_
   have:=List.all_eq_true.1 hb x hx
   simp only [Bool.and_eq_true] at this ⊢
   exact ⟨Uo h this.1,Uo h this.2⟩
 |sp t cs=>exact Xg h hb
 |dead=>rfl
theorem Zas (hA:Yq n A=true) (k k':IntKind) (x y:Int):[A,.cells 1 [[.int k x]],.cells 1 [[.int k' y]]].all (Yq n)=true:=by
 simp only [List.all_cons,hA];rfl
theorem Zo3 {B:Box} (hA:Yq n A=true) (k k':IntKind) (x y:Int) (hB:Yq n B=true):[A,.cells 1 [[.int k x]],.cells 1 [[.int k' y]],B].all (Yq n)=true:=by
 simp only [List.all_cons,hA,hB];rfl
theorem c77 (ht : t.Ok) : ∀ {A : Box}, Yq 3 A = true → ∀ {lvl n d : Int}, 0 ≤ lvl → lvl + t.size < 4611686018427387904 → 0 ≤ n → n + t.size < 4611686018427387904 → 0 ≤ d → d < 4611686018427387904 →
  CallOk E0 Tryz.prog 77 [.agg t.cells,.int .i64 lvl,.ptr 1 1 0 0,.ptr 2 1 0 0] ⟨[A,.cells 1 [[.int .i64 n]],.cells 1 [[.int .i64 d]]],0,[],0⟩ (.int .i64 (t.check lvl n d).1) ⟨[A,.cells 1 [[.int .i64 (t.check lvl n d).2.1]],.cells 1 [[.int .i64 (t.check lvl n d).2.2]]],0,[],0⟩:=by
 induction ht with
 | @mk k nm s b kz hk hs hn hl hok ih=>
 intro A hA lvl n d hl0 hl1 hn0 hn1 hd0 hd1
 simp only [Tm.size] at hl1 hn1
 obtain ⟨e,n',d',hchk⟩:∃ e n' d',(Tm.mk k nm s b kz).check lvl n d=(e,n',d'):=⟨_,_,_,rfl⟩
 rw [hchk]
 have hw:IntKind.i64.wrap (n+1)=n+1:=IntWalk.i64_in _ (by omega)
 have hw2:IntKind.i64.wrap (lvl+1)=lvl+1:=IntWalk.i64_in _ (by omega)
 have hc:=ZtD nm hn
 obtain ⟨N,hN⟩:∃ N,N=Z8 nm:=⟨_,rfl⟩
 rw [← hN] at hc
 refine ZfY (own:=fun _=>false) tOk fe77.ok ?_
 refine Wp.seq ?_
 repeat' first|refine Jk ?_|refine Jc (hc _) ?_|refine Jl ?_|refine Jt ?_|refine Jb ?_ ?_|refine Jo ?_|intro hb
 all_goals first
  | (have h0 := Zgr (k := k) (nm := nm) (s := s) (n := kz.length) (by clear ih hok hc hchk; simp only [Zb, beq_iff_eq, bne_iff_ne, decide_eq_true_eq, decide_eq_false_iff_not, beq_eq_false_iff_ne, bne_eq_false_iff_eq] at *; omega)
     cases hchk.symm.trans (Qn h0 (by decide))
     exact DropF.ret [(8,.int .i64 1)] ⟨rfl,trivial⟩ rfl rfl (Zas hA _ _ _ _) (RetE.ret rfl rfl (by rw [hw];rfl)))
  | (have h0 := Zh1 (k := k) (nm := nm) (s := s) (n := kz.length) (by clear ih hok hc hchk; simp only [Zb, beq_iff_eq, decide_eq_true_eq, decide_eq_false_iff_not, beq_eq_false_iff_ne, bne_eq_false_iff_eq] at *; omega) (by rw [← hN]; simpa using hb)
     cases hchk.symm.trans (Qn h0 (by decide))
     exact DropF.ret [(8,.int .i64 2)] ⟨rfl,trivial⟩ rfl rfl (Zas hA _ _ _ _) (RetE.ret rfl rfl (by rw [hw];rfl)))
  | (have h0 := Zil (k := k) (nm := nm) (s := s) (n := kz.length) (by clear ih hok hc hchk; simp only [Zb, beq_iff_eq, decide_eq_true_eq, decide_eq_false_iff_not, beq_eq_false_iff_ne, bne_eq_false_iff_eq] at *; omega) (by rw [← hN]; simpa using ‹(!N) = false›) (by simp [Zb] at hb; omega)
     cases hchk.symm.trans (Qn h0 (by decide))
     exact DropF.ret [(8,.int .i64 3)] ⟨rfl,trivial⟩ rfl rfl (Zas hA _ _ _ _) (RetE.ret rfl rfl (by rw [hw];rfl)))
  | skip
 all_goals
  have h0:Yw k nm s kz.length=0:=ZhH (by clear ih hok hc hchk;simp only [Zb,beq_iff_eq,decide_eq_false_iff_not,beq_eq_false_iff_ne,bne_eq_false_iff_eq] at *;omega) (by rw [← hN];simpa using ‹(!N)=false›) (by simp [Zb] at hb;omega)
  have hgo:=hchk.symm.trans (ZjI h0)
  clear hchk hc h0
  refine Wp.while (fun m tm H=>∃ (i:Nat),∃ base,∃ n1 d1:Int,i+m=kz.length∧(e,n',d')=Xd (kz.drop i) (lvl+1) n1 d1∧0≤n1∧n1+Zl (kz.drop i)<4611686018427387904∧0≤d1∧d1<4611686018427387904∧tm=ovr base [(1,.int .i64 lvl),(2,.ptr 1 1 0 0),(3,.ptr 2 1 0 0),(57,slV b 4 (Za kz)),(58,.int .i64 (kz.length:Int)),(59,.int .i64 (i:Int))]∧H=⟨[A,.cells 1 [[.int .i64 n1]],.cells 1 [[.int .i64 d1]],.cells 4 [[.int .i64 k,.str nm,.int .i64 s,slV b 4 (Za kz)]]],0,[],0⟩)
   (fun m tm H hI=>Wp.drop ?_) kz.length _ _ ⟨0,_,n+1,if d<lvl then lvl else d,by omega,by simpa using hgo,by omega,by simp;omega,by split<;>omega,by split<;>omega,Zf ⟨rfl,rfl,rfl,rfl,Zd (by rw [Zb]),rfl,trivial⟩,by rw [hw]⟩
  clear hgo
  obtain ⟨i,base,n1,d1,hi,hgo,hn2,hn3,hd2,hd3,rfl,rfl⟩:=hI
  unfold maxLen at hl
  by_cases hlt:i<kz.length
  · obtain ⟨t', ht'⟩ : ∃ t', kz[i]? = some t' := ⟨kz[i], by simp⟩
    have hm:t'∈kz:=List.mem_of_getElem? ht'
    have hle:=Xq hm
    have hsd:=Zgj ht'
    have hr:=t'.check_range (lvl+1) n1 d1
    obtain ⟨e1,n2,d2,h1⟩:∃ e1 n2 d2,t'.check (lvl+1) n1 d1=(e1,n2,d2):=⟨_,_,_,rfl⟩
    have hc:=ih t' hm hA (lvl:=lvl+1) (n:=n1) (d:=d1) (by omega) (by omega) (by omega) (by omega) (by omega) (by omega)
    rw [h1] at hc hr
    simp only [] at hc hr
    rw [← hw2] at hc
    rw [ZdL ht' h1] at hgo
    obtain ⟨k',nm',s',b',kz'⟩:=t'
    have hc:=hc.ext (ext:=[.cells 4 [[.int .i64 k,.str nm,.int .i64 s,slV b 4 (Za kz)]],.cells 4 [[.int .i64 k',.str nm',.int .i64 s',slV b' 4 (Za kz')]]]) rfl (by simp [ZL,under,Tm.cells,Zg]) (Zas hA _ _ _ _) (by simp)
    have hj:=Zk ht'
    repeat' first|refine Jc hc ?_|refine Jx ?_|refine Jb ?_ ?_|refine Jz ?_ ?_|refine Jo ?_|intro hb
    · have hb1 : e1 ≠ 0 := by simpa using hb
      rw [if_pos hb1] at hgo
      cases hgo
      exact DropF.ret [(8,.int .i64 _)] ⟨rfl,trivial⟩ rfl rfl (Zas hA _ _ _ _) (RetE.ret rfl rfl rfl)
    · have hb1 : ¬ e1 ≠ 0 := by simpa using hb
      rw [if_neg hb1] at hgo
      exact DropQ.go [(1,.int .i64 lvl),(2,.ptr 1 1 0 0),(3,.ptr 2 1 0 0),(57,slV b 4 (Za kz)),(58,.int .i64 (kz.length:Int)),(59,.int .i64 ((i+1:Nat):Int))] ⟨rfl,rfl,rfl,rfl,rfl,Zd (Zc (n:=i+1) (by omega)),trivial⟩
       (by simp [Zg,under]) rfl (Zo3 (Zid (show 3≤4 by omega) hA) _ _ _ _ (by simp [Yq,ZL,Zg,under])) (LoopI.go (m-1) (by omega) ⟨i+1,_,n2,d2,by omega,hgo,by omega,by omega,by omega,by omega,rfl,rfl⟩)
    · exfalso;simp at hb;omega
  · have e : i = kz.length := by omega
    subst e
    repeat' first|refine Jz ?_ ?_|refine Jo ?_|intro hb
    · exfalso;simp at hb
    · simp only [List.drop_length, Xd] at hgo
      cases hgo
      exact DropF.ret [(8,.int .i64 0)] ⟨rfl,trivial⟩ rfl rfl (Zas hA _ _ _ _) (RetE.ret rfl rfl rfl)
theorem c41 (ht:t.Ok) (hsz:t.size<4611686018427387000):∀ H,CallOk E0 Tryz.prog 41 [.agg t.cells] H (.int .i64 t.valid) H:=by
 have hc:=c77 ht (A:= .cells 4 [t.cells]) (by obtain ⟨k,nm,s,b,kz⟩:=t;simp [Yq,Tm.cells,ZL,Zg,under]) (lvl:=1) (n:=0) (d:=0) (by omega) (by omega) (by omega) (by omega) (by omega) (by omega)
 rw [t.valid_check]
 obtain ⟨e,n,d,h1⟩:∃ e n d,t.check 1 0 0=(e,n,d):=⟨_,_,_,rfl⟩
 rw [h1] at hc ⊢
 obtain ⟨k,nm,s,b,kz⟩:=t
 refine Jw tOk fe41.ok rfl ?_
 repeat' first|refine Jk ?_|refine Jc hc ?_|refine Jt ?_|refine Jb ?_ ?_|refine Jo ?_|intro hb
 all_goals (refine Zd ?_;clear hc h1;simp only [bne_iff_ne,bne_eq_false_iff_eq,decide_eq_true_eq,decide_eq_false_iff_not] at *;(repeat' split)<;>omega)
theorem ifq (h:a=b):PV.bool a=PV.bool b:=by rw [h]
theorem ZjW {d:UInt8}:Xo d=(Ze4 (Int.ofNat d.toNat)||(Zlo (Int.ofNat d.toNat)||(decide ((d.toNat:Int)=95)||decide ((d.toNat:Int)=35)))):=rfl
theorem c79 (s:List UInt8) (hs:s.length≤maxLen):∀ H,CallOk E0 Tryz.prog 79 [.str s] H (.bool (Z8 s)) H:=by
 refine Jw tOk fe79.ok rfl ?_
 cases s with
 | nil =>
   repeat' first|refine Jk ?_|refine Jt ?_|refine Jo ?_|fail
   all_goals first
    | rfl
    | (exfalso;simp at hb;done)
 | cons c r =>
   have hc:=ZrG (Int.ofNat c.toNat)
   obtain ⟨L,hL⟩:∃ L,L=Ze4 (Int.ofNat c.toNat):=⟨_,rfl⟩
   have hj:=Zob (show (c::r)[0]? = some c from rfl)
   rw [ZaB]
   obtain ⟨s,hss⟩:∃ s,s=c::r:=⟨_,rfl⟩
   rw [← hss] at hs hj ⊢
   have hne:s.length≠0:=by rw [hss];simp
   rw [← hL] at hc ⊢
   repeat' first|refine Jk ?_|refine Jc (hc _) ?_|refine JX ?_|refine Jt ?_|refine Jb ?_ ?_|refine Jo ?_|intro hb
   all_goals first
    | (exfalso;exact hne (by simpa using hb))
    | (refine Qv (.inl ?_);simp at hb;simp;omega)
    | (refine Qv (.inr (.inl (by simpa using hb)));done)
    | skip
   have h24:s.length≤24:=by
    have:= ‹decide (24<Int.ofNat s.length)=false›
    simp at this;omega
   have hlt:L=true:=by simpa using hb
   rw [show (decide (s.length≤24)&&(L&&s.all Xo))=s.all Xo by simp only [h24,hlt,decide_true,Bool.true_and]]
   refine Wp.while (fun m tm H=>∃ (i:Nat),∃ base,i+m=s.length∧(s.take i).all Xo=true∧tm=ovr base [(0,.str s),(3,.int .i64 (i:Int))]∧H=⟨[],0,[],0⟩)
    (fun m tm H hI=>?_) s.length _ _ ⟨0,_,by omega,by simp,Zf ⟨rfl,rfl,trivial⟩,rfl⟩
   clear hc hj
   obtain ⟨i,base,hi,hall,rfl,rfl⟩:=hI
   by_cases hlt2:i<s.length
   · obtain ⟨d, hd⟩ : ∃ d, s[i]? = some d := ⟨s[i], by simp⟩
     have hj:=Zob hd
     have hc:=ZrG (Int.ofNat d.toNat)
     have hc2:=Zsy (Int.ofNat d.toNat)
     have hp:=ZjW (d:=d)
     generalize Ze4 (Int.ofNat d.toNat)=D1 at hc hp
     generalize Zlo (Int.ofNat d.toNat)=D2 at hc2 hp
     repeat' first|refine Jk ?_|refine Jc (hc _) ?_|refine Jc (hc2 _) ?_|refine JX ?_|refine Jt ?_|refine Jb ?_ ?_|refine Jo ?_|intro hb
     all_goals first
      | (refine LoopI.go (m-1) (by omega) ⟨i+1,_,by omega,Zfc hd (by rw [hp];simp at hb;simp [hb]) hall,Zf ⟨rfl,Zd (Zc (n:=i+1) (by unfold maxLen at hs;omega)),trivial⟩,rfl⟩;done)
      | (exfalso;simp at hb;omega)
      | skip
     have hq:Xo d=false:=by
      rw [hp]
      clear hc hc2 hj hp hd hall hi
      simp at *
      simp [*]
     rw [Vl hd hq]
   · have e : i = s.length := by omega
     subst e
     repeat' first|refine Jt ?_|refine Jb ?_ ?_|refine Jo ?_|intro hb
     · exfalso;simp at hb
     · rw [← hall,List.take_length]
theorem Ztc (k:Int) (nm:List UInt8) (s:Int) (b:Bool) (kz:List Tm) (hn:nm.length≤maxLen):∀ H,CallOk E0 Tryz.prog 190 [.agg [.int .i64 k,.str nm,.int .i64 s,slV b 4 (Za kz)]] H (.int .i64 (Yw k nm s kz.length)) H:=by
 have hc:=c79 nm hn
 obtain ⟨N,hN⟩:∃ N,N=Z8 nm:=⟨_,rfl⟩
 rw [← hN] at hc
 refine Jw tOk fe190.ok rfl ?_
 repeat' first|refine Jk ?_|refine Jc (hc _) ?_|refine Jl ?_|refine Jt ?_|refine Jb ?_ ?_|refine Jo ?_|intro hb
 all_goals (refine Zd ?_;clear hc)
 all_goals first
  | exact (Zgr (by simp only [Zb,beq_iff_eq,bne_iff_ne,decide_eq_true_eq,decide_eq_false_iff_not,beq_eq_false_iff_ne,bne_eq_false_iff_eq] at *;omega)).symm
  | exact (Zh1 (by simp only [Zb,beq_iff_eq,decide_eq_true_eq,decide_eq_false_iff_not,beq_eq_false_iff_ne,bne_eq_false_iff_eq] at *;omega) (by rw [← hN];simpa using hb)).symm
  | exact (Zil (by simp only [Zb,beq_iff_eq,decide_eq_true_eq,decide_eq_false_iff_not,beq_eq_false_iff_ne,bne_eq_false_iff_eq] at *;omega) (by rw [← hN];simpa using ‹(!N)=false›) (by simp [Zb] at hb;omega)).symm
  | exact (ZhH (by simp only [Zb,beq_iff_eq,decide_eq_false_iff_not,beq_eq_false_iff_ne,bne_eq_false_iff_eq] at *;omega) (by rw [← hN];simpa using ‹(!N)=false›) (by simp [Zb] at hb;omega)).symm
theorem ZdY (h:l[i]? = some t) (he:t.nodes=e):Yd (l.drop i)=if e≠0 then e else Yd (l.drop (i+1)):=by
 rw [ZC h];simp only [Yd,he]
theorem Ztv (ht:t.Ok):∀ H,CallOk E0 Tryz.prog 154 [.agg t.cells] H (.int .i64 t.nodes) H:=by
 induction ht with
 | @mk k nm s b kz hk hs hn hl hok ih=>
 have hc:=Ztc k nm s b kz hn
 simp only [Tm.nodes]
 generalize Yw k nm s kz.length=e at hc
 refine Jw tOk fe154.ok rfl ?_
 repeat' first|refine Jc (hc _) ?_|refine Jb ?_ ?_|refine Jo ?_|intro hb
 · have h1 : e ≠ 0 := by simpa using hb
   rw [if_pos h1]
 rw [if_neg (by simpa using hb)]
 clear hc
 refine Wp.while (fun m tm H=>∃ (i:Nat),∃ base,i+m=kz.length∧Yd kz=Yd (kz.drop i)∧tm=ovr base [(1,.ptr 0 4 0 0),(4,.int .i64 (i:Int))]∧H=⟨[.cells 4 [[.int .i64 k,.str nm,.int .i64 s,slV b 4 (Za kz)]]],0,[],0⟩)
  (fun m tm H hI=>?_) kz.length _ _ ⟨0,_,by omega,by simp,Zf ⟨rfl,rfl,trivial⟩,rfl⟩
 obtain ⟨i,base,hi,hgo,rfl,rfl⟩:=hI
 rw [hgo]
 unfold maxLen at hl
 by_cases hlt:i<kz.length
 · obtain ⟨t', ht'⟩ : ∃ t', kz[i]? = some t' := ⟨kz[i], by simp⟩
   have hm:t'∈kz:=List.mem_of_getElem? ht'
   have hc:=ih t' hm
   obtain ⟨e1,he1⟩:∃ e1,t'.nodes=e1:=⟨_,rfl⟩
   rw [he1] at hc
   rw [ZdY ht' he1]
   obtain ⟨k',nm',s',b',kz'⟩:=t'
   have hj:=Zk ht'
   repeat' first|refine Jc (hc _) ?_|refine Jl ?_|refine Jx ?_|refine Jb ?_ ?_|refine Jo ?_|intro hb
   · rw [if_pos (by simpa using hb)]
   · rw [if_neg (by simpa using hb)]
     exact LoopI.go (m-1) (by omega) ⟨i+1,_,by omega,rfl,Zf ⟨rfl,Zd (Zc (n:=i+1) (by omega)),trivial⟩,rfl⟩
   · exfalso;rw [Zb] at hb;simp at hb;omega
 · have e : i = kz.length := by omega
   subst e
   repeat' first|refine Jl ?_|refine Jb ?_ ?_|refine Jo ?_|intro hb
   · exfalso;rw [Zb] at hb;simp at hb
   · simp [Yd]
theorem Zst (ht:t.Ok):t.size<4611686018427387904→∀ H,CallOk E0 Tryz.prog 155 [.agg t.cells] H (.int .i64 (t.depth:Int)) H:=by
 induction ht with
 | @mk k nm s b kz hk hs hn hl hok ih=>
 intro hsz
 simp only [Tm.size] at hsz
 have hdl:=Qk kz
 simp only [Tm.depth]
 refine Jw tOk fe155.ok rfl ?_
 repeat' first|refine Jo ?_|fail
 refine Wp.while (fun m tm H=>∃ (i:Nat),∃ base,i+m=kz.length∧tm=ovr base [(1,.ptr 0 4 0 0),(3,.int .i64 (Ya (kz.take i):Int)),(4,.int .i64 (i:Int))]∧H=⟨[.cells 4 [[.int .i64 k,.str nm,.int .i64 s,slV b 4 (Za kz)]]],0,[],0⟩)
  (fun m tm H hI=>?_) kz.length _ _ ⟨0,_,by omega,Zf ⟨rfl,rfl,rfl,trivial⟩,rfl⟩
 obtain ⟨i,base,hi,rfl,rfl⟩:=hI
 unfold maxLen at hl
 by_cases hlt:i<kz.length
 · obtain ⟨t', ht'⟩ : ∃ t', kz[i]? = some t' := ⟨kz[i], by simp⟩
   have hm:t'∈kz:=List.mem_of_getElem? ht'
   have hle:=Xq hm
   have hdt:=ZdZ ht'
   have hc:=ih t' hm (by omega)
   obtain ⟨k',nm',s',b',kz'⟩:=t'
   have hj:=Zk ht'
   repeat' first|refine Jc (hc _) ?_|refine Jl ?_|refine Jx ?_|refine Jb ?_ ?_|refine Jo ?_|intro hb
   · refine LoopI.go (m - 1) (by omega) ⟨i + 1, _, by omega, Zf ⟨rfl, Zd ?_, Zd (Zc (n := i + 1) (by omega)), trivial⟩, rfl⟩
     rw [hdt]
     split<;>omega
   · exfalso;rw [Zb] at hb;simp at hb;omega
 · have e : i = kz.length := by omega
   subst e
   repeat' first|refine Jl ?_|refine Jb ?_ ?_|refine Jo ?_|intro hb
   · exfalso;rw [Zb] at hb;simp at hb
   · refine Zd ?_
     rw [List.take_length]
     exact Zc (n:=Ya kz+1) (by omega)
theorem ZkQ (ht:t.Ok) (hsz:t.size<4611686018427387904):∀ H,CallOk E0 Tryz.prog 107 [.agg t.cells] H (.int .i64 t.valid) H:=by
 have h1:=Ztv ht
 have h2:=ZsV ht hsz
 have h3:=Zst ht hsz
 unfold Tm.valid
 generalize t.nodes=e at h1
 generalize t.size=n at h2
 generalize t.depth=d at h3
 obtain ⟨k,nm,s,b,kz⟩:=t
 refine Jw tOk fe107.ok rfl ?_
 repeat' first|refine Jk ?_|(apply qCl;rfl;rfl;rfl;rfl;first|exact h1 _|exact h2 _|exact h3 _)|refine Jt ?_|refine Jb ?_ ?_|refine Jo ?_|intro hb
 all_goals (refine Zd ?_;clear h1 h2 h3;simp only [bne_iff_ne,bne_eq_false_iff_eq,decide_eq_true_eq,decide_eq_false_iff_not] at *;(repeat' split)<;>omega)
