/-
  Names, valid terms: the program's and the reference's text compute the same.
-/
import Derived.Test.YtgnklbkmfeafaaaGreatDoorStSize
set_option maxHeartbeats 0
set_option maxRecDepth 100000
namespace Go.Vm.Seat
variable {t:Tm} {a b:Bool} {s:List UInt8} {i:Nat} {x:UInt8}
open Go.Proofs
theorem Zjy (k:Int) (nm:List UInt8) (s:Int) (b:Bool) (kz:List Tm) (w:List UInt8):∀ H,CallOk E0 Tryz.prog 129 [.agg [.int .i64 k,.str nm,.int .i64 s,slV b 4 (Zb kz)],.str w] H (.bool (isF k nm w)) H:=by
 refine Jw tOk fe129.ok rfl ?_ (by simp [Zt,frzG,Zay,frz1])
 repeat' first|refine Jk ?_|refine Jt ?_|refine Jb ?_ ?_|refine Jo ?_|intro hb
 all_goals simp_all [isF]
theorem c59 (ht:t.Ok):∀ n:Int, -9223372036854775808≤n→n≤9223372036854775807→∀ H,CallOk E0 Tryz.prog 59 [.agg t.cells,.int .i64 n] H (.int .i64 (t.budget n)) H:=by
 induction ht with
 | @mk k nm s b kz hk hs hn hl hok ih=>
 intro n hn1 hn2
 refine Jw tOk fe59.ok rfl ?_ (by simp [Zt,frzG,Tm.cells,Zay,frz1])
 repeat' first|refine Jk ?_|refine Ji ?_|refine JJ ?_|refine Jl ?_|refine Jx ?_|refine Jt ?_|refine Jb ?_ ?_|refine Jo ?_|intro hb
 · refine Zz ?_
   simp at hb
   simp [Tm.budget,hb]
 · refine Zz ?_
   rename_i hb1
   simp at hb hb1
   have:40<nm.length:=by omega
   simp [Tm.budget,this]
 rename_i hb1
 simp at hb hb1
 have h40:¬ (n≤0∨40<nm.length):=by omega
 refine Wp.while (fun m tm H=>∃ i base x,i+m=kz.length∧0≤x∧x≤n∧Xt kz (n-1)=Xt (kz.drop i) x∧tm=ovr base [(2,.ptr 0 4 0 0),(1,.int .i64 x),(5,.int .i64 (i:Int))]∧H=⟨[.cells 4 [[.int .i64 k,.str nm,.int .i64 s,slV b 4 (Zb kz)]]],0,[],0⟩)
  (fun m tm H hI=>?_) kz.length _ _ ⟨0,_,n-1,by omega,by omega,by omega,by simp,Zf ⟨rfl,Zz (IntWalk.i64_in _ (by omega)),rfl,trivial⟩,rfl⟩
 obtain ⟨i,base,x,hi,hx0,hxn,hbud,rfl,rfl⟩:=hI
 unfold maxLen at hl
 by_cases hlt:i<kz.length
 · obtain ⟨t', ht'⟩ : ∃ t', kz[i]? = some t' := ⟨kz[i], by simp⟩
   have hm:t'∈kz:=List.mem_of_getElem? ht'
   have hdr:=ZA ht'
   have hc:=ih t' hm x (by omega) (by omega)
   have hbe:=t'.budget_eq x
   obtain ⟨bx,hbx⟩:∃ bx,bx=t'.budget x:=⟨_,rfl⟩
   rw [← hbx] at hc hbe
   rw [hdr] at hbud
   simp only [Xt, ← hbx] at hbud
   obtain ⟨k',nm',s',b',kz'⟩:=t'
   have hj:=Zh ht'
   repeat' first|refine Jk ?_|refine Jc (hc _) ?_|refine Ji ?_|refine JJ ?_|refine Jl ?_|refine Jx ?_|refine Jt ?_|refine Jb ?_ ?_|refine Jo ?_|intro hb
   · refine Zz ?_
     rename_i hb2
     have hb:bx<0:=by simpa using hb
     simp only [Tm.budget,if_neg h40,hbud,if_pos hb]
   · have hb : ¬ bx < 0 := by simpa using hb
     rw [if_neg hb] at hbud
     refine LoopI.go (m-1) (by omega) ⟨i+1,_,bx,by omega,by omega,by have:=hbe (by omega);omega,hbud,Zf ⟨rfl,rfl,?_,trivial⟩,rfl⟩
     exact Zz (YB (n:=i+1) (by omega))
   · rw [Za] at hb;simp at hb;omega
 · have e : i = kz.length := by omega
   subst e
   repeat' first|refine Ji ?_|refine JJ ?_|refine Jl ?_|refine Jx ?_|refine Jt ?_|refine Jb ?_ ?_|refine Jo ?_|intro hb
   · rw [Za] at hb;simp at hb
   · refine Zz ?_
     simp only [Tm.budget,if_neg h40,hbud]
     simp [Xt]
theorem c24 {l : List Tm} (hok : ∀ t, t ∈ l → t.Ok) (hl : l.length ≤ maxLen) (b : Bool) {n most : Int} (hm1 : -9223372036854775808 ≤ most) (hm2 : most ≤ 9223372036854775807) :
  ∀ H,CallOk E0 Tryz.prog 24 [slV b 4 (Zb l),.int .i64 n,.int .i64 most] H (.bool (Zdd l n most)) H:=by
 refine Jw tOk fe24.ok rfl ?_
 repeat' first|refine Ji ?_|refine JJ ?_|refine Jl ?_|refine Jx ?_|refine Jt ?_|refine Jb ?_ ?_|refine Jo ?_|intro hb
 · simp at hb
   rw [Za] at hb
   simp [Zdd,hb]
 rw [Za] at hb
 simp at hb
 have hnl:¬ n<(l.length:Int):=by omega
 refine Wp.while (fun m tm H=>∃ i base x,i+m=l.length∧ -9223372036854775808≤x∧x≤9223372036854775807∧ZfU l most=ZfU (l.drop i) x∧tm=ovr base [(0,slV b 4 (Zb l)),(2,.int .i64 x),(7,.int .i64 (i:Int))]∧H=⟨[],0,[],0⟩)
  (fun m tm H hI=>?_) l.length _ _ ⟨0,_,most,by omega,by omega,by omega,by simp,Zf ⟨rfl,rfl,rfl,trivial⟩,rfl⟩
 obtain ⟨i,base,x,hi,hx0,hxn,hbud,rfl,rfl⟩:=hI
 unfold maxLen at hl
 by_cases hlt:i<l.length
 · obtain ⟨t', ht'⟩ : ∃ t', l[i]? = some t' := ⟨l[i], by simp⟩
   have hm:t'∈l:=List.mem_of_getElem? ht'
   have hdr:=ZA ht'
   have hc:=c59 (hok t' hm) x (by omega) (by omega)
   have hbe:=t'.budget_eq x
   obtain ⟨bx,hbx⟩:∃ bx,bx=t'.budget x:=⟨_,rfl⟩
   rw [← hbx] at hc hbe
   rw [hdr] at hbud
   simp only [ZfU, ← hbx] at hbud
   obtain ⟨k',nm',s',b',kz'⟩:=t'
   have hj:=Zh ht'
   repeat' first|refine Jc (hc _) ?_|refine Ji ?_|refine JJ ?_|refine Jl ?_|refine Jx ?_|refine Jt ?_|refine Jb ?_ ?_|refine Jo ?_|intro hb
   · have hb : bx < 0 := by simpa using hb
     simp [Zdd,hbud,if_pos hb]
   · have hb : ¬ bx < 0 := by simpa using hb
     rw [if_neg hb] at hbud
     refine LoopI.go (m-1) (by omega) ⟨i+1,_,bx,by omega,by omega,by have:=hbe (by omega);omega,hbud,Zf ⟨rfl,rfl,?_,trivial⟩,rfl⟩
     exact Zz (YB (n:=i+1) (by omega))
   · rw [Za] at hb;simp at hb;omega
 · have e : i = l.length := by omega
   subst e
   repeat' first|refine Ji ?_|refine JJ ?_|refine Jl ?_|refine Jx ?_|refine Jt ?_|refine Jb ?_ ?_|refine Jo ?_|intro hb
   · rw [Za] at hb;simp at hb
   · simp [Zdd,if_neg hnl,hbud,ZfU]
theorem Zht (a:Int):∀ H,CallOk E0 Tryz.prog 117 [.int .i64 a,.int .i64 a] H (.int .i64 0) H:=by
 have h:=ZkR a a
 simpa [Zih] using h
theorem ZkD (ht:t.Ok):t.size<4611686018427387904→∀ H,CallOk E0 Tryz.prog 79 [.agg t.cells,.agg t.cells] H (.int .i64 0) H:=by
 induction ht with
 | @mk k nm s b kz hk hs hn hl hok ih=>
 intro hsz
 have hsize:=c48 (Tm.Ok.mk (b:=b) hk hs hn hl hok) hsz
 obtain ⟨S,hS⟩:∃ S:Int,S=((Tm.mk k nm s b kz).size:Int):=⟨_,rfl⟩
 rw [← hS] at hsize
 refine Jw tOk fe79.ok rfl ?_
 repeat' first|refine Jc (hsize _) ?_|refine Jc (Zht _ _) ?_|refine Ji ?_|refine JJ ?_|refine Jl ?_|refine Jx ?_|refine Jt ?_|refine Jb ?_ ?_|refine Jo ?_|refine Jd (hsize _) ?_|refine Jd (Zht _ _) ?_|refine JD ?_|refine JK ?_|(apply dLn;rfl;rfl;rfl;rfl;rfl)|refine JI ?_|(apply dT (ty:=4);rfl;rfl;rfl;rfl)|(apply dF (ty:=4);rfl;rfl;rfl;rfl)|(apply dB (ty:=4);rfl;rfl;rfl;rfl)|refine Jh ?_|(apply Wp.draw tOk follows;kernel_rfl)|intro hb
 all_goals first
  | (exfalso;simp [XT] at hb;done)
  | skip
 refine Wp.while (fun m tm H=>∃ i base,i+m=kz.length∧tm=ovr base [(2,.ptr 0 4 0 0),(3,.ptr 1 4 0 0),(9,.int .i64 (i:Int))]∧H=⟨[.cells 4 [[.int .i64 k,.str nm,.int .i64 s,slV b 4 (Zb kz)]],.cells 4 [[.int .i64 k,.str nm,.int .i64 s,slV b 4 (Zb kz)]]],0,[],0⟩)
  (fun m tm H hI=>?_) kz.length _ _ ⟨0,_,by omega,Zf ⟨rfl,rfl,rfl,trivial⟩,rfl⟩
 obtain ⟨i,base,hi,rfl,rfl⟩:=hI
 simp only [Tm.size] at hsz
 unfold maxLen at hl
 by_cases hlt:i<kz.length
 · obtain ⟨t', ht'⟩ : ∃ t', kz[i]? = some t' := ⟨kz[i], by simp⟩
   have hm:t'∈kz:=List.mem_of_getElem? ht'
   have hle:=Un hm
   have hc:=ih t' hm (by omega)
   obtain ⟨k',nm',s',b',kz'⟩:=t'
   have hj:=Zh ht'
   repeat' first|refine Jc (hc _) ?_|refine Ji ?_|refine JJ ?_|refine Jl ?_|refine Jx ?_|refine Jt ?_|refine Jb ?_ ?_|refine Jo ?_|refine Jd (hc _) ?_|refine JD ?_|refine JK ?_|(apply dLn;rfl;rfl;rfl;rfl;rfl)|refine JI ?_|(apply dT (ty:=4);rfl;rfl;rfl;rfl)|(apply dF (ty:=4);rfl;rfl;rfl;rfl)|(apply dB (ty:=4);rfl;rfl;rfl;rfl)|refine Jh ?_|(apply Wp.draw tOk follows;kernel_rfl)|intro hb
   · refine LoopI.go (m - 1) (by omega) ⟨i + 1, _, by omega, Zf ⟨rfl, rfl, ?_, trivial⟩, rfl⟩
     exact Zz (YB (n:=i+1) (by omega))
   · rfl
 · have e : i = kz.length := by omega
   subst e
   repeat' first|refine Ji ?_|refine JJ ?_|refine Jl ?_|refine Jx ?_|refine Jt ?_|refine Jb ?_ ?_|refine Jo ?_|refine JD ?_|refine JK ?_|(apply dLn;rfl;rfl;rfl;rfl;rfl)|refine JI ?_|(apply dT (ty:=4);rfl;rfl;rfl;rfl)|(apply dF (ty:=4);rfl;rfl;rfl;rfl)|(apply dB (ty:=4);rfl;rfl;rfl;rfl)|refine Jh ?_|(apply Wp.draw tOk follows;kernel_rfl)|intro hb
   · rw [Za] at hb;simp at hb
   · rfl
theorem Zjr (ht:t.Ok) (hsz:t.size<4611686018427387904):∀ H,CallOk E0 Tryz.prog 44 [.agg t.cells,.agg t.cells] H (.bool true) H:=by
 have hc:=ZkD ht hsz
 obtain ⟨k,nm,s,b,kz⟩:=t
 refine Jw tOk fe44.ok rfl ?_
 repeat' first|refine Jc (hc _) ?_|refine Jt ?_|refine Jb ?_ ?_|refine Jo ?_|intro hb
 all_goals rfl
open Go.RowKit Go.Lib
theorem Zjv:ZOk E0 Tryz.prog (175,ZhX):=Zhe Tryz.func175 (by kernel_rfl) (by kernel_rfl) (by kernel_rfl) (by kernel_rfl)
theorem zOk:Yd E0 Tryz.prog E0.Z:=ZbS (Zfo Zjv Zgz)
theorem Uq (h:a=true↔b=true):PV.bool a=PV.bool b:=by rw [Bool.eq_iff_iff.2 h]
theorem Zjn (c:Int):∀ H,CallOk E0 Tryz.prog 177 [.int .u8 c] H (.bool (Qo c)) H:=by
 refine Jw tOk fe177.ok rfl ?_
 repeat' first|refine Jk ?_|refine Jt ?_|refine Jb ?_ ?_|refine Jo ?_|intro hb
 all_goals
  refine Uq ?_
  simp [Qo,XX,Uz] at *
  try omega
theorem Zjd (c:Int):∀ H,CallOk E0 Tryz.prog 146 [.int .u8 c] H (.bool (XX c)) H:=by
 refine Jw tOk fe146.ok rfl ?_
 repeat' first|refine Jk ?_|refine Jt ?_|refine Jb ?_ ?_|refine Jo ?_|intro hb
 all_goals
  refine Uq ?_
  simp [XX] at *
  try omega
theorem ZjJ (c:Int):∀ H,CallOk E0 Tryz.prog 147 [.int .u8 c] H (.bool (Uz c)) H:=by
 refine Jw tOk fe147.ok rfl ?_
 repeat' first|refine Jk ?_|refine Jt ?_|refine Jb ?_ ?_|refine Jo ?_|intro hb
 all_goals
  refine Uq ?_
  simp [Uz] at *
  try omega
theorem Wv (h:s[i]? = some x) (hx:Yr x=false):s.all Yr=false:=by
 rw [List.all_eq_false]
 exact ⟨x,List.mem_of_getElem? h,by simp [hx]⟩
theorem XE (c:UInt8) (r:List UInt8):WK (c::r)=(decide ((c::r).length≤24)&&(XX (Int.ofNat c.toNat)&&(c::r).all Yr)):=rfl
theorem ZdF {c:Int} (h:Qo c=true) (h1:¬ (48≤c∧c≤57)) (h2:c≠95) (h3:c≠35):XX c=true:=by
 simp [Qo,XX,Uz] at *
 omega
theorem eTs:E0.T 9=some ⟨.string,1,16,.str []⟩:=rfl
theorem Vi {c:UInt8} (h:s[i]? = some c):W2 E0 9 (.str s) (.int .i64 (i:Int))=some (.int .u8 (c.toNat:Int)):=by
 have en:nat? (.int .i64 (i:Int))=some i:=rfl
 have hn:nth s i=some c:=by rw [Zr];exact h
 simp only [W2,eTs,en,hn]
 rfl
theorem V6 {c:Bool} (h:a=false∨b=false∨c=false):PV.bool false=PV.bool (a&&(b&&c)):=by
 rcases h with rfl|rfl|rfl<;>simp
theorem Zcn (h:s[i]? = some x) (hx:Yr x=true) (ht:(s.take i).all Yr=true):(s.take (i+1)).all Yr=true:=by
 rw [List.take_add_one,h]
 simp [List.all_append,ht,hx]
theorem ZkU (s:List UInt8) (hs:s.length≤maxLen):∀ H,CallOk E0 Tryz.prog 174 [.str s] H (.bool (WK s)) H:=by
 refine Jw tOk fe174.ok rfl ?_
 cases s with
 | nil =>
   repeat' first|refine Jk ?_|refine JX ?_|refine Ji ?_|refine Jl ?_|refine Jt ?_|refine Jb ?_ ?_|refine Jo ?_|intro hb
   all_goals first
    | rfl
    | (exfalso;simp at hb;done)
 | cons c r =>
   have hc:=Zjn (Int.ofNat c.toNat)
   obtain ⟨S,hS⟩:∃ S,S=Qo (Int.ofNat c.toNat):=⟨_,rfl⟩
   have hj:=Vi (show (c::r)[0]? = some c from rfl)
   rw [XE]
   obtain ⟨s,hss⟩:∃ s,s=c::r:=⟨_,rfl⟩
   rw [← hss] at hs hj ⊢
   have hne:¬ s= []:=by rw [hss];simp
   have hm:c∈s:=by rw [hss];simp
   have hall:S=false→s.all Yr=false:=fun h=>by
    rw [List.all_eq_false]
    exact ⟨c,hm,by rw [show Yr c=S from hS.symm,h];simp⟩
   rw [← hS] at hc
   repeat' first|refine Jk ?_|refine Jc (hc _) ?_|refine JX ?_|refine Ji ?_|refine Jl ?_|refine Jt ?_|refine Jb ?_ ?_|refine Jo ?_|intro hb
   all_goals first
    | (exfalso;simp at hb;exact hne hb)
    | (refine V6 (.inl ?_);simp at hb;simp;omega)
    | (refine V6 (.inr (.inr (hall (by simpa using hb))));done)
    | (refine V6 (.inr (.inl ?_));clear hc hall hj hS hm hne hss;simp [XX] at *;omega)
    | skip
   all_goals
    have f1:S=true:=by simpa using ‹(!S)=false›
    have f2:¬ (48≤(c.toNat:Int)∧(c.toNat:Int)≤57):=by
     first
      | (have:= ‹decide ((c.toNat:Int)≤57)=false›;simp at this;omega)
      | (have:= ‹decide (48≤(c.toNat:Int))=false›;simp at this;omega)
    have f3:(c.toNat:Int)≠95:=by simpa using ‹((c.toNat:Int)==95)=false›
    have f4:(c.toNat:Int)≠35:=by simpa using ‹((c.toNat:Int)==35)=false›
    have hlt:XX (Int.ofNat c.toNat)=true:=ZdF (hS ▸ f1) f2 f3 f4
    have h24:s.length≤24:=by
     have:= ‹decide (24<Int.ofNat s.length)=false›
     simp at this;omega
    rw [show (decide (s.length≤24)&&(XX (Int.ofNat c.toNat)&&s.all Yr))=s.all Yr by simp only [h24,hlt,decide_true,Bool.true_and]]
    refine Wp.while (fun m tm H=>∃ (i:Nat),∃ base,i+m=s.length∧(s.take i).all Yr=true∧tm=ovr base [(0,.str s),(38,.int .i64 (s.length:Int)),(39,.int .i64 (i:Int))]∧H=⟨[],0,[],0⟩)
     (fun m tm H hI=>?_) s.length _ _ ⟨0,_,by omega,by simp,Zf ⟨rfl,rfl,rfl,trivial⟩,rfl⟩
    clear hc hall hj
    obtain ⟨i,base,hi,hall,rfl,rfl⟩:=hI
    by_cases hlt2:i<s.length
    · obtain ⟨d, hd⟩ : ∃ d, s[i]? = some d := ⟨s[i], by simp⟩
      have hj:=Vi hd
      have hc:=Zjn (Int.ofNat d.toNat)
      obtain ⟨D,hD⟩:∃ D,D=Qo (Int.ofNat d.toNat):=⟨_,rfl⟩
      rw [← hD] at hc
      repeat' first|refine Jk ?_|refine Jc (hc _) ?_|refine JX ?_|refine Ji ?_|refine Jl ?_|refine Jt ?_|refine Jb ?_ ?_|refine Jo ?_|intro hb
      · rw [Wv hd (by rw [show Yr d=D from hD.symm];simpa using hb)]
      · refine LoopI.go (m - 1) (by omega) ⟨i + 1, _, by omega, Zcn hd (by rw [show Yr d = D from hD.symm]; simpa using hb) hall, Zf ⟨rfl, rfl, ?_, trivial⟩, rfl⟩
        exact Zz (YB (n:=i+1) (by unfold maxLen at hs;omega))
      · exfalso;simp at hb;omega
    · have e : i = s.length := by omega
      subst e
      repeat' first|refine Jk ?_|refine JX ?_|refine Ji ?_|refine Jl ?_|refine Jt ?_|refine Jb ?_ ?_|refine Jo ?_|intro hb
      · exfalso;simp at hb
      · rw [← hall,List.take_length]
