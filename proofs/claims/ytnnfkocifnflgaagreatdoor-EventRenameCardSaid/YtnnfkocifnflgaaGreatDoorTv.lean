/-
  Names, valid terms: the program's and the reference's text compute the same.
-/
import Derived.Test.YtnnfkocifnflgaaGreatDoorNp
set_option maxHeartbeats 0
set_option maxRecDepth 100000
namespace Go.Vm.Seat
variable {bx:List Box} {i k n:Nat} {a b:Bool} {s:List UInt8} {x:UInt8}
open Go.Proofs
theorem XR:∀ l:List Tm,Yc (Za l)=some (Za l)
 | []=>rfl
 | .mk k nm s b kz :: r => by
   simp only [Za,Tm.cells,Yc,Xv,XR r]
theorem ZhZ (H:Heap) (l:List Tm) (n k:Nat) (hk:k=l.length) (hn:l≠ []) (hH:nth H.bx n=some (.cells 4 (Za l))):frz3 0 H (.own n 4 0 k)=some (slV true 4 (Za l)):=by
 have hl:(Za l).length=k:=by rw [Zb,hk]
 have h1:((Za l).drop 0).take k=Za l:=by rw [List.drop_zero, ← hl,List.take_length]
 have e:slV true 4 (Za l)= .sl .none 4 (Za l):=by
  cases l with
  | nil=>exact absurd rfl hn
  | cons a r =>
    obtain ⟨k,nm,s,b,kz⟩:=a
    exact Zp _ _ _ _
 rw [e]
 show frzC 0 H (.own n 4 0 k)=_
 simp only [frzC,Nat.not_lt_zero,if_false,hH,true_and,Nat.zero_add,hl,Nat.le_refl,if_true,h1,XR]
theorem Zir {L M : List Tm} (hn : L.length = n) (hb : bx[k]? = some (.cells 4 (Za L))) (hM : M ≠ []) (hl : n + M.length ≤ 1000000) (b : Bool) :
  ZN E0 29 29 (.own k 4 0 n) (slV b 4 (Za M)) ⟨bx,0,[],0⟩=some (.own bx.length 4 0 (n+M.length),⟨bx.set k .dead++ [.cells 4 (Za (L++M))],0,[],0⟩):=by
 have hs:Y9 ⟨bx,0,[],0⟩ (.own k 4 0 n)=some (Za L):=by
  have hnth:nth bx k=some (.cells 4 (Za L)):=(Zn _ _).trans hb
  simp only [Y9,hnth]
  rw [if_pos ⟨trivial,by rw [Zb];omega⟩,List.drop_zero, ← hn, ← Zb L,List.take_length,XR]
 have he:=Z7 (s:= .own k 4 0 n) YX (ElV.slV b 4 (Za M)) (Zr _) rfl rfl ⟨bx,0,[],0⟩
 have hM2:=Zb M
 cases hE:Za M with
 |nil=>rw [hE] at hM2;exact absurd (List.length_eq_zero_iff.1 hM2.symm) hM
 | cons y yr =>
   rw [hE] at he hM2
   simp only [ZN,he,YQ,Vj,hs]
   rw [if_pos ⟨trivial,Nat.zero_le _,by rw [Zb,hn],ZX (by rw [Zb,hM2];omega) (by decide)⟩,Zb,hM2,hn,ZG,hE]
theorem Ziv (b:Bool):ZN E0 29 29 (.own k 4 0 n) (slV b 4 (Za [])) ⟨bx,0,[],0⟩=some (.own k 4 0 n,⟨bx,0,[],0⟩):=by
 have he:=Z7 (s:= .own k 4 0 n) YX (ElV.slV b 4 (Za [])) (Zr _) rfl rfl ⟨bx,0,[],0⟩
 simp only [ZN,he]
 rfl
theorem ZnC {a b:List Tm} (hl:a.length+b.length≤1000000) (ba bb:Bool):∀ H,CallOk E0 Tryz.prog 118 [.sl .none 1 [[slV ba 4 (Za a)],[slV bb 4 (Za b)]]] H (slV true 4 (Za (a++b))) H:=by
 refine Jw tOk fe118.ok (Zv _ _ _ _ _) ?_
 have b1:Xs E0 .add 3 (.int .i64 0) (.int .i64 ((Za a).length:Int))=some (.int .i64 (a.length:Int)):=by
  rw [Zb]
  show some (PV.int .i64 (IntKind.i64.wrap (0+(a.length:Int))))=_
  rw [IntWalk.i64_in _ (by omega),Int.zero_add]
 have b2:Xs E0 .add 3 (.int .i64 (a.length:Int)) (.int .i64 ((Za b).length:Int))=some (.int .i64 ((a.length+b.length:Nat):Int)):=by
  rw [Zb]
  show some (PV.int .i64 (IntKind.i64.wrap ((a.length:Int)+(b.length:Int))))=_
  rw [IntWalk.i64_in _ (by omega)]
  congr 2
 have b3:Xs E0 .lss 3 (.int .i64 (a.length:Int)) (.int .i64 0)=some (.bool false):=by
  show some (PV.bool (decide ((a.length:Int)<0)))=_
  rw [decide_eq_false (by omega)]
 have b4:Xs E0 .lss 3 (.int .i64 ((a.length+b.length:Nat):Int)) (.int .i64 0)=some (.bool false):=by
  show some (PV.bool (decide (((a.length+b.length:Nat):Int)<0)))=_
  rw [decide_eq_false (by omega)]
 have go1:=ZhB (n:=a.length+b.length)
 by_cases h0:a.length+b.length=0
 · have ea : a = [] := List.length_eq_zero_iff.1 (by omega)
   have eb:b= []:=List.length_eq_zero_iff.1 (by omega)
   rw [h0] at b2 b4
   have hg:=Zml
   clear go1 h0
   subst ea eb
   have hap:∀ f,ZN E0 29 29 .nils (slV f 4 (Za [])) hNil=some (.nils,hNil):=fun f=>by
    have he:=Z7 (s:= .nils) YX (ElV.slV f 4 (Za [])) (Zr _) rfl rfl hNil
    simp only [ZN,he]
    rfl
   have hap1:=hap ba
   have hap2:=hap bb
   rw [show slV true 4 (Za ([]++ []))= .nils from Zk 4]
   repeat' first|refine Jc hg ?_|refine JA ?_|refine Ji ?_|refine JJ ?_|refine Jl ?_|refine Jx ?_|refine Jt ?_|refine Jb ?_ ?_|(apply qT (ty:=0);rfl;rfl;rfl)|(apply qF (ty:=0);rfl;rfl;rfl)|refine Jz ?_ ?_|refine Jo ?_|intro hb
   refine Wp.loop ?_
   repeat' first|refine Jc hg ?_|refine JA ?_|refine Ji ?_|refine JJ ?_|refine Jl ?_|refine Jx ?_|refine Jt ?_|refine Jb ?_ ?_|(apply qT (ty:=0);rfl;rfl;rfl)|(apply qF (ty:=0);rfl;rfl;rfl)|refine Jz ?_ ?_|refine Jo ?_|intro hb
   refine LoopQ.go ?_
   refine Wp.loop ?_
   repeat' first|refine Jc hg ?_|refine JA ?_|refine Ji ?_|refine JJ ?_|refine Jl ?_|refine Jx ?_|refine Jt ?_|refine Jb ?_ ?_|(apply qT (ty:=0);rfl;rfl;rfl)|(apply qF (ty:=0);rfl;rfl;rfl)|refine Jz ?_ ?_|refine Jo ?_|intro hb
   refine LoopQ.go ?_
   refine Wp.loop ?_
   repeat' first|refine Jc hg ?_|refine JA ?_|refine Ji ?_|refine JJ ?_|refine Jl ?_|refine Jx ?_|refine Jt ?_|refine Jb ?_ ?_|(apply qT (ty:=0);rfl;rfl;rfl)|(apply qF (ty:=0);rfl;rfl;rfl)|refine Jz ?_ ?_|refine Jo ?_|intro hb
   refine LoopQ.exit ?_
   repeat' first|refine Jc hg ?_|refine JA ?_|refine Ji ?_|refine JJ ?_|refine Jl ?_|refine Jx ?_|refine Jt ?_|refine Jb ?_ ?_|(apply qT (ty:=0);rfl;rfl;rfl)|(apply qF (ty:=0);rfl;rfl;rfl)|refine Jz ?_ ?_|refine Jo ?_|intro hb
   refine Wp.loop ?_
   repeat' first|refine Jc hg ?_|refine JA ?_|refine Ji ?_|refine JJ ?_|refine Jl ?_|refine Jx ?_|refine Jt ?_|refine Jb ?_ ?_|(apply qT (ty:=0);rfl;rfl;rfl)|(apply qF (ty:=0);rfl;rfl;rfl)|refine Jz ?_ ?_|refine Jo ?_|intro hb
   refine LoopQ.go ?_
   refine Wp.loop ?_
   repeat' first|refine Jc hg ?_|refine JA ?_|refine Ji ?_|refine JJ ?_|refine Jl ?_|refine Jx ?_|refine Jt ?_|refine Jb ?_ ?_|(apply qT (ty:=0);rfl;rfl;rfl)|(apply qF (ty:=0);rfl;rfl;rfl)|refine Jz ?_ ?_|refine Jo ?_|intro hb
   refine LoopQ.go ?_
   refine Wp.loop ?_
   repeat' first|refine Jc hg ?_|refine JA ?_|refine Ji ?_|refine JJ ?_|refine Jl ?_|refine Jx ?_|refine Jt ?_|refine Jb ?_ ?_|(apply qT (ty:=0);rfl;rfl;rfl)|(apply qF (ty:=0);rfl;rfl;rfl)|refine Jz ?_ ?_|refine Jo ?_|intro hb
   refine LoopQ.exit ?_
   repeat' first|refine Jc hg ?_|refine JA ?_|refine Ji ?_|refine JJ ?_|refine Jl ?_|refine Jx ?_|refine Jt ?_|refine Jb ?_ ?_|(apply qT (ty:=0);rfl;rfl;rfl)|(apply qF (ty:=0);rfl;rfl;rfl)|refine Jz ?_ ?_|refine Jo ?_|intro hb
   rfl
 · have hg := go1 (by omega) hl
   clear go1
   obtain ⟨A,lA,hapA,hA⟩:∃ (A:Nat) (bx:List Box),ZN E0 29 29 (.own 0 4 0 0) (slV ba 4 (Za a)) ⟨[.cells 4 []],0,[],0⟩=some (.own A 4 0 a.length,⟨bx,0,[],0⟩)∧bx[A]? = some (.cells 4 (Za a)):=by
    by_cases e:a= []
    · subst e
      exact ⟨0,_,Ziv ba,rfl⟩
    · have := Zir (bx := [.cells 4 []]) (k := 0) (L := []) (M := a) (n := 0) rfl rfl e (by omega) ba
      rw [Nat.zero_add] at this
      exact ⟨_,_,this,rfl⟩
   obtain ⟨B,lB,hapB,hB⟩:∃ (B:Nat) (bx:List Box),ZN E0 29 29 (.own A 4 0 a.length) (slV bb 4 (Za b)) ⟨lA,0,[],0⟩=some (.own B 4 0 (a.length+b.length),⟨bx,0,[],0⟩)∧bx[B]? = some (.cells 4 (Za (a++b))):=by
    by_cases e:b= []
    · subst e
      refine ⟨A,lA,?_,by rw [List.append_nil];exact hA⟩
      rw [Ziv]
      rfl
    · exact ⟨_,_,Zir rfl hA e hl bb,by rw [List.getElem?_append_right (by simp)];simp⟩
   have hfr:∀ m,frz3 m ⟨lB,0,[],0⟩ (.own B 4 0 (a.length+b.length))=frz3 m ⟨lB,0,[],0⟩ (.own B 4 0 (a.length+b.length)):=fun _=>rfl
   have hfr:=ZhZ ⟨lB,0,[],0⟩ (a++b) B (a.length+b.length) (by simp) (fun e=>h0 (by rw [← List.length_append,e];rfl)) ((Zn _ _).trans hB)
   repeat' first|refine Jc hg ?_|refine JA ?_|refine Ji ?_|refine JJ ?_|refine Jl ?_|refine Jx ?_|refine Jt ?_|refine Jb ?_ ?_|(apply qT (ty:=0);rfl;rfl;rfl)|(apply qF (ty:=0);rfl;rfl;rfl)|refine Jz ?_ ?_|refine Jo ?_|intro hb
   refine Wp.loop ?_
   repeat' first|refine Jc hg ?_|refine JA ?_|refine Ji ?_|refine JJ ?_|refine Jl ?_|refine Jx ?_|refine Jt ?_|refine Jb ?_ ?_|(apply qT (ty:=0);rfl;rfl;rfl)|(apply qF (ty:=0);rfl;rfl;rfl)|refine Jz ?_ ?_|refine Jo ?_|intro hb
   refine LoopQ.go ?_
   refine Wp.loop ?_
   repeat' first|refine Jc hg ?_|refine JA ?_|refine Ji ?_|refine JJ ?_|refine Jl ?_|refine Jx ?_|refine Jt ?_|refine Jb ?_ ?_|(apply qT (ty:=0);rfl;rfl;rfl)|(apply qF (ty:=0);rfl;rfl;rfl)|refine Jz ?_ ?_|refine Jo ?_|intro hb
   refine LoopQ.go ?_
   refine Wp.loop ?_
   repeat' first|refine Jc hg ?_|refine JA ?_|refine Ji ?_|refine JJ ?_|refine Jl ?_|refine Jx ?_|refine Jt ?_|refine Jb ?_ ?_|(apply qT (ty:=0);rfl;rfl;rfl)|(apply qF (ty:=0);rfl;rfl;rfl)|refine Jz ?_ ?_|refine Jo ?_|intro hb
   refine LoopQ.exit ?_
   repeat' first|refine Jc hg ?_|refine JA ?_|refine Ji ?_|refine JJ ?_|refine Jl ?_|refine Jx ?_|refine Jt ?_|refine Jb ?_ ?_|(apply qT (ty:=0);rfl;rfl;rfl)|(apply qF (ty:=0);rfl;rfl;rfl)|refine Jz ?_ ?_|refine Jo ?_|intro hb
   refine Wp.loop ?_
   repeat' first|refine Jc hg ?_|refine JA ?_|refine Ji ?_|refine JJ ?_|refine Jl ?_|refine Jx ?_|refine Jt ?_|refine Jb ?_ ?_|(apply qT (ty:=0);rfl;rfl;rfl)|(apply qF (ty:=0);rfl;rfl;rfl)|refine Jz ?_ ?_|refine Jo ?_|intro hb
   refine LoopQ.go ?_
   refine Wp.loop ?_
   repeat' first|refine Jc hg ?_|refine JA ?_|refine Ji ?_|refine JJ ?_|refine Jl ?_|refine Jx ?_|refine Jt ?_|refine Jb ?_ ?_|(apply qT (ty:=0);rfl;rfl;rfl)|(apply qF (ty:=0);rfl;rfl;rfl)|refine Jz ?_ ?_|refine Jo ?_|intro hb
   refine LoopQ.go ?_
   refine Wp.loop ?_
   repeat' first|refine Jc hg ?_|refine JA ?_|refine Ji ?_|refine JJ ?_|refine Jl ?_|refine Jx ?_|refine Jt ?_|refine Jb ?_ ?_|(apply qT (ty:=0);rfl;rfl;rfl)|(apply qF (ty:=0);rfl;rfl;rfl)|refine Jz ?_ ?_|refine Jo ?_|intro hb
   refine LoopQ.exit ?_
   repeat' first|refine Jc hg ?_|refine JA ?_|refine Ji ?_|refine JJ ?_|refine Jl ?_|refine Jx ?_|refine Jt ?_|refine Jb ?_ ?_|(apply qT (ty:=0);rfl;rfl;rfl)|(apply qF (ty:=0);rfl;rfl;rfl)|refine Jz ?_ ?_|refine Jo ?_|intro hb
   exact hfr
theorem Zcs (h:a=true↔b=true):PV.bool a=PV.bool b:=by rw [Bool.eq_iff_iff.2 h]
theorem Znu (c:Int):∀ H,CallOk E0 Tryz.prog 159 [.int .u8 c] H (.bool (Zcr c)) H:=by
 refine Jw tOk fe159.ok rfl ?_
 repeat' first|refine Jk ?_|refine Jt ?_|refine Jb ?_ ?_|refine Jo ?_|intro hb
 all_goals
  refine Zcs ?_
  simp [Zcr,Zd8,Zi4] at *
  try omega
theorem ZnI (c:Int):∀ H,CallOk E0 Tryz.prog 192 [.int .u8 c] H (.bool (Zd8 c)) H:=by
 refine Jw tOk fe192.ok rfl ?_
 repeat' first|refine Jk ?_|refine Jt ?_|refine Jb ?_ ?_|refine Jo ?_|intro hb
 all_goals
  refine Zcs ?_
  simp [Zd8] at *
  try omega
theorem Zo8 (c:Int):∀ H,CallOk E0 Tryz.prog 193 [.int .u8 c] H (.bool (Zi4 c)) H:=by
 refine Jw tOk fe193.ok rfl ?_
 repeat' first|refine Jk ?_|refine Jt ?_|refine Jb ?_ ?_|refine Jo ?_|intro hb
 all_goals
  refine Zcs ?_
  simp [Zi4] at *
  try omega
theorem WX (h:s[i]? = some x) (hx:X1 x=false):s.all X1=false:=by
 rw [List.all_eq_false]
 exact ⟨x,List.mem_of_getElem? h,by simp [hx]⟩
theorem Q3 (c:UInt8) (r:List UInt8):UB (c::r)=(decide ((c::r).length≤24)&&(Zd8 (Int.ofNat c.toNat)&&(c::r).all X1)):=rfl
theorem Zgn {c:Int} (h:Zcr c=true) (h1:¬ (48≤c∧c≤57)) (h2:c≠95) (h3:c≠35):Zd8 c=true:=by
 simp [Zcr,Zd8,Zi4] at *
 omega
theorem eTs:E0.T 9=some ⟨.string,1,16,.str []⟩:=rfl
theorem Zj1 {c:UInt8} (h:s[i]? = some c):VV E0 9 (.str s) (.int .i64 (i:Int))=some (.int .u8 (c.toNat:Int)):=by
 have en:nat? (.int .i64 (i:Int))=some i:=rfl
 have hn:nth s i=some c:=by rw [Zn];exact h
 simp only [VV,eTs,en,hn]
 rfl
theorem UV {c:Bool} (h:a=false∨b=false∨c=false):PV.bool false=PV.bool (a&&(b&&c)):=by
 rcases h with rfl|rfl|rfl<;>simp
theorem Zdr (h:s[i]? = some x) (hx:X1 x=true) (ht:(s.take i).all X1=true):(s.take (i+1)).all X1=true:=by
 rw [List.take_add_one,h]
 simp [List.all_append,ht,hx]
theorem ZoJ (s:List UInt8) (hs:s.length≤maxLen):∀ H,CallOk E0 Tryz.prog 121 [.str s] H (.bool (UB s)) H:=by
 refine Jw tOk fe121.ok rfl ?_
 cases s with
 | nil =>
   repeat' first|refine Jk ?_|refine JX ?_|refine Ji ?_|refine Jl ?_|refine Jt ?_|refine Jb ?_ ?_|refine Jo ?_|intro hb
   all_goals first
    | rfl
    | (exfalso;simp at hb;done)
 | cons c r =>
   have hc:=Znu (Int.ofNat c.toNat)
   obtain ⟨S,hS⟩:∃ S,S=Zcr (Int.ofNat c.toNat):=⟨_,rfl⟩
   have hj:=Zj1 (show (c::r)[0]? = some c from rfl)
   rw [Q3]
   obtain ⟨s,hss⟩:∃ s,s=c::r:=⟨_,rfl⟩
   rw [← hss] at hs hj ⊢
   have hne:¬ s= []:=by rw [hss];simp
   have hm:c∈s:=by rw [hss];simp
   have hall:S=false→s.all X1=false:=fun h=>by
    rw [List.all_eq_false]
    exact ⟨c,hm,by rw [show X1 c=S from hS.symm,h];simp⟩
   rw [← hS] at hc
   repeat' first|refine Jk ?_|refine Jc (hc _) ?_|refine JX ?_|refine Ji ?_|refine Jl ?_|refine Jt ?_|refine Jb ?_ ?_|refine Jo ?_|intro hb
   all_goals first
    | (exfalso;simp at hb;exact hne hb)
    | (refine UV (.inl ?_);simp at hb;simp;omega)
    | (refine UV (.inr (.inr (hall (by simpa using hb))));done)
    | (refine UV (.inr (.inl ?_));clear hc hall hj hS hm hne hss;simp [Zd8] at *;omega)
    | skip
   all_goals
    have f1:S=true:=by simpa using ‹(!S)=false›
    have f2:¬ (48≤(c.toNat:Int)∧(c.toNat:Int)≤57):=by
     first
      | (have:= ‹decide ((c.toNat:Int)≤57)=false›;simp at this;omega)
      | (have:= ‹decide (48≤(c.toNat:Int))=false›;simp at this;omega)
    have f3:(c.toNat:Int)≠95:=by simpa using ‹((c.toNat:Int)==95)=false›
    have f4:(c.toNat:Int)≠35:=by simpa using ‹((c.toNat:Int)==35)=false›
    have hlt:Zd8 (Int.ofNat c.toNat)=true:=Zgn (hS ▸ f1) f2 f3 f4
    have h24:s.length≤24:=by
     have:= ‹decide (24<Int.ofNat s.length)=false›
     simp at this;omega
    rw [show (decide (s.length≤24)&&(Zd8 (Int.ofNat c.toNat)&&s.all X1))=s.all X1 by simp only [h24,hlt,decide_true,Bool.true_and]]
    refine Wp.while (fun m tm H=>∃ (i:Nat),∃ base,i+m=s.length∧(s.take i).all X1=true∧tm=ovr base [(0,.str s),(38,.int .i64 (s.length:Int)),(39,.int .i64 (i:Int))]∧H=⟨[],0,[],0⟩)
     (fun m tm H hI=>?_) s.length _ _ ⟨0,_,by omega,by simp,Zf ⟨rfl,rfl,rfl,trivial⟩,rfl⟩
    clear hc hall hj
    obtain ⟨i,base,hi,hall,rfl,rfl⟩:=hI
    by_cases hlt2:i<s.length
    · obtain ⟨d, hd⟩ : ∃ d, s[i]? = some d := ⟨s[i], by simp⟩
      have hj:=Zj1 hd
      have hc:=Znu (Int.ofNat d.toNat)
      obtain ⟨D,hD⟩:∃ D,D=Zcr (Int.ofNat d.toNat):=⟨_,rfl⟩
      rw [← hD] at hc
      repeat' first|refine Jk ?_|refine Jc (hc _) ?_|refine JX ?_|refine Ji ?_|refine Jl ?_|refine Jt ?_|refine Jb ?_ ?_|refine Jo ?_|intro hb
      · rw [WX hd (by rw [show X1 d=D from hD.symm];simpa using hb)]
      · refine LoopI.go (m - 1) (by omega) ⟨i + 1, _, by omega, Zdr hd (by rw [show X1 d = D from hD.symm]; simpa using hb) hall, Zf ⟨rfl, rfl, ?_, trivial⟩, rfl⟩
        exact Ze (Zc (n:=i+1) (by unfold maxLen at hs;omega))
      · exfalso;simp at hb;omega
    · have e : i = s.length := by omega
      subst e
      repeat' first|refine Jk ?_|refine JX ?_|refine Ji ?_|refine Jl ?_|refine Jt ?_|refine Jb ?_ ?_|refine Jo ?_|intro hb
      · exfalso;simp at hb
      · rw [← hall,List.take_length]
