/-
  Valid terms of the program.
-/
import Derived.Test.YtcopccjkfbmpcaaGreatDoorNp
set_option maxHeartbeats 0
set_option maxRecDepth 100000
namespace Go.Vm.Seat
variable {bx:List Box} {d e k lvl s:Int} {i n:Nat} {a b:Bool} {x:UInt8} {nm:List UInt8} {kz l:List Tm} {t:Tm} {A:Box}
open Go.Proofs
theorem Wa:∀ l:List Tm,Yi (Za l)=some (Za l)
 | []=>rfl
 | .mk k nm s b kz :: r => by
   simp only [Za,Tm.cells,Yi,Xr,Wa r]
theorem Zj5 (H:Heap) (l:List Tm) (n k:Nat) (hk:k=l.length) (hn:l≠ []) (hH:nth H.bx n=some (.cells 4 (Za l))):frz3 0 H (.own n 4 0 k)=some (slV true 4 (Za l)):=by
 have hl:(Za l).length=k:=by rw [Zb,hk]
 have h1:((Za l).drop 0).take k=Za l:=by rw [List.drop_zero, ← hl,List.take_length]
 have e:slV true 4 (Za l)= .sl .none 4 (Za l):=by
  cases l with
  | nil=>exact absurd rfl hn
  | cons a r =>
    obtain ⟨k,nm,s,b,kz⟩:=a
    exact Zm _ _ _ _
 rw [e]
 show frzC 0 H (.own n 4 0 k)=_
 simp only [frzC,Nat.not_lt_zero,if_false,hH,true_and,Nat.zero_add,hl,Nat.le_refl,if_true,h1,Wa]
theorem ZkF {k : Nat} {L M : List Tm} (hn : L.length = n) (hb : bx[k]? = some (.cells 4 (Za L))) (hM : M ≠ []) (hl : n + M.length ≤ 1000000) (b : Bool) :
  ZO E0 29 29 (.own k 4 0 n) (slV b 4 (Za M)) ⟨bx,0,[],0⟩=some (.own bx.length 4 0 (n+M.length),⟨bx.set k .dead++ [.cells 4 (Za (L++M))],0,[],0⟩):=by
 have hs:YH ⟨bx,0,[],0⟩ (.own k 4 0 n)=some (Za L):=by
  have hnth:nth bx k=some (.cells 4 (Za L)):=(Zs _ _).trans hb
  simp only [YH,hnth]
  rw [if_pos ⟨trivial,by rw [Zb];omega⟩,List.drop_zero, ← hn, ← Zb L,List.take_length,Wa]
 have he:=ZZ (s:= .own k 4 0 n) Yd (ElV.slV b 4 (Za M)) (Zn _) rfl rfl ⟨bx,0,[],0⟩
 have hM2:=Zb M
 cases hE:Za M with
 |nil=>rw [hE] at hM2;exact absurd (List.length_eq_zero_iff.1 hM2.symm) hM
 | cons y yr =>
   rw [hE] at he hM2
   simp only [ZO,he,Yz,XY,hs]
   rw [if_pos ⟨trivial,Nat.zero_le _,by rw [Zb,hn],ZJ (by rw [Zb,hM2];omega) (by decide)⟩,Zb,hM2,hn,Zt,hE]
theorem Zli {k:Nat} (b:Bool):ZO E0 29 29 (.own k 4 0 n) (slV b 4 (Za [])) ⟨bx,0,[],0⟩=some (.own k 4 0 n,⟨bx,0,[],0⟩):=by
 have he:=ZZ (s:= .own k 4 0 n) Yd (ElV.slV b 4 (Za [])) (Zn _) rfl rfl ⟨bx,0,[],0⟩
 simp only [ZO,he]
 rfl
theorem Zqe {a b:List Tm} (hl:a.length+b.length≤1000000) (ba bb:Bool):∀ H,CallOk E0 Tryz.prog 222 [.sl .none 1 [[slV ba 4 (Za a)],[slV bb 4 (Za b)]]] H (slV true 4 (Za (a++b))) H:=by
 refine Jw tOk fe222.ok (ZD _ _ _ _ _) ?_
 have b1:X7 E0 .add 3 (.int .i64 0) (.int .i64 ((Za a).length:Int))=some (.int .i64 (a.length:Int)):=by
  rw [Zb]
  show some (PV.int .i64 (IntKind.i64.wrap (0+(a.length:Int))))=_
  rw [IntWalk.i64_in _ (by omega),Int.zero_add]
 have b2:X7 E0 .add 3 (.int .i64 (a.length:Int)) (.int .i64 ((Za b).length:Int))=some (.int .i64 ((a.length+b.length:Nat):Int)):=by
  rw [Zb]
  show some (PV.int .i64 (IntKind.i64.wrap ((a.length:Int)+(b.length:Int))))=_
  rw [IntWalk.i64_in _ (by omega)]
  congr 2
 have b3:X7 E0 .lss 3 (.int .i64 (a.length:Int)) (.int .i64 0)=some (.bool false):=by
  show some (PV.bool (decide ((a.length:Int)<0)))=_
  rw [decide_eq_false (by omega)]
 have b4:X7 E0 .lss 3 (.int .i64 ((a.length+b.length:Nat):Int)) (.int .i64 0)=some (.bool false):=by
  show some (PV.bool (decide (((a.length+b.length:Nat):Int)<0)))=_
  rw [decide_eq_false (by omega)]
 have go1:=ZjZ (n:=a.length+b.length)
 by_cases h0:a.length+b.length=0
 · have ea : a = [] := List.length_eq_zero_iff.1 (by omega)
   have eb:b= []:=List.length_eq_zero_iff.1 (by omega)
   rw [h0] at b2 b4
   have hg:=Zp0
   clear go1 h0
   subst ea eb
   have hap:∀ f,ZO E0 29 29 .nils (slV f 4 (Za [])) hNil=some (.nils,hNil):=fun f=>by
    have he:=ZZ (s:= .nils) Yd (ElV.slV f 4 (Za [])) (Zn _) rfl rfl hNil
    simp only [ZO,he]
    rfl
   have hap1:=hap ba
   have hap2:=hap bb
   rw [show slV true 4 (Za ([]++ []))= .nils from Zh 4]
   repeat' first|refine Jo ?_|fail
   refine Wp.loop ?_
   repeat' first|refine Ji ?_|refine Jl ?_|(apply qT (ty:=0);rfl;rfl;rfl)|refine Jo ?_|fail
   refine LoopQ.go ?_
   refine Wp.loop ?_
   repeat' first|refine Ji ?_|refine Jl ?_|(apply qT (ty:=0);rfl;rfl;rfl)|refine Jo ?_|fail
   refine LoopQ.go ?_
   refine Wp.loop ?_
   repeat' first|refine Ji ?_|refine Jo ?_|fail
   refine LoopQ.exit ?_
   repeat' first|refine Jc hg ?_|refine Jo ?_|fail
   refine Wp.loop ?_
   repeat' first|refine JA ?_|(apply qT (ty:=0);rfl;rfl;rfl)|refine Jo ?_|fail
   refine LoopQ.go ?_
   refine Wp.loop ?_
   repeat' first|refine JA ?_|(apply qT (ty:=0);rfl;rfl;rfl)|refine Jo ?_|fail
   refine LoopQ.go ?_
   refine Wp.loop ?_
   repeat' first|refine Ji ?_|refine Jo ?_|fail
   refine LoopQ.exit ?_
   repeat' first|refine Jo ?_|fail
   rfl
 · have hg := go1 (by omega) hl
   clear go1
   obtain ⟨A,lA,hapA,hA⟩:∃ (A:Nat) (bx:List Box),ZO E0 29 29 (.own 0 4 0 0) (slV ba 4 (Za a)) ⟨[.cells 4 []],0,[],0⟩=some (.own A 4 0 a.length,⟨bx,0,[],0⟩)∧bx[A]? = some (.cells 4 (Za a)):=by
    by_cases e:a= []
    · subst e
      exact ⟨0,_,Zli ba,rfl⟩
    · have := ZkF (bx := [.cells 4 []]) (k := 0) (L := []) (M := a) (n := 0) rfl rfl e (by omega) ba
      rw [Nat.zero_add] at this
      exact ⟨_,_,this,rfl⟩
   obtain ⟨B,lB,hapB,hB⟩:∃ (B:Nat) (bx:List Box),ZO E0 29 29 (.own A 4 0 a.length) (slV bb 4 (Za b)) ⟨lA,0,[],0⟩=some (.own B 4 0 (a.length+b.length),⟨bx,0,[],0⟩)∧bx[B]? = some (.cells 4 (Za (a++b))):=by
    by_cases e:b= []
    · subst e
      refine ⟨A,lA,?_,by rw [List.append_nil];exact hA⟩
      rw [Zli]
      rfl
    · exact ⟨_,_,ZkF rfl hA e hl bb,by rw [List.getElem?_append_right (by simp)];simp⟩
   have hfr:∀ m,frz3 m ⟨lB,0,[],0⟩ (.own B 4 0 (a.length+b.length))=frz3 m ⟨lB,0,[],0⟩ (.own B 4 0 (a.length+b.length)):=fun _=>rfl
   have hfr:=Zj5 ⟨lB,0,[],0⟩ (a++b) B (a.length+b.length) (by simp) (fun e=>h0 (by rw [← List.length_append,e];rfl)) ((Zs _ _).trans hB)
   repeat' first|refine Jo ?_|fail
   refine Wp.loop ?_
   repeat' first|refine Ji ?_|refine Jl ?_|(apply qT (ty:=0);rfl;rfl;rfl)|refine Jo ?_|fail
   refine LoopQ.go ?_
   refine Wp.loop ?_
   repeat' first|refine Ji ?_|refine Jl ?_|(apply qT (ty:=0);rfl;rfl;rfl)|refine Jo ?_|fail
   refine LoopQ.go ?_
   refine Wp.loop ?_
   repeat' first|refine Ji ?_|refine Jo ?_|fail
   refine LoopQ.exit ?_
   repeat' first|refine Jc hg ?_|refine Jo ?_|fail
   refine Wp.loop ?_
   repeat' first|refine JA ?_|(apply qT (ty:=0);rfl;rfl;rfl)|refine Jo ?_|fail
   refine LoopQ.go ?_
   refine Wp.loop ?_
   repeat' first|refine JA ?_|(apply qT (ty:=0);rfl;rfl;rfl)|refine Jo ?_|fail
   refine LoopQ.go ?_
   refine Wp.loop ?_
   repeat' first|refine Ji ?_|refine Jo ?_|fail
   refine LoopQ.exit ?_
   repeat' first|refine Jo ?_|fail
   exact hfr
theorem ZdR (h:a=true↔b=true):PV.bool a=PV.bool b:=by rw [Bool.eq_iff_iff.2 h]
theorem Zqo (c:Int):∀ H,CallOk E0 Tryz.prog 143 [.int .u8 c] H (.bool (ZdG c)) H:=by
 refine Jw tOk fe143.ok rfl ?_
 repeat' first|refine Jk ?_|refine Jt ?_|refine Jb ?_ ?_|refine Jo ?_|intro hb
 all_goals
  refine ZdR ?_
  simp [ZdG,Zew,ZmA] at *
  try omega
theorem c93 (c:Int):∀ H,CallOk E0 Tryz.prog 93 [.int .u8 c] H (.bool (Zew c)) H:=by
 refine Jw tOk fe93.ok rfl ?_
 repeat' first|refine Jk ?_|refine Jt ?_|refine Jb ?_ ?_|refine Jo ?_|intro hb
 all_goals
  refine ZdR ?_
  simp [Zew] at *
  try omega
theorem c94 (c:Int):∀ H,CallOk E0 Tryz.prog 94 [.int .u8 c] H (.bool (ZmA c)) H:=by
 refine Jw tOk fe94.ok rfl ?_
 repeat' first|refine Jk ?_|refine Jt ?_|refine Jb ?_ ?_|refine Jo ?_|intro hb
 all_goals
  refine ZdR ?_
  simp [ZmA] at *
  try omega
theorem VH {s:List UInt8} (h:s[i]? = some x) (hx:WG x=false):s.all WG=false:=by
 rw [List.all_eq_false]
 exact ⟨x,List.mem_of_getElem? h,by simp [hx]⟩
theorem Za7 (c:UInt8) (r:List UInt8):XA (c::r)=(decide ((c::r).length≤24)&&(Zew (Int.ofNat c.toNat)&&(c::r).all WG)):=rfl
theorem ZhP {c:Int} (h:ZdG c=true) (h1:¬ (48≤c∧c≤57)) (h2:c≠95) (h3:c≠35):Zew c=true:=by
 simp [ZdG,Zew,ZmA] at *
 omega
theorem eTs:E0.T 9=some ⟨.string,1,16,.str []⟩:=rfl
theorem Zn3 {s:List UInt8} {c:UInt8} (h:s[i]? = some c):Qd E0 9 (.str s) (.int .i64 (i:Int))=some (.int .u8 (c.toNat:Int)):=by
 have en:nat? (.int .i64 (i:Int))=some i:=rfl
 have hn:nth s i=some c:=by rw [Zs];exact h
 simp only [Qd,eTs,en,hn]
 rfl
theorem Zab {c:Bool} (h:a=false∨b=false∨c=false):PV.bool false=PV.bool (a&&(b&&c)):=by
 rcases h with rfl|rfl|rfl<;>simp
theorem ZeR {s:List UInt8} (h:s[i]? = some x) (hx:WG x=true) (ht:(s.take i).all WG=true):(s.take (i+1)).all WG=true:=by
 rw [List.take_add_one,h]
 simp [List.all_append,ht,hx]
theorem Zry (s:List UInt8) (hs:s.length≤maxLen):∀ H,CallOk E0 Tryz.prog 117 [.str s] H (.bool (XA s)) H:=by
 refine Jw tOk fe117.ok rfl ?_
 cases s with
 | nil =>
   repeat' first|refine Jk ?_|refine Jt ?_|refine Jo ?_|fail
   all_goals first
    | rfl
    | (exfalso;simp at hb;done)
 | cons c r =>
   have hc:=Zqo (Int.ofNat c.toNat)
   obtain ⟨S,hS⟩:∃ S,S=ZdG (Int.ofNat c.toNat):=⟨_,rfl⟩
   have hj:=Zn3 (show (c::r)[0]? = some c from rfl)
   rw [Za7]
   obtain ⟨s,hss⟩:∃ s,s=c::r:=⟨_,rfl⟩
   rw [← hss] at hs hj ⊢
   have hne:¬ s= []:=by rw [hss];simp
   have hm:c∈s:=by rw [hss];simp
   have hall:S=false→s.all WG=false:=fun h=>by
    rw [List.all_eq_false]
    exact ⟨c,hm,by rw [show WG c=S from hS.symm,h];simp⟩
   rw [← hS] at hc
   repeat' first|refine Jk ?_|refine Jc (hc _) ?_|refine JX ?_|refine Jt ?_|refine Jb ?_ ?_|refine Jo ?_|intro hb
   all_goals first
    | (exfalso;simp at hb;exact hne hb)
    | (refine Zab (.inl ?_);simp at hb;simp;omega)
    | (refine Zab (.inr (.inr (hall (by simpa using hb))));done)
    | (refine Zab (.inr (.inl ?_));clear hc hall hj hS hm hne hss;simp [Zew] at *;omega)
    | skip
   all_goals
    have f1:S=true:=by simpa using ‹(!S)=false›
    have f2:¬ (48≤(c.toNat:Int)∧(c.toNat:Int)≤57):=by
     first
      | (have:= ‹decide ((c.toNat:Int)≤57)=false›;simp at this;omega)
      | (have:= ‹decide (48≤(c.toNat:Int))=false›;simp at this;omega)
    have f3:(c.toNat:Int)≠95:=by simpa using ‹((c.toNat:Int)==95)=false›
    have f4:(c.toNat:Int)≠35:=by simpa using ‹((c.toNat:Int)==35)=false›
    have hlt:Zew (Int.ofNat c.toNat)=true:=ZhP (hS ▸ f1) f2 f3 f4
    have h24:s.length≤24:=by
     have:= ‹decide (24<Int.ofNat s.length)=false›
     simp at this;omega
    rw [show (decide (s.length≤24)&&(Zew (Int.ofNat c.toNat)&&s.all WG))=s.all WG by simp only [h24,hlt,decide_true,Bool.true_and]]
    refine Wp.while (fun m tm H=>∃ (i:Nat),∃ base,i+m=s.length∧(s.take i).all WG=true∧tm=ovr base [(0,.str s),(38,.int .i64 (s.length:Int)),(39,.int .i64 (i:Int))]∧H=⟨[],0,[],0⟩)
     (fun m tm H hI=>?_) s.length _ _ ⟨0,_,by omega,by simp,Zf ⟨rfl,rfl,rfl,trivial⟩,rfl⟩
    clear hc hall hj
    obtain ⟨i,base,hi,hall,rfl,rfl⟩:=hI
    by_cases hlt2:i<s.length
    · obtain ⟨d, hd⟩ : ∃ d, s[i]? = some d := ⟨s[i], by simp⟩
      have hj:=Zn3 hd
      have hc:=Zqo (Int.ofNat d.toNat)
      obtain ⟨D,hD⟩:∃ D,D=ZdG (Int.ofNat d.toNat):=⟨_,rfl⟩
      rw [← hD] at hc
      repeat' first|refine Jc (hc _) ?_|refine JX ?_|refine Jt ?_|refine Jb ?_ ?_|refine Jo ?_|intro hb
      · rw [VH hd (by rw [show WG d=D from hD.symm];simpa using hb)]
      · refine LoopI.go (m - 1) (by omega) ⟨i + 1, _, by omega, ZeR hd (by rw [show WG d = D from hD.symm]; simpa using hb) hall, Zf ⟨rfl, rfl, ?_, trivial⟩, rfl⟩
        exact Ze (Zd (n:=i+1) (by unfold maxLen at hs;omega))
      · exfalso;simp at hb;omega
    · have e : i = s.length := by omega
      subst e
      repeat' first|refine Jt ?_|refine Jb ?_ ?_|refine Jo ?_|intro hb
      · exfalso;simp at hb
      · rw [← hall,List.take_length]
theorem Zhe (h:¬ (k=1∨k=2∨k=3)∨s<0∨5<s∨(k=3∧s≠0)∨(k≠3∧0<n)):XR k nm s n=1:=if_pos h
theorem Zg1 (h:¬ (¬ (k=1∨k=2∨k=3)∨s<0∨5<s∨(k=3∧s≠0)∨(k≠3∧0<n))) (h2:XA nm=false):XR k nm s n=2:=by unfold XR;rw [if_neg h,if_pos h2]
theorem ZiF (h:¬ (¬ (k=1∨k=2∨k=3)∨s<0∨5<s∨(k=3∧s≠0)∨(k≠3∧0<n))) (h2:XA nm=true) (h3:8<n):XR k nm s n=3:=by unfold XR;rw [if_neg h,if_neg (by simp [h2]),if_pos h3]
theorem Zgx (h:¬ (¬ (k=1∨k=2∨k=3)∨s<0∨5<s∨(k=3∧s≠0)∨(k≠3∧0<n))) (h2:XA nm=true) (h3:¬ 8<n):XR k nm s n=0:=by unfold XR;rw [if_neg h,if_neg (by simp [h2]),if_neg h3]
theorem QQ {n:Int} (h:XR k nm s kz.length=e) (he:e≠0):(Tm.mk k nm s b kz).check lvl n d=(e,n+1,if d<lvl then lvl else d):=by
 simp only [Tm.check];rw [h,if_pos he]
theorem Zjt {n:Int} (h:XR k nm s kz.length=0):(Tm.mk k nm s b kz).check lvl n d=Xf kz (lvl+1) (n+1) (if d<lvl then lvl else d):=by
 simp only [Tm.check];rw [h,if_neg (by simp)]
theorem ZdO {n n' d':Int} (h:l[i]? = some t) (hc:t.check lvl n d=(e,n',d')):Xf (l.drop i) lvl n d=if e≠0 then (e,n',d') else Xf (l.drop (i+1)) lvl n' d':=by
 rw [Zu h];simp only [Xf,hc]
theorem Zf7 (h:l[i]? = some t):Zl (l.drop i)=t.size+Zl (l.drop (i+1)):=by
 rw [Zu h];simp only [Zl]
mutual
theorem US {n m:Nat} (h:n≤m):∀ {p:PV},under n p=true→under m p=true
 | .ptr id _ _ _,hp=>by simp only [under,Nat.blt_eq] at *;omega
 | .own id _ _ _,hp=>by simp only [under,Nat.blt_eq] at *;omega
 | .map id,hp=>by simp only [under,Nat.blt_eq] at *;omega
 | .agg cs,hp=>by simp only [under] at *;exact Xk h hp
 | .tup cs,hp=>by simp only [under] at *;exact Xk h hp
 | .fn _ cs,hp=>by simp only [under] at *;exact Xk h hp
 | .undef,_| .bool _,_| .int _ _,_| .str _,_| .sl _ _ _,_| .fptr _ _,_| .nilp,_| .nils,_| .nilm,_| .nilf,_=>rfl
theorem Xk {n m:Nat} (h:n≤m):∀ {l:List PV},ZN n l=true→ZN m l=true
 | [],_=>rfl
 | p :: r, hl => by
   simp only [ZN,Bool.and_eq_true] at *
   exact ⟨US h hl.1,Xk h hl.2⟩
end
theorem ZgQ {m:Nat} (h:n≤m) {b:Box} (hb:YS n b=true):YS m b=true:=by
 cases b with
 |cells es el=>exact List.all_eq_true.2 fun x hx=>Xk h (List.all_eq_true.1 hb x hx)
 | map es =>
   refine List.all_eq_true.2 fun x hx=>?_
   have:=List.all_eq_true.1 hb x hx
   simp only [Bool.and_eq_true] at this ⊢
   exact ⟨US h this.1,US h this.2⟩
 |sp t cs=>exact Xk h hb
 |dead=>rfl
theorem Za1 (hA:YS n A=true) (k k':IntKind) (x y:Int):[A,.cells 1 [[.int k x]],.cells 1 [[.int k' y]]].all (YS n)=true:=by
 simp only [List.all_cons,hA];rfl
theorem ZnO {B:Box} (hA:YS n A=true) (k k':IntKind) (x y:Int) (hB:YS n B=true):[A,.cells 1 [[.int k x]],.cells 1 [[.int k' y]],B].all (YS n)=true:=by
 simp only [List.all_cons,hA,hB];rfl
theorem c76 (ht : t.Ok) : ∀ {A : Box}, YS 3 A = true → ∀ {lvl n d : Int}, 0 ≤ lvl → lvl + t.size < 4611686018427387904 → 0 ≤ n → n + t.size < 4611686018427387904 → 0 ≤ d → d < 4611686018427387904 →
  CallOk E0 Tryz.prog 76 [.agg t.cells,.int .i64 lvl,.ptr 1 1 0 0,.ptr 2 1 0 0] ⟨[A,.cells 1 [[.int .i64 n]],.cells 1 [[.int .i64 d]]],0,[],0⟩ (.int .i64 (t.check lvl n d).1) ⟨[A,.cells 1 [[.int .i64 (t.check lvl n d).2.1]],.cells 1 [[.int .i64 (t.check lvl n d).2.2]]],0,[],0⟩:=by
 induction ht with
 | @mk k nm s b kz hk hs hn hl hok ih=>
 intro A hA lvl n d hl0 hl1 hn0 hn1 hd0 hd1
 simp only [Tm.size] at hl1 hn1
 obtain ⟨e,n',d',hchk⟩:∃ e n' d',(Tm.mk k nm s b kz).check lvl n d=(e,n',d'):=⟨_,_,_,rfl⟩
 rw [hchk]
 have hw:IntKind.i64.wrap (n+1)=n+1:=IntWalk.i64_in _ (by omega)
 have hw2:IntKind.i64.wrap (lvl+1)=lvl+1:=IntWalk.i64_in _ (by omega)
 have hc:=Zry nm hn
 obtain ⟨N,hN⟩:∃ N,N=XA nm:=⟨_,rfl⟩
 rw [← hN] at hc
 refine Zf6 (own:=fun _=>false) tOk fe76.ok ?_
 refine Wp.seq ?_
 repeat' first|refine Jk ?_|refine Jc (hc _) ?_|refine Jl ?_|refine Jt ?_|refine Jb ?_ ?_|refine Jo ?_|intro hb
 all_goals first
  | (have h0 := Zhe (k := k) (nm := nm) (s := s) (n := kz.length) (by clear ih hok hc hchk; simp only [Zb, beq_iff_eq, bne_iff_ne, decide_eq_true_eq, decide_eq_false_iff_not, beq_eq_false_iff_ne, bne_eq_false_iff_eq] at *; omega)
     cases hchk.symm.trans (QQ h0 (by decide))
     exact DropF.ret [(8,.int .i64 1)] ⟨rfl,trivial⟩ rfl rfl (Za1 hA _ _ _ _) (RetE.ret rfl rfl (by rw [hw];rfl)))
  | (have h0 := Zg1 (k := k) (nm := nm) (s := s) (n := kz.length) (by clear ih hok hc hchk; simp only [Zb, beq_iff_eq, decide_eq_true_eq, decide_eq_false_iff_not, beq_eq_false_iff_ne, bne_eq_false_iff_eq] at *; omega) (by rw [← hN]; simpa using hb)
     cases hchk.symm.trans (QQ h0 (by decide))
     exact DropF.ret [(8,.int .i64 2)] ⟨rfl,trivial⟩ rfl rfl (Za1 hA _ _ _ _) (RetE.ret rfl rfl (by rw [hw];rfl)))
  | (have h0 := ZiF (k := k) (nm := nm) (s := s) (n := kz.length) (by clear ih hok hc hchk; simp only [Zb, beq_iff_eq, decide_eq_true_eq, decide_eq_false_iff_not, beq_eq_false_iff_ne, bne_eq_false_iff_eq] at *; omega) (by rw [← hN]; simpa using ‹(!N) = false›) (by simp [Zb] at hb; omega)
     cases hchk.symm.trans (QQ h0 (by decide))
     exact DropF.ret [(8,.int .i64 3)] ⟨rfl,trivial⟩ rfl rfl (Za1 hA _ _ _ _) (RetE.ret rfl rfl (by rw [hw];rfl)))
  | skip
 all_goals
  have h0:XR k nm s kz.length=0:=Zgx (by clear ih hok hc hchk;simp only [Zb,beq_iff_eq,decide_eq_false_iff_not,beq_eq_false_iff_ne,bne_eq_false_iff_eq] at *;omega) (by rw [← hN];simpa using ‹(!N)=false›) (by simp [Zb] at hb;omega)
  have hgo:=hchk.symm.trans (Zjt h0)
  clear hchk hc h0
  refine Wp.while (fun m tm H=>∃ (i:Nat),∃ base,∃ n1 d1:Int,i+m=kz.length∧(e,n',d')=Xf (kz.drop i) (lvl+1) n1 d1∧0≤n1∧n1+Zl (kz.drop i)<4611686018427387904∧0≤d1∧d1<4611686018427387904∧tm=ovr base [(1,.int .i64 lvl),(2,.ptr 1 1 0 0),(3,.ptr 2 1 0 0),(57,slV b 4 (Za kz)),(58,.int .i64 (kz.length:Int)),(59,.int .i64 (i:Int))]∧H=⟨[A,.cells 1 [[.int .i64 n1]],.cells 1 [[.int .i64 d1]],.cells 4 [[.int .i64 k,.str nm,.int .i64 s,slV b 4 (Za kz)]]],0,[],0⟩)
   (fun m tm H hI=>Wp.drop ?_) kz.length _ _ ⟨0,_,n+1,if d<lvl then lvl else d,by omega,by simpa using hgo,by omega,by simp;omega,by split<;>omega,by split<;>omega,Zf ⟨rfl,rfl,rfl,rfl,Ze (by rw [Zb]),rfl,trivial⟩,by rw [hw]⟩
  clear hgo
  obtain ⟨i,base,n1,d1,hi,hgo,hn2,hn3,hd2,hd3,rfl,rfl⟩:=hI
  unfold maxLen at hl
  by_cases hlt:i<kz.length
  · obtain ⟨t', ht'⟩ : ∃ t', kz[i]? = some t' := ⟨kz[i], by simp⟩
    have hm:t'∈kz:=List.mem_of_getElem? ht'
    have hle:=Xu hm
    have hsd:=Zf7 ht'
    have hr:=t'.check_range (lvl+1) n1 d1
    obtain ⟨e1,n2,d2,h1⟩:∃ e1 n2 d2,t'.check (lvl+1) n1 d1=(e1,n2,d2):=⟨_,_,_,rfl⟩
    have hc:=ih t' hm hA (lvl:=lvl+1) (n:=n1) (d:=d1) (by omega) (by omega) (by omega) (by omega) (by omega) (by omega)
    rw [h1] at hc hr
    simp only [] at hc hr
    rw [← hw2] at hc
    rw [ZdO ht' h1] at hgo
    obtain ⟨k',nm',s',b',kz'⟩:=t'
    have hc:=hc.ext (ext:=[.cells 4 [[.int .i64 k,.str nm,.int .i64 s,slV b 4 (Za kz)]],.cells 4 [[.int .i64 k',.str nm',.int .i64 s',slV b' 4 (Za kz')]]]) rfl (by simp [ZN,under,Tm.cells,Zj]) (Za1 hA _ _ _ _) (by simp)
    have hj:=Zk ht'
    repeat' first|refine Jc hc ?_|refine Jx ?_|refine Jb ?_ ?_|refine Jz ?_ ?_|refine Jo ?_|intro hb
    · have hb1 : e1 ≠ 0 := by simpa using hb
      rw [if_pos hb1] at hgo
      cases hgo
      exact DropF.ret [(8,.int .i64 _)] ⟨rfl,trivial⟩ rfl rfl (Za1 hA _ _ _ _) (RetE.ret rfl rfl rfl)
    · have hb1 : ¬ e1 ≠ 0 := by simpa using hb
      rw [if_neg hb1] at hgo
      exact DropQ.go [(1,.int .i64 lvl),(2,.ptr 1 1 0 0),(3,.ptr 2 1 0 0),(57,slV b 4 (Za kz)),(58,.int .i64 (kz.length:Int)),(59,.int .i64 ((i+1:Nat):Int))] ⟨rfl,rfl,rfl,rfl,rfl,Ze (Zd (n:=i+1) (by omega)),trivial⟩
       (by simp [Zj,under]) rfl (ZnO (ZgQ (show 3≤4 by omega) hA) _ _ _ _ (by simp [YS,ZN,Zj,under])) (LoopI.go (m-1) (by omega) ⟨i+1,_,n2,d2,by omega,hgo,by omega,by omega,by omega,by omega,rfl,rfl⟩)
    · exfalso;simp at hb;omega
  · have e : i = kz.length := by omega
    subst e
    repeat' first|refine Jz ?_ ?_|refine Jo ?_|intro hb
    · exfalso;simp at hb
    · simp only [List.drop_length, Xf] at hgo
      cases hgo
      exact DropF.ret [(8,.int .i64 0)] ⟨rfl,trivial⟩ rfl rfl (Za1 hA _ _ _ _) (RetE.ret rfl rfl rfl)
theorem c46 (ht:t.Ok) (hsz:t.size<4611686018427387000):∀ H,CallOk E0 Tryz.prog 46 [.agg t.cells] H (.int .i64 t.valid) H:=by
 have hc:=c76 ht (A:= .cells 4 [t.cells]) (by obtain ⟨k,nm,s,b,kz⟩:=t;simp [YS,Tm.cells,ZN,Zj,under]) (lvl:=1) (n:=0) (d:=0) (by omega) (by omega) (by omega) (by omega) (by omega) (by omega)
 rw [t.valid_check]
 obtain ⟨e,n,d,h1⟩:∃ e n d,t.check 1 0 0=(e,n,d):=⟨_,_,_,rfl⟩
 rw [h1] at hc ⊢
 obtain ⟨k,nm,s,b,kz⟩:=t
 refine Jw tOk fe46.ok rfl ?_
 repeat' first|refine Jk ?_|refine Jc hc ?_|refine Jt ?_|refine Jb ?_ ?_|refine Jo ?_|intro hb
 all_goals (refine Ze ?_;clear hc h1;simp only [bne_iff_ne,bne_eq_false_iff_eq,decide_eq_true_eq,decide_eq_false_iff_not] at *;(repeat' split)<;>omega)
