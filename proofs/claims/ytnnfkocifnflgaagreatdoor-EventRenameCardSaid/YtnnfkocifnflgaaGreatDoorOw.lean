/-
  Two sessions are exchanged: names and terms (the program's text).
-/
import Derived.Test.YtnnfkocifnflgaaGreatDoorNg
namespace Go.Vm
theorem Ud:∀ {s:Bs},(∀ c,c∈s→c≠35)→Ym s= -1
 | [],_=>rfl
 | c :: r, h => by
   have ih:=Ud (s:=r) fun x hx=>h x (List.mem_cons_of_mem _ hx)
   rw [Ym,ih,if_neg (by decide),if_neg (h c List.mem_cons_self)]
theorem Zeb:∀ {s:Bs} {i:Nat},s[i]? = some 35→(∀ (j:Nat) (c:UInt8),i<j→s[j]? = some c→c≠35)→Ym s=i
 | [],i,h,_=>by simp at h
 | c :: r, 0, h, hl => by
   have e:c=35:=by simpa using h
   have hn:=Ud (s:=r) fun x hx=>by
    obtain ⟨j,hj⟩:=List.mem_iff_getElem?.1 hx
    exact hl (j+1) x (by omega) (by simpa using hj)
   rw [Ym,hn,if_neg (by decide),if_pos e]
   rfl
 | c :: r, i + 1, h, hl => by
   have ih:=Zeb (s:=r) (i:=i) (by simpa using h) fun j c hj hc=>hl (j+1) c (by omega) (by simpa using hc)
   rw [Ym,ih,if_pos (by omega)]
   push_cast
   rfl
theorem ZdS:∀ s:Bs,Ym s<s.length
 | []=>by decide
 | c :: r => by
   have ih:=ZdS r
   rw [Ym,List.length_cons]
   split
   · push_cast;omega
   · split<;>(push_cast;omega)
end Go.Vm
namespace Go.Vm.Seat
variable {s:Bs} {k:Nat} {f n t:Int}
open Go.Proofs Go.RowKit
set_option maxRecDepth 100000
theorem ZhE (a b:Bs):Xs E0 .eql 9 (.str a) (.str b)=some (.bool (decide (a=b))):=by
 by_cases h:a=b
 · subst h
   rw [decide_eq_true rfl]
   show some (PV.bool (a==a))=_
   simp
 · rw [decide_eq_false h]
   exact Wr h
theorem ZdF (h:k≤s.length):Xj E0 9 (.str s) none (some (.int .i64 (k:Int))) none=some (.str (s.take k)):=by
 have e9:E0.T 9=some ⟨.string,1,16,.str []⟩:=by kernel_rfl
 have en:nat? (.int .i64 (k:Int))=some k:=by simp [nat?]
 simp only [Xj,e9,Wf,en]
 rw [if_pos h]
 rfl
theorem Zlo (h:k≤s.length):Xj E0 9 (.str s) (some (.int .i64 (k:Int))) none none=some (.str (s.drop k)):=by
 have e9:E0.T 9=some ⟨.string,1,16,.str []⟩:=by kernel_rfl
 have en:nat? (.int .i64 (k:Int))=some k:=by simp [nat?]
 simp only [Xj,e9,Wf,en]
 rw [if_pos h,List.take_length]
theorem ZoA (u : Nat) (hu : u < 100) (w : World) :
  Calls Tryz.prog 140 #[.int .i64 u,.int .i64 10] w fun e w'=>e= .returned (.string ⟨(Lib.decDigits u).toArray⟩)∧Below w.heap.size w w':=by
 have mixed:=follows
 go_enter Tryz.func140,Tryz.ntmps140
 go_wp2_with (go_at_call 171;refine (Tryz.internal_strconv_small u hu _).mono ?_;rintro e w' ⟨rfl,rfl⟩)
 go_ret
 exact ⟨rfl,Below.refl _ _⟩
theorem Zmu (h0:0≤n) (h1:n≤99):∀ H,CallOk E0 Tryz.prog 140 [.int .i64 n,.int .i64 10] H (.str (Lib.itoa n)) H:=by
 obtain ⟨u,rfl⟩:∃ u:Nat,n=(u:Int):=⟨n.toNat,by omega⟩
 refine Zb5 fe140.ok rfl fun g w vals hst hg hv=>?_
 obtain ⟨v0,v1,rfl,e0,e1⟩:=WK hv
 obtain rfl:=e0.int_inv
 obtain rfl:=e1.int_inv
 exact ⟨.string ⟨(Lib.decDigits u).toArray⟩,.str _ _ (by rw [Lib.itoa_nonneg]),ZoA u (by omega) w⟩
theorem ZdQ (h0:0≤n) (h1:n≤99):∀ H,CallOk E0 Tryz.prog 48 [.int .i64 n] H (.str (Lib.itoa n)) H:=by
 have hc:∀ H,CallOk E0 Tryz.prog 86 [.int .i64 n] H (.str (Lib.itoa n)) H:=by
  have hc:=Zmu h0 h1
  refine Jw tOk fe86.ok rfl ?_
  repeat' first|refine Jc (hc _) ?_|refine Jo ?_|intro hb
  all_goals rfl
 refine Jw tOk fe48.ok rfl ?_
 repeat' first|refine Jc (hc _) ?_|refine Jo ?_|intro hb
 all_goals rfl
theorem ZoF (s:Bs):∀ H,CallOk E0 Tryz.prog 105 [.str s,.str [101,35]] H (.bool (Zck s)) H:=by
 by_cases h:2≤s.length
 · have hg := QI ((s.length : Nat) : Int) 2
   rw [decide_eq_true (by omega)] at hg
   have hs:=ZdF (k:=2) h
   have he:=ZhE (s.take 2) [101,35]
   have e:Zck s=decide (s.take 2= [101,35]):=by
    match s,h with
    | a::b::r,_=>simp [Zck]
   rw [e]
   generalize decide (s.take 2= [101,35])=B at he ⊢
   refine Jw tOk fe105.ok rfl ?_
   cases B
   all_goals
    repeat' first|refine Jk ?_|refine JS ?_|refine Ji ?_|refine Jl ?_|refine Jt ?_|refine Jb ?_ ?_|refine Jo ?_|intro hb
    all_goals rfl
 · have hg := QI ((s.length : Nat) : Int) 2
   rw [decide_eq_false (by omega)] at hg
   have e:Zck s=false:=by
    match s,h with
    | [],_=>rfl
    | [a],_=>rfl
    | a::b::r,h=>exact absurd (by simp) h
   rw [e]
   refine Jw tOk fe105.ok rfl ?_
   repeat' first|refine Jk ?_|refine JS ?_|refine Ji ?_|refine Jl ?_|refine Jt ?_|refine Jb ?_ ?_|refine Jo ?_|intro hb
   all_goals rfl
theorem Zmx (s:Bs):∀ H,CallOk E0 Tryz.prog 63 [.str s,.str [101,35]] H (.bool (Zck s)) H:=by
 have hc:=ZoF s
 refine Jw tOk fe63.ok rfl ?_
 repeat' first|refine Jc (hc _) ?_|refine Jt ?_|refine Jb ?_ ?_|refine Jo ?_|intro hb
 all_goals rw [hb]
theorem ZlR (hs:s.length≤1000000):∀ H,CallOk E0 Tryz.prog 106 [.str s,.int .u8 35] H (.int .i64 (Ym s)) H:=by
 have hsub:=Zet (a:=(s.length:Int)) (b:=1) (by omega) (by omega)
 refine Jw tOk fe106.ok rfl ?_
 repeat' first|refine JX ?_|refine Ji ?_|refine Jl ?_|refine Jt ?_|refine Jb ?_ ?_|refine Jo ?_|intro hb
 refine Wp.while (fun m tm H => ∃ (base : TM), m ≤ s.length ∧ (∀ (j : Nat) (c : UInt8), m ≤ j → s[j]? = some c → c ≠ 35) ∧
   tm=ovr base [(0,.str s),(1,.int .u8 35),(5,.int .i64 ((m:Int)-1))]∧H=hNil)
  (fun m tm H hI=>?_) s.length _ _ ⟨_,by omega,fun j c hj hc=>absurd (Zu hc) (by omega),Zf ⟨rfl,rfl,rfl,trivial⟩,rfl⟩
 obtain ⟨base,hm,hl,rfl,rfl⟩:=hI
 clear hsub
 match m,hm,hl with
 | 0, hm, hl =>
   have e:Ym s= -1:=Ud fun c hc=>by
    obtain ⟨j,hj⟩:=List.mem_iff_getElem?.1 hc
    exact hl j c (by omega) hj
   rw [e]
   repeat' first|refine JX ?_|refine Ji ?_|refine Jl ?_|refine Jt ?_|refine Jb ?_ ?_|refine Jo ?_|intro hb
   all_goals rfl
 | i + 1, hm, hl =>
   have e:(((i+1:Nat):Int)-1)=(i:Int):=by omega
   rw [e]
   obtain ⟨c,hc⟩:∃ c,s[i]? = some c:=⟨s[i],by simp⟩
   have hg:=QI (i:Int) 0
   rw [decide_eq_true (by omega)] at hg
   have hx:=Zj1 hc
   have hsb:=Zet (a:=(i:Int)) (b:=1) (by omega) (by omega)
   have he:Xs E0 .eql 5 (.int .u8 (c.toNat:Int)) (.int .u8 35)=some (.bool (decide (c=35))):=by
    show some (PV.bool (decide ((c.toNat:Int)=35)))=_
    congr 2
    have:(c.toNat:Int)=35↔c=35:=by
     rw [← UInt8.toNat_inj]
     show _↔c.toNat=35
     omega
    simp only [this]
   by_cases h:c=35
   · rw [decide_eq_true h] at he
     rw [Zeb (by rw [hc,h]) fun j c hj hc=>hl j c (by omega) hc]
     repeat' first|refine JX ?_|refine Ji ?_|refine Jl ?_|refine Jt ?_|refine Jb ?_ ?_|refine Jo ?_|intro hb
     all_goals rfl
   · rw [decide_eq_false h] at he
     repeat' first|refine JX ?_|refine Ji ?_|refine Jl ?_|refine Jt ?_|refine Jb ?_ ?_|refine Jo ?_|intro hb
     exact LoopI.go i (by omega) ⟨_,by omega,fun j c' hj hc'=>by
      by_cases e:j=i
      · subst e
        rw [hc] at hc'
        cases hc'
        exact h
      · exact hl j c' (by omega) hc',Zf ⟨rfl,rfl,rfl,trivial⟩,rfl⟩
theorem Zlq (hs:s.length≤1000000):∀ H,CallOk E0 Tryz.prog 64 [.str s,.int .u8 35] H (.int .i64 (Ym s)) H:=by
 have hc:=ZlR hs
 refine Jw tOk fe64.ok rfl ?_
 repeat' first|refine Jc (hc _) ?_|refine Jo ?_|intro hb
 all_goals rfl
set_option maxRecDepth 100000
theorem Qx (h:0≤n∧n≤9):(Lib.itoa n).length=1:=by rw [WG h.1 h.2];rfl
theorem ZfU {a b:Bs} (h:a.length+b.length≤281474976710656):Xs E0 .add 9 (.str a) (.str b)=some (.str (a++b)):=by
 show ZkQ .add a b=_
 simp only [ZkQ]
 rw [if_pos (by omega)]
theorem Znb (h:Zck s=true):∀ H,CallOk E0 Tryz.prog 36 [.agg [.int .i64 f,.int .i64 t],.str s] H (.str s) H:=by
 have hp:=Zmx s
 rw [h] at hp
 refine Jw tOk fe36.ok rfl ?_
 repeat' first|refine Jk ?_|refine Jc (hp _) ?_|refine Js ?_|refine JS ?_|refine Ji ?_|refine JJ ?_|refine Jl ?_|refine Jx ?_|refine Jt ?_|refine Jb ?_ ?_|(apply qT (ty:=0);rfl;rfl;rfl)|(apply qF (ty:=0);rfl;rfl;rfl)|refine Jz ?_ ?_|refine Jo ?_|(apply dK;rfl;rfl;rfl)|refine Jd (hp _) ?_|refine JB ?_|(apply dSl;rfl;rfl;rfl;rfl;rfl;rfl;assumption;exact IsV.any _;rfl)|refine JD ?_|refine JK ?_|(apply dLn;rfl;rfl;rfl;rfl;rfl)|refine JI ?_|(apply dT (ty:=4);rfl;rfl;rfl;rfl)|(apply dF (ty:=4);rfl;rfl;rfl;rfl)|(apply dB (ty:=4);rfl;rfl;rfl;rfl)|(apply dT (ty:=0);rfl;rfl;rfl;rfl)|(apply dF (ty:=0);rfl;rfl;rfl;rfl)|(apply dB (ty:=0);rfl;rfl;rfl;rfl)|refine Jh ?_|(apply Wp.draw tOk follows;kernel_rfl)|intro hb
 all_goals rfl
theorem ZmC (hs:s.length≤1000000) (h:Zck s=false) (h1:Ym s<0):∀ H,CallOk E0 Tryz.prog 36 [.agg [.int .i64 f,.int .i64 t],.str s] H (.str s) H:=by
 have hp:=Zmx s
 rw [h] at hp
 have hl:=Zlq hs
 have hg:=QI (Ym s) 0
 rw [decide_eq_false (by omega)] at hg
 generalize Ym s=z at hl hg
 refine Jw tOk fe36.ok rfl ?_
 repeat' first|refine Jk ?_|refine Jc (hp _) ?_|refine Jc (hl _) ?_|refine Js ?_|refine JS ?_|refine Ji ?_|refine JJ ?_|refine Jl ?_|refine Jx ?_|refine Jt ?_|refine Jb ?_ ?_|(apply qT (ty:=0);rfl;rfl;rfl)|(apply qF (ty:=0);rfl;rfl;rfl)|refine Jz ?_ ?_|refine Jo ?_|(apply dK;rfl;rfl;rfl)|refine Jd (hp _) ?_|refine Jd (hl _) ?_|refine JB ?_|(apply dSl;rfl;rfl;rfl;rfl;rfl;rfl;assumption;exact IsV.any _;rfl)|refine JD ?_|refine JK ?_|(apply dLn;rfl;rfl;rfl;rfl;rfl)|refine JI ?_|(apply dT (ty:=4);rfl;rfl;rfl;rfl)|(apply dF (ty:=4);rfl;rfl;rfl;rfl)|(apply dB (ty:=4);rfl;rfl;rfl;rfl)|(apply dT (ty:=0);rfl;rfl;rfl;rfl)|(apply dF (ty:=0);rfl;rfl;rfl;rfl)|(apply dB (ty:=0);rfl;rfl;rfl;rfl)|refine Jh ?_|(apply Wp.draw tOk follows;kernel_rfl)|intro hb
 refine Wp.while (fun m tm H => ∃ (i : Nat) (base : TM), i + m = 2 ∧
   tm=ovr base [(1,.str s),(2,.ptr 0 2 0 0),(5,.int .i64 z),(17,.sl .full 1 [[.int .i64 f],[.int .i64 t]]),(18,.int .i64 2),(19,.int .i64 (i:Int))]∧H=⟨[.cells 2 [[.int .i64 f,.int .i64 t]]],0,[],0⟩)
  (fun m tm H hI=>?_) 2 _ _ ⟨0,_,rfl,Zf ⟨rfl,rfl,rfl,rfl,rfl,rfl,trivial⟩,rfl⟩
 obtain ⟨i,base,hi,rfl,rfl⟩:=hI
 clear hp hl
 match i,hi with
 | 0, hi =>
   repeat' first|refine Jk ?_|refine Js ?_|refine JS ?_|refine Ji ?_|refine JJ ?_|refine Jl ?_|refine Jx ?_|refine Jt ?_|refine Jb ?_ ?_|(apply qT (ty:=0);rfl;rfl;rfl)|(apply qF (ty:=0);rfl;rfl;rfl)|refine Jz ?_ ?_|refine Jo ?_|(apply dK;rfl;rfl;rfl)|refine JB ?_|(apply dSl;rfl;rfl;rfl;rfl;rfl;rfl;assumption;exact IsV.any _;rfl)|refine JD ?_|refine JK ?_|(apply dLn;rfl;rfl;rfl;rfl;rfl)|refine JI ?_|(apply dT (ty:=4);rfl;rfl;rfl;rfl)|(apply dF (ty:=4);rfl;rfl;rfl;rfl)|(apply dB (ty:=4);rfl;rfl;rfl;rfl)|(apply dT (ty:=0);rfl;rfl;rfl;rfl)|(apply dF (ty:=0);rfl;rfl;rfl;rfl)|(apply dB (ty:=0);rfl;rfl;rfl;rfl)|refine Jh ?_|(apply Wp.draw tOk follows;kernel_rfl)|intro hb
   exact LoopI.go (m-1) (by omega) ⟨1,_,by omega,Zf ⟨rfl,rfl,rfl,rfl,rfl,rfl,trivial⟩,rfl⟩
 | 1, hi =>
   repeat' first|refine Jk ?_|refine Js ?_|refine JS ?_|refine Ji ?_|refine JJ ?_|refine Jl ?_|refine Jx ?_|refine Jt ?_|refine Jb ?_ ?_|(apply qT (ty:=0);rfl;rfl;rfl)|(apply qF (ty:=0);rfl;rfl;rfl)|refine Jz ?_ ?_|refine Jo ?_|(apply dK;rfl;rfl;rfl)|refine JB ?_|(apply dSl;rfl;rfl;rfl;rfl;rfl;rfl;assumption;exact IsV.any _;rfl)|refine JD ?_|refine JK ?_|(apply dLn;rfl;rfl;rfl;rfl;rfl)|refine JI ?_|(apply dT (ty:=4);rfl;rfl;rfl;rfl)|(apply dF (ty:=4);rfl;rfl;rfl;rfl)|(apply dB (ty:=4);rfl;rfl;rfl;rfl)|(apply dT (ty:=0);rfl;rfl;rfl;rfl)|(apply dF (ty:=0);rfl;rfl;rfl;rfl)|(apply dB (ty:=0);rfl;rfl;rfl;rfl)|refine Jh ?_|(apply Wp.draw tOk follows;kernel_rfl)|intro hb
   exact LoopI.go (m-1) (by omega) ⟨2,_,by omega,Zf ⟨rfl,rfl,rfl,rfl,rfl,rfl,trivial⟩,rfl⟩
 | 2, hi =>
   repeat' first|refine Jk ?_|refine Js ?_|refine JS ?_|refine Ji ?_|refine JJ ?_|refine Jl ?_|refine Jx ?_|refine Jt ?_|refine Jb ?_ ?_|(apply qT (ty:=0);rfl;rfl;rfl)|(apply qF (ty:=0);rfl;rfl;rfl)|refine Jz ?_ ?_|refine Jo ?_|(apply dK;rfl;rfl;rfl)|refine JB ?_|(apply dSl;rfl;rfl;rfl;rfl;rfl;rfl;assumption;exact IsV.any _;rfl)|refine JD ?_|refine JK ?_|(apply dLn;rfl;rfl;rfl;rfl;rfl)|refine JI ?_|(apply dT (ty:=4);rfl;rfl;rfl;rfl)|(apply dF (ty:=4);rfl;rfl;rfl;rfl)|(apply dB (ty:=4);rfl;rfl;rfl;rfl)|(apply dT (ty:=0);rfl;rfl;rfl;rfl)|(apply dF (ty:=0);rfl;rfl;rfl;rfl)|(apply dB (ty:=0);rfl;rfl;rfl;rfl)|refine Jh ?_|(apply Wp.draw tOk follows;kernel_rfl)|intro hb
   all_goals rfl
 |j+3,hi=>omega
theorem ZmW (hf:0≤f∧f≤9) (ht:0≤t∧t≤9) (hs:s.length≤1000000) (h:Zck s=false) (h1:Ym s=k) (hk:k<s.length):∀ H,CallOk E0 Tryz.prog 36 [.agg [.int .i64 f,.int .i64 t],.str s] H (.str (if s.drop (k+1)=Lib.itoa f then s.take (k+1)++Lib.itoa (Yo f t f) else if s.drop (k+1)=Lib.itoa t then s.take (k+1)++Lib.itoa (Yo f t t) else s)) H:=by
 have hp:=Zmx s
 rw [h] at hp
 have hl:=Zlq hs
 rw [h1] at hl
 have hg:=QI (k:Int) 0
 rw [decide_eq_true (by omega)] at hg
 have hadd:Xs E0 .add 3 (.int .i64 (k:Int)) (.int .i64 1)=some (.int .i64 ((k+1:Nat):Int)):=by
  rw [ZhC (by omega) (by omega)]
  congr 2
 have hlo:=Zlo (s:=s) (k:=k+1) (by omega)
 have hhi:=ZdF (s:=s) (k:=k+1) (by omega)
 have hif:=ZdQ (n:=f) (by omega) (by omega)
 have hit:=ZdQ (n:=t) (by omega) (by omega)
 have sf:=U5 hf ht hf
 have st:=U5 hf ht ht
 have nf:=c15 f t f
 have nt:=c15 f t t
 have hjf:=ZdQ (n:=Yo f t f) (by omega) (by omega)
 have hjt:=ZdQ (n:=Yo f t t) (by omega) (by omega)
 have haf:=ZfU (a:=s.take (k+1)) (b:=Lib.itoa (Yo f t f)) (by rw [Qx sf,List.length_take];omega)
 have hat:=ZfU (a:=s.take (k+1)) (b:=Lib.itoa (Yo f t t)) (by rw [Qx st,List.length_take];omega)
 have hef:=ZhE (s.drop (k+1)) (Lib.itoa f)
 have het:=ZhE (s.drop (k+1)) (Lib.itoa t)
 obtain ⟨R,hR⟩:∃ R,R=if s.drop (k+1)=Lib.itoa f then s.take (k+1)++Lib.itoa (Yo f t f) else if s.drop (k+1)=Lib.itoa t then s.take (k+1)++Lib.itoa (Yo f t t) else s:=⟨_,rfl⟩
 rw [← hR]
 generalize s.drop (k+1)=D at hlo hef het hR
 generalize s.take (k+1)=T at hhi haf hat hR
 generalize Lib.itoa (Yo f t f)=If at hjf haf hR
 generalize Lib.itoa (Yo f t t)=It at hjt hat hR
 generalize Yo f t f=xf at nf hjf
 generalize Yo f t t=xt at nt hjt
 generalize Lib.itoa f=jf at hif hef hR
 generalize Lib.itoa t=jt at hit het hR
 refine Jw tOk fe36.ok rfl ?_
 repeat' first|refine Jk ?_|refine Jc (hp _) ?_|refine Jc (hl _) ?_|refine Js ?_|refine JS ?_|refine Ji ?_|refine JJ ?_|refine Jl ?_|refine Jx ?_|refine Jt ?_|refine Jb ?_ ?_|(apply qT (ty:=0);rfl;rfl;rfl)|(apply qF (ty:=0);rfl;rfl;rfl)|refine Jz ?_ ?_|refine Jo ?_|(apply dK;rfl;rfl;rfl)|refine Jd (hp _) ?_|refine Jd (hl _) ?_|refine JB ?_|(apply dSl;rfl;rfl;rfl;rfl;rfl;rfl;assumption;exact IsV.any _;rfl)|refine JD ?_|refine JK ?_|(apply dLn;rfl;rfl;rfl;rfl;rfl)|refine JI ?_|(apply dT (ty:=4);rfl;rfl;rfl;rfl)|(apply dF (ty:=4);rfl;rfl;rfl;rfl)|(apply dB (ty:=4);rfl;rfl;rfl;rfl)|(apply dT (ty:=0);rfl;rfl;rfl;rfl)|(apply dF (ty:=0);rfl;rfl;rfl;rfl)|(apply dB (ty:=0);rfl;rfl;rfl;rfl)|refine Jh ?_|(apply Wp.draw tOk follows;kernel_rfl)|intro hb
 refine Wp.while (fun m tm H => ∃ (i : Nat) (base : TM), i + m = 2 ∧ (0 < i → D ≠ jf) ∧ (1 < i → D ≠ jt) ∧
   tm=ovr base [(1,.str s),(2,.ptr 0 2 0 0),(5,.int .i64 (k:Int)),(17,.sl .full 1 [[.int .i64 f],[.int .i64 t]]),(18,.int .i64 2),(19,.int .i64 (i:Int))]∧H=⟨[.cells 2 [[.int .i64 f,.int .i64 t]]],0,[],0⟩)
  (fun m tm H hI=>?_) 2 _ _ ⟨0,_,rfl,fun h=>absurd h (by omega),fun h=>absurd h (by omega),Zf ⟨rfl,rfl,rfl,rfl,rfl,rfl,trivial⟩,rfl⟩
 obtain ⟨i,base,hi,q0,q1,rfl,rfl⟩:=hI
 clear hp hl
 match i,hi,q0,q1 with
 | 0, hi, q0, q1 =>
   by_cases he:D=jf
   · rw [decide_eq_true he] at hef
     rw [if_pos he] at hR
     rw [hR]
     clear het
     repeat' first|refine Jk ?_|(apply qCl;rfl;rfl;rfl;rfl;first|exact hif _|exact nf _|exact hjf _)|refine Js ?_|refine JS ?_|refine Ji ?_|refine JJ ?_|refine Jl ?_|refine Jx ?_|refine Jt ?_|refine Jb ?_ ?_|(apply qT (ty:=0);rfl;rfl;rfl)|(apply qF (ty:=0);rfl;rfl;rfl)|refine Jz ?_ ?_|refine Jo ?_|(apply dK;rfl;rfl;rfl)|(apply dCl;rfl;rfl;rfl;rfl;rfl;first|exact hif _|exact nf _|exact hjf _)|refine JB ?_|(apply dSl;rfl;rfl;rfl;rfl;rfl;rfl;assumption;exact IsV.any _;rfl)|refine JD ?_|refine JK ?_|(apply dLn;rfl;rfl;rfl;rfl;rfl)|refine JI ?_|(apply dT (ty:=4);rfl;rfl;rfl;rfl)|(apply dF (ty:=4);rfl;rfl;rfl;rfl)|(apply dB (ty:=4);rfl;rfl;rfl;rfl)|(apply dT (ty:=0);rfl;rfl;rfl;rfl)|(apply dF (ty:=0);rfl;rfl;rfl;rfl)|(apply dB (ty:=0);rfl;rfl;rfl;rfl)|refine Jh ?_|(apply Wp.draw tOk follows;kernel_rfl)|intro hb
     all_goals rfl
   · rw [decide_eq_false he] at hef
     clear het
     repeat' first|refine Jk ?_|refine Jc (hif _) ?_|refine Js ?_|refine JS ?_|refine Ji ?_|refine JJ ?_|refine Jl ?_|refine Jx ?_|refine Jt ?_|refine Jb ?_ ?_|(apply qT (ty:=0);rfl;rfl;rfl)|(apply qF (ty:=0);rfl;rfl;rfl)|refine Jz ?_ ?_|refine Jo ?_|(apply dK;rfl;rfl;rfl)|refine Jd (hif _) ?_|refine JB ?_|(apply dSl;rfl;rfl;rfl;rfl;rfl;rfl;assumption;exact IsV.any _;rfl)|refine JD ?_|refine JK ?_|(apply dLn;rfl;rfl;rfl;rfl;rfl)|refine JI ?_|(apply dT (ty:=4);rfl;rfl;rfl;rfl)|(apply dF (ty:=4);rfl;rfl;rfl;rfl)|(apply dB (ty:=4);rfl;rfl;rfl;rfl)|(apply dT (ty:=0);rfl;rfl;rfl;rfl)|(apply dF (ty:=0);rfl;rfl;rfl;rfl)|(apply dB (ty:=0);rfl;rfl;rfl;rfl)|refine Jh ?_|(apply Wp.draw tOk follows;kernel_rfl)|intro hb
     exact LoopI.go (m-1) (by omega) ⟨1,_,by omega,fun _=>he,fun h=>absurd h (by omega),Zf ⟨rfl,rfl,rfl,rfl,rfl,rfl,trivial⟩,rfl⟩
 | 1, hi, q0, q1 =>
   have q0:=q0 (by omega)
   rw [if_neg q0] at hR
   by_cases he:D=jt
   · rw [decide_eq_true he] at het
     rw [if_pos he] at hR
     rw [hR]
     clear hef
     repeat' first|refine Jk ?_|(apply qCl;rfl;rfl;rfl;rfl;first|exact hit _|exact nt _|exact hjt _)|refine Js ?_|refine JS ?_|refine Ji ?_|refine JJ ?_|refine Jl ?_|refine Jx ?_|refine Jt ?_|refine Jb ?_ ?_|(apply qT (ty:=0);rfl;rfl;rfl)|(apply qF (ty:=0);rfl;rfl;rfl)|refine Jz ?_ ?_|refine Jo ?_|(apply dK;rfl;rfl;rfl)|(apply dCl;rfl;rfl;rfl;rfl;rfl;first|exact hit _|exact nt _|exact hjt _)|refine JB ?_|(apply dSl;rfl;rfl;rfl;rfl;rfl;rfl;assumption;exact IsV.any _;rfl)|refine JD ?_|refine JK ?_|(apply dLn;rfl;rfl;rfl;rfl;rfl)|refine JI ?_|(apply dT (ty:=4);rfl;rfl;rfl;rfl)|(apply dF (ty:=4);rfl;rfl;rfl;rfl)|(apply dB (ty:=4);rfl;rfl;rfl;rfl)|(apply dT (ty:=0);rfl;rfl;rfl;rfl)|(apply dF (ty:=0);rfl;rfl;rfl;rfl)|(apply dB (ty:=0);rfl;rfl;rfl;rfl)|refine Jh ?_|(apply Wp.draw tOk follows;kernel_rfl)|intro hb
     all_goals rfl
   · rw [decide_eq_false he] at het
     clear hef
     repeat' first|refine Jk ?_|refine Jc (hit _) ?_|refine Js ?_|refine JS ?_|refine Ji ?_|refine JJ ?_|refine Jl ?_|refine Jx ?_|refine Jt ?_|refine Jb ?_ ?_|(apply qT (ty:=0);rfl;rfl;rfl)|(apply qF (ty:=0);rfl;rfl;rfl)|refine Jz ?_ ?_|refine Jo ?_|(apply dK;rfl;rfl;rfl)|refine Jd (hit _) ?_|refine JB ?_|(apply dSl;rfl;rfl;rfl;rfl;rfl;rfl;assumption;exact IsV.any _;rfl)|refine JD ?_|refine JK ?_|(apply dLn;rfl;rfl;rfl;rfl;rfl)|refine JI ?_|(apply dT (ty:=4);rfl;rfl;rfl;rfl)|(apply dF (ty:=4);rfl;rfl;rfl;rfl)|(apply dB (ty:=4);rfl;rfl;rfl;rfl)|(apply dT (ty:=0);rfl;rfl;rfl;rfl)|(apply dF (ty:=0);rfl;rfl;rfl;rfl)|(apply dB (ty:=0);rfl;rfl;rfl;rfl)|refine Jh ?_|(apply Wp.draw tOk follows;kernel_rfl)|intro hb
     exact LoopI.go (m-1) (by omega) ⟨2,_,by omega,fun _=>q0,fun _=>he,Zf ⟨rfl,rfl,rfl,rfl,rfl,rfl,trivial⟩,rfl⟩
 | 2, hi, q0, q1 =>
   rw [if_neg (q0 (by omega)),if_neg (q1 (by omega))] at hR
   rw [hR]
   repeat' first|refine Jk ?_|refine Js ?_|refine JS ?_|refine Ji ?_|refine JJ ?_|refine Jl ?_|refine Jx ?_|refine Jt ?_|refine Jb ?_ ?_|(apply qT (ty:=0);rfl;rfl;rfl)|(apply qF (ty:=0);rfl;rfl;rfl)|refine Jz ?_ ?_|refine Jo ?_|(apply dK;rfl;rfl;rfl)|refine JB ?_|(apply dSl;rfl;rfl;rfl;rfl;rfl;rfl;assumption;exact IsV.any _;rfl)|refine JD ?_|refine JK ?_|(apply dLn;rfl;rfl;rfl;rfl;rfl)|refine JI ?_|(apply dT (ty:=4);rfl;rfl;rfl;rfl)|(apply dF (ty:=4);rfl;rfl;rfl;rfl)|(apply dB (ty:=4);rfl;rfl;rfl;rfl)|(apply dT (ty:=0);rfl;rfl;rfl;rfl)|(apply dF (ty:=0);rfl;rfl;rfl;rfl)|(apply dB (ty:=0);rfl;rfl;rfl;rfl)|refine Jh ?_|(apply Wp.draw tOk follows;kernel_rfl)|intro hb
   all_goals rfl
 |j+3,hi,_,_=>omega
theorem c36 (hf:0≤f∧f≤9) (ht:0≤t∧t≤9) (hs:s.length≤1000000):∀ H,CallOk E0 Tryz.prog 36 [.agg [.int .i64 f,.int .i64 t],.str s] H (.str (nmP f t s)) H:=by
 unfold nmP
 cases h:Zck s with
 |true=>rw [if_pos rfl];exact Znb h
 | false =>
   rw [if_neg (by decide)]
   by_cases h1:0≤Ym s
   · obtain ⟨k, hk⟩ : ∃ k : Nat, Ym s = k := ⟨(Ym s).toNat, by omega⟩
     have hlt:=ZdS s
     have:=ZmW hf ht hs h hk (by omega)
     simp only [hk,Int.toNat_natCast,Int.natCast_nonneg,true_and]
     exact this
   · rw [if_neg (fun h => h1 h.1), if_neg (fun h => h1 h.1)]
     exact ZmC hs h (by omega)
