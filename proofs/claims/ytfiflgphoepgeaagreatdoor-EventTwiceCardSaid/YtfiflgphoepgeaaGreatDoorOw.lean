/-
  Two sessions are exchanged: names and terms (the program's text).
-/
import Derived.Test.YtfiflgphoepgeaaGreatDoorOv
namespace Go.Vm.Seat
variable {f t:Int} {s:Bs}
open Go.Proofs
set_option maxRecDepth 100000
theorem Zb7 {n:Int} (h:0≤n∧n≤9):(Lib.itoa n).length=1:=by rw [WV h.1 h.2];rfl
theorem Zlg {a b:Bs} (h:a.length+b.length≤281474976710656):Y2 E0 .add 9 (.str a) (.str b)=some (.str (a++b)):=by
 show ZnO .add a b=_
 simp only [ZnO]
 rw [if_pos (by omega)]
theorem ZpJ (h:Zb1 s=true):∀ H,CallOk E0 Tryz.prog 38 [.agg [.int .i64 f,.int .i64 t],.str s] H (.str s) H:=by
 have hp:=Zqe s
 rw [h] at hp
 refine Jw tOk fe38.ok rfl ?_
 repeat' first|refine Jk ?_|refine Jc (hp _) ?_|refine Js ?_|refine JS ?_|refine Ji ?_|refine JJ ?_|refine Jl ?_|refine Jx ?_|refine Jt ?_|refine Jb ?_ ?_|(apply qT (ty:=0);rfl;rfl;rfl)|(apply qF (ty:=0);rfl;rfl;rfl)|refine Jz ?_ ?_|refine Jo ?_|(apply dK;rfl;rfl;rfl)|refine Jd (hp _) ?_|refine JB ?_|(apply dSl;rfl;rfl;rfl;rfl;rfl;rfl;assumption;exact IsV.any _;rfl)|refine JD ?_|refine JK ?_|(apply dLn;rfl;rfl;rfl;rfl;rfl)|refine JI ?_|(apply dT (ty:=4);rfl;rfl;rfl;rfl)|(apply dF (ty:=4);rfl;rfl;rfl;rfl)|(apply dB (ty:=4);rfl;rfl;rfl;rfl)|(apply dT (ty:=0);rfl;rfl;rfl;rfl)|(apply dF (ty:=0);rfl;rfl;rfl;rfl)|(apply dB (ty:=0);rfl;rfl;rfl;rfl)|refine Jh ?_|(apply Wp.draw tOk follows;kernel_rfl)|intro hb
 all_goals rfl
theorem ZqQ (hs:s.length≤1000000) (h:Zb1 s=false) (h1:Ys s<0):∀ H,CallOk E0 Tryz.prog 38 [.agg [.int .i64 f,.int .i64 t],.str s] H (.str s) H:=by
 have hp:=Zqe s
 rw [h] at hp
 have hl:=Zop hs
 have hg:=UT (Ys s) 0
 rw [decide_eq_false (by omega)] at hg
 generalize Ys s=z at hl hg
 refine Jw tOk fe38.ok rfl ?_
 repeat' first|refine Jk ?_|refine Jc (hp _) ?_|refine Jc (hl _) ?_|refine Js ?_|refine JS ?_|refine Ji ?_|refine JJ ?_|refine Jl ?_|refine Jx ?_|refine Jt ?_|refine Jb ?_ ?_|(apply qT (ty:=0);rfl;rfl;rfl)|(apply qF (ty:=0);rfl;rfl;rfl)|refine Jz ?_ ?_|refine Jo ?_|(apply dK;rfl;rfl;rfl)|refine Jd (hp _) ?_|refine Jd (hl _) ?_|refine JB ?_|(apply dSl;rfl;rfl;rfl;rfl;rfl;rfl;assumption;exact IsV.any _;rfl)|refine JD ?_|refine JK ?_|(apply dLn;rfl;rfl;rfl;rfl;rfl)|refine JI ?_|(apply dT (ty:=4);rfl;rfl;rfl;rfl)|(apply dF (ty:=4);rfl;rfl;rfl;rfl)|(apply dB (ty:=4);rfl;rfl;rfl;rfl)|(apply dT (ty:=0);rfl;rfl;rfl;rfl)|(apply dF (ty:=0);rfl;rfl;rfl;rfl)|(apply dB (ty:=0);rfl;rfl;rfl;rfl)|refine Jh ?_|(apply Wp.draw tOk follows;kernel_rfl)|intro hb
 refine Wp.while (fun m tm H => ∃ (i : Nat) (base : TM), i + m = 2 ∧
   tm=ovr base [(1,.str s),(2,.ptr 0 2 0 0),(5,.int .i64 z),(17,.sl .full 1 [[.int .i64 f],[.int .i64 t]]),(18,.int .i64 2),(19,.int .i64 (i:Int))]∧H=⟨[.cells 2 [[.int .i64 f,.int .i64 t]]],0,[],0⟩)
  (fun m tm H hI=>?_) 2 _ _ ⟨0,_,rfl,Zf ⟨rfl,rfl,rfl,rfl,rfl,rfl,trivial⟩,rfl⟩
 obtain ⟨i,base,hi,rfl,rfl⟩:=hI
 clear hp hl
 match i,hi with
 | 0, hi =>
   repeat' first|refine Jk ?_|refine Js ?_|refine JS ?_|refine Ji ?_|refine JJ ?_|refine Jl ?_|refine Jx ?_|refine Jt ?_|refine Jb ?_ ?_|(apply qT (ty:=0);rfl;rfl;rfl)|(apply qF (ty:=0);rfl;rfl;rfl)|refine Jz ?_ ?_|refine Jo ?_|(apply dK;rfl;rfl;rfl)|refine JB ?_|(apply dSl;rfl;rfl;rfl;rfl;rfl;rfl;assumption;exact IsV.any _;rfl)|refine JD ?_|refine JK ?_|(apply dLn;rfl;rfl;rfl;rfl;rfl)|refine JI ?_|(apply dT (ty:=4);rfl;rfl;rfl;rfl)|(apply dF (ty:=4);rfl;rfl;rfl;rfl)|(apply dB (ty:=4);rfl;rfl;rfl;rfl)|(apply dT (ty:=0);rfl;rfl;rfl;rfl)|(apply dF (ty:=0);rfl;rfl;rfl;rfl)|(apply dB (ty:=0);rfl;rfl;rfl;rfl)|refine Jh ?_|(apply Wp.draw tOk follows;kernel_rfl)|intro hb
   exact LoopI.go (m-1) (by omega) ⟨1,_,by omega,Zf ⟨rfl,rfl,rfl,rfl,rfl,rfl,trivial⟩,rfl⟩
 | 1, hi =>
   repeat' first|refine Jk ?_|refine Js ?_|refine JS ?_|refine Ji ?_|refine JJ ?_|refine Jl ?_|refine Jx ?_|refine Jt ?_|refine Jb ?_ ?_|(apply qT (ty:=0);rfl;rfl;rfl)|(apply qF (ty:=0);rfl;rfl;rfl)|refine Jz ?_ ?_|refine Jo ?_|(apply dK;rfl;rfl;rfl)|refine JB ?_|(apply dSl;rfl;rfl;rfl;rfl;rfl;rfl;assumption;exact IsV.any _;rfl)|refine JD ?_|refine JK ?_|(apply dLn;rfl;rfl;rfl;rfl;rfl)|refine JI ?_|(apply dT (ty:=4);rfl;rfl;rfl;rfl)|(apply dF (ty:=4);rfl;rfl;rfl;rfl)|(apply dB (ty:=4);rfl;rfl;rfl;rfl)|(apply dT (ty:=0);rfl;rfl;rfl;rfl)|(apply dF (ty:=0);rfl;rfl;rfl;rfl)|(apply dB (ty:=0);rfl;rfl;rfl;rfl)|refine Jh ?_|(apply Wp.draw tOk follows;kernel_rfl)|intro hb
   exact LoopI.go (m-1) (by omega) ⟨2,_,by omega,Zf ⟨rfl,rfl,rfl,rfl,rfl,rfl,trivial⟩,rfl⟩
 | 2, hi =>
   repeat' first|refine Jk ?_|refine Js ?_|refine JS ?_|refine Ji ?_|refine JJ ?_|refine Jl ?_|refine Jx ?_|refine Jt ?_|refine Jb ?_ ?_|(apply qT (ty:=0);rfl;rfl;rfl)|(apply qF (ty:=0);rfl;rfl;rfl)|refine Jz ?_ ?_|refine Jo ?_|(apply dK;rfl;rfl;rfl)|refine JB ?_|(apply dSl;rfl;rfl;rfl;rfl;rfl;rfl;assumption;exact IsV.any _;rfl)|refine JD ?_|refine JK ?_|(apply dLn;rfl;rfl;rfl;rfl;rfl)|refine JI ?_|(apply dT (ty:=4);rfl;rfl;rfl;rfl)|(apply dF (ty:=4);rfl;rfl;rfl;rfl)|(apply dB (ty:=4);rfl;rfl;rfl;rfl)|(apply dT (ty:=0);rfl;rfl;rfl;rfl)|(apply dF (ty:=0);rfl;rfl;rfl;rfl)|(apply dB (ty:=0);rfl;rfl;rfl;rfl)|refine Jh ?_|(apply Wp.draw tOk follows;kernel_rfl)|intro hb
   all_goals rfl
 |j+3,hi=>omega
theorem ZpV (hf:0≤f∧f≤9) (ht:0≤t∧t≤9) (hs:s.length≤1000000) (h:Zb1 s=false) {k:Nat} (h1:Ys s=k) (hk:k<s.length):∀ H,CallOk E0 Tryz.prog 38 [.agg [.int .i64 f,.int .i64 t],.str s] H (.str (if s.drop (k+1)=Lib.itoa f then s.take (k+1)++Lib.itoa (Yb f t f) else if s.drop (k+1)=Lib.itoa t then s.take (k+1)++Lib.itoa (Yb f t t) else s)) H:=by
 have hp:=Zqe s
 rw [h] at hp
 have hl:=Zop hs
 rw [h1] at hl
 have hg:=UT (k:Int) 0
 rw [decide_eq_true (by omega)] at hg
 have hadd:Y2 E0 .add 3 (.int .i64 (k:Int)) (.int .i64 1)=some (.int .i64 ((k+1:Nat):Int)):=by
  rw [ZkD (by omega) (by omega)]
  congr 2
 have hlo:=Znm (s:=s) (k:=k+1) (by omega)
 have hhi:=Zk5 (s:=s) (k:=k+1) (by omega)
 have hif:=Zfj (n:=f) (by omega) (by omega)
 have hit:=Zfj (n:=t) (by omega) (by omega)
 have sf:=Uz hf ht hf
 have st:=Uz hf ht ht
 have nf:=c18 f t f
 have nt:=c18 f t t
 have hjf:=Zfj (n:=Yb f t f) (by omega) (by omega)
 have hjt:=Zfj (n:=Yb f t t) (by omega) (by omega)
 have haf:=Zlg (a:=s.take (k+1)) (b:=Lib.itoa (Yb f t f)) (by rw [Zb7 sf,List.length_take];omega)
 have hat:=Zlg (a:=s.take (k+1)) (b:=Lib.itoa (Yb f t t)) (by rw [Zb7 st,List.length_take];omega)
 have hef:=ZiI (s.drop (k+1)) (Lib.itoa f)
 have het:=ZiI (s.drop (k+1)) (Lib.itoa t)
 obtain ⟨R,hR⟩:∃ R,R=if s.drop (k+1)=Lib.itoa f then s.take (k+1)++Lib.itoa (Yb f t f) else if s.drop (k+1)=Lib.itoa t then s.take (k+1)++Lib.itoa (Yb f t t) else s:=⟨_,rfl⟩
 rw [← hR]
 generalize s.drop (k+1)=D at hlo hef het hR
 generalize s.take (k+1)=T at hhi haf hat hR
 generalize Lib.itoa (Yb f t f)=If at hjf haf hR
 generalize Lib.itoa (Yb f t t)=It at hjt hat hR
 generalize Yb f t f=xf at nf hjf
 generalize Yb f t t=xt at nt hjt
 generalize Lib.itoa f=jf at hif hef hR
 generalize Lib.itoa t=jt at hit het hR
 refine Jw tOk fe38.ok rfl ?_
 repeat' first|refine Jk ?_|refine Jc (hp _) ?_|refine Jc (hl _) ?_|refine Js ?_|refine JS ?_|refine Ji ?_|refine JJ ?_|refine Jl ?_|refine Jx ?_|refine Jt ?_|refine Jb ?_ ?_|(apply qT (ty:=0);rfl;rfl;rfl)|(apply qF (ty:=0);rfl;rfl;rfl)|refine Jz ?_ ?_|refine Jo ?_|(apply dK;rfl;rfl;rfl)|refine Jd (hp _) ?_|refine Jd (hl _) ?_|refine JB ?_|(apply dSl;rfl;rfl;rfl;rfl;rfl;rfl;assumption;exact IsV.any _;rfl)|refine JD ?_|refine JK ?_|(apply dLn;rfl;rfl;rfl;rfl;rfl)|refine JI ?_|(apply dT (ty:=4);rfl;rfl;rfl;rfl)|(apply dF (ty:=4);rfl;rfl;rfl;rfl)|(apply dB (ty:=4);rfl;rfl;rfl;rfl)|(apply dT (ty:=0);rfl;rfl;rfl;rfl)|(apply dF (ty:=0);rfl;rfl;rfl;rfl)|(apply dB (ty:=0);rfl;rfl;rfl;rfl)|refine Jh ?_|(apply Wp.draw tOk follows;kernel_rfl)|intro hb
 refine Wp.while (fun m tm H => ∃ (i : Nat) (base : TM), i + m = 2 ∧ (0 < i → D ≠ jf) ∧ (1 < i → D ≠ jt) ∧
   tm=ovr base [(1,.str s),(2,.ptr 0 2 0 0),(5,.int .i64 (k:Int)),(17,.sl .full 1 [[.int .i64 f],[.int .i64 t]]),(18,.int .i64 2),(19,.int .i64 (i:Int))]∧H=⟨[.cells 2 [[.int .i64 f,.int .i64 t]]],0,[],0⟩)
  (fun m tm H hI=>?_) 2 _ _ ⟨0,_,rfl,fun h=>absurd h (by omega),fun h=>absurd h (by omega),Zf ⟨rfl,rfl,rfl,rfl,rfl,rfl,trivial⟩,rfl⟩
 obtain ⟨i,base,hi,q0,q1,rfl,rfl⟩:=hI
 clear hp hl
 match i,hi,q0,q1 with
 | 0, hi, q0, q1 =>
   by_cases he:D=jf
   · rw [decide_eq_true he] at hef
     rw [if_pos he] at hR
     rw [hR]
     clear het
     repeat' first|refine Jk ?_|(apply qCl;rfl;rfl;rfl;rfl;first|exact hif _|exact nf _|exact hjf _)|refine Js ?_|refine JS ?_|refine Ji ?_|refine JJ ?_|refine Jl ?_|refine Jx ?_|refine Jt ?_|refine Jb ?_ ?_|(apply qT (ty:=0);rfl;rfl;rfl)|(apply qF (ty:=0);rfl;rfl;rfl)|refine Jz ?_ ?_|refine Jo ?_|(apply dK;rfl;rfl;rfl)|(apply dCl;rfl;rfl;rfl;rfl;rfl;first|exact hif _|exact nf _|exact hjf _)|refine JB ?_|(apply dSl;rfl;rfl;rfl;rfl;rfl;rfl;assumption;exact IsV.any _;rfl)|refine JD ?_|refine JK ?_|(apply dLn;rfl;rfl;rfl;rfl;rfl)|refine JI ?_|(apply dT (ty:=4);rfl;rfl;rfl;rfl)|(apply dF (ty:=4);rfl;rfl;rfl;rfl)|(apply dB (ty:=4);rfl;rfl;rfl;rfl)|(apply dT (ty:=0);rfl;rfl;rfl;rfl)|(apply dF (ty:=0);rfl;rfl;rfl;rfl)|(apply dB (ty:=0);rfl;rfl;rfl;rfl)|refine Jh ?_|(apply Wp.draw tOk follows;kernel_rfl)|intro hb
     all_goals rfl
   · rw [decide_eq_false he] at hef
     clear het
     repeat' first|refine Jk ?_|refine Jc (hif _) ?_|refine Js ?_|refine JS ?_|refine Ji ?_|refine JJ ?_|refine Jl ?_|refine Jx ?_|refine Jt ?_|refine Jb ?_ ?_|(apply qT (ty:=0);rfl;rfl;rfl)|(apply qF (ty:=0);rfl;rfl;rfl)|refine Jz ?_ ?_|refine Jo ?_|(apply dK;rfl;rfl;rfl)|refine Jd (hif _) ?_|refine JB ?_|(apply dSl;rfl;rfl;rfl;rfl;rfl;rfl;assumption;exact IsV.any _;rfl)|refine JD ?_|refine JK ?_|(apply dLn;rfl;rfl;rfl;rfl;rfl)|refine JI ?_|(apply dT (ty:=4);rfl;rfl;rfl;rfl)|(apply dF (ty:=4);rfl;rfl;rfl;rfl)|(apply dB (ty:=4);rfl;rfl;rfl;rfl)|(apply dT (ty:=0);rfl;rfl;rfl;rfl)|(apply dF (ty:=0);rfl;rfl;rfl;rfl)|(apply dB (ty:=0);rfl;rfl;rfl;rfl)|refine Jh ?_|(apply Wp.draw tOk follows;kernel_rfl)|intro hb
     exact LoopI.go (m-1) (by omega) ⟨1,_,by omega,fun _=>he,fun h=>absurd h (by omega),Zf ⟨rfl,rfl,rfl,rfl,rfl,rfl,trivial⟩,rfl⟩
 | 1, hi, q0, q1 =>
   have q0:=q0 (by omega)
   rw [if_neg q0] at hR
   by_cases he:D=jt
   · rw [decide_eq_true he] at het
     rw [if_pos he] at hR
     rw [hR]
     clear hef
     repeat' first|refine Jk ?_|(apply qCl;rfl;rfl;rfl;rfl;first|exact hit _|exact nt _|exact hjt _)|refine Js ?_|refine JS ?_|refine Ji ?_|refine JJ ?_|refine Jl ?_|refine Jx ?_|refine Jt ?_|refine Jb ?_ ?_|(apply qT (ty:=0);rfl;rfl;rfl)|(apply qF (ty:=0);rfl;rfl;rfl)|refine Jz ?_ ?_|refine Jo ?_|(apply dK;rfl;rfl;rfl)|(apply dCl;rfl;rfl;rfl;rfl;rfl;first|exact hit _|exact nt _|exact hjt _)|refine JB ?_|(apply dSl;rfl;rfl;rfl;rfl;rfl;rfl;assumption;exact IsV.any _;rfl)|refine JD ?_|refine JK ?_|(apply dLn;rfl;rfl;rfl;rfl;rfl)|refine JI ?_|(apply dT (ty:=4);rfl;rfl;rfl;rfl)|(apply dF (ty:=4);rfl;rfl;rfl;rfl)|(apply dB (ty:=4);rfl;rfl;rfl;rfl)|(apply dT (ty:=0);rfl;rfl;rfl;rfl)|(apply dF (ty:=0);rfl;rfl;rfl;rfl)|(apply dB (ty:=0);rfl;rfl;rfl;rfl)|refine Jh ?_|(apply Wp.draw tOk follows;kernel_rfl)|intro hb
     all_goals rfl
   · rw [decide_eq_false he] at het
     clear hef
     repeat' first|refine Jk ?_|refine Jc (hit _) ?_|refine Js ?_|refine JS ?_|refine Ji ?_|refine JJ ?_|refine Jl ?_|refine Jx ?_|refine Jt ?_|refine Jb ?_ ?_|(apply qT (ty:=0);rfl;rfl;rfl)|(apply qF (ty:=0);rfl;rfl;rfl)|refine Jz ?_ ?_|refine Jo ?_|(apply dK;rfl;rfl;rfl)|refine Jd (hit _) ?_|refine JB ?_|(apply dSl;rfl;rfl;rfl;rfl;rfl;rfl;assumption;exact IsV.any _;rfl)|refine JD ?_|refine JK ?_|(apply dLn;rfl;rfl;rfl;rfl;rfl)|refine JI ?_|(apply dT (ty:=4);rfl;rfl;rfl;rfl)|(apply dF (ty:=4);rfl;rfl;rfl;rfl)|(apply dB (ty:=4);rfl;rfl;rfl;rfl)|(apply dT (ty:=0);rfl;rfl;rfl;rfl)|(apply dF (ty:=0);rfl;rfl;rfl;rfl)|(apply dB (ty:=0);rfl;rfl;rfl;rfl)|refine Jh ?_|(apply Wp.draw tOk follows;kernel_rfl)|intro hb
     exact LoopI.go (m-1) (by omega) ⟨2,_,by omega,fun _=>q0,fun _=>he,Zf ⟨rfl,rfl,rfl,rfl,rfl,rfl,trivial⟩,rfl⟩
 | 2, hi, q0, q1 =>
   rw [if_neg (q0 (by omega)),if_neg (q1 (by omega))] at hR
   rw [hR]
   repeat' first|refine Jk ?_|refine Js ?_|refine JS ?_|refine Ji ?_|refine JJ ?_|refine Jl ?_|refine Jx ?_|refine Jt ?_|refine Jb ?_ ?_|(apply qT (ty:=0);rfl;rfl;rfl)|(apply qF (ty:=0);rfl;rfl;rfl)|refine Jz ?_ ?_|refine Jo ?_|(apply dK;rfl;rfl;rfl)|refine JB ?_|(apply dSl;rfl;rfl;rfl;rfl;rfl;rfl;assumption;exact IsV.any _;rfl)|refine JD ?_|refine JK ?_|(apply dLn;rfl;rfl;rfl;rfl;rfl)|refine JI ?_|(apply dT (ty:=4);rfl;rfl;rfl;rfl)|(apply dF (ty:=4);rfl;rfl;rfl;rfl)|(apply dB (ty:=4);rfl;rfl;rfl;rfl)|(apply dT (ty:=0);rfl;rfl;rfl;rfl)|(apply dF (ty:=0);rfl;rfl;rfl;rfl)|(apply dB (ty:=0);rfl;rfl;rfl;rfl)|refine Jh ?_|(apply Wp.draw tOk follows;kernel_rfl)|intro hb
   all_goals rfl
 |j+3,hi,_,_=>omega
theorem c38 (hf:0≤f∧f≤9) (ht:0≤t∧t≤9) (hs:s.length≤1000000):∀ H,CallOk E0 Tryz.prog 38 [.agg [.int .i64 f,.int .i64 t],.str s] H (.str (nmP f t s)) H:=by
 unfold nmP
 cases h:Zb1 s with
 |true=>rw [if_pos rfl];exact ZpJ h
 | false =>
   rw [if_neg (by decide)]
   by_cases h1:0≤Ys s
   · obtain ⟨k, hk⟩ : ∃ k : Nat, Ys s = k := ⟨(Ys s).toNat, by omega⟩
     have hlt:=ZfL s
     have:=ZpV hf ht hs h hk (by omega)
     simp only [hk,Int.toNat_natCast,Int.natCast_nonneg,true_and]
     exact this
   · rw [if_neg (fun h => h1 h.1), if_neg (fun h => h1 h.1)]
     exact ZqQ hs h (by omega)
