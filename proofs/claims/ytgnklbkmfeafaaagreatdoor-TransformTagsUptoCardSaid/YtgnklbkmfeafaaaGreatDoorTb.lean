/-
  Terms and goals of narrations: the program's text.
-/
import Derived.Test.YtgnklbkmfeafaaaGreatDoorTa
set_option maxHeartbeats 0
set_option maxRecDepth 100000
namespace Go.Vm.Seat
variable {t:Tm}
open Go.Proofs
theorem VC {l:List Tm} (h:l.length≤maxLen):l.length≤9223372036854775807:=h
theorem ZjT (ht:t.Ok):∀ H,CallOk E0 Tryz.prog 153 [.agg t.cells] H (.int .i64 t.raw) H:=by
 induction ht with
 | @mk k nm s b kz hk hs hn hl hok ih=>
 have hkl:=VC hl
 have hN:=ZhU nm hn
 have h1:=Z6 k 1
 have h2:=Ue s 0
 simp only [Tm.raw]
 refine Jw tOk fe153.ok rfl ?_
 by_cases c1:k=1
 · rw [decide_eq_true c1] at h1
   rw [if_pos (.inl c1)]
   repeat' first|refine Jk ?_|refine Ji ?_|refine JJ ?_|refine Jl ?_|refine Jx ?_|refine Jt ?_|refine Jb ?_ ?_|(apply qT (ty:=0);rfl;rfl;rfl)|(apply qF (ty:=0);rfl;rfl;rfl)|refine Jz ?_ ?_|refine Jo ?_|intro hb
   all_goals rfl
 rw [decide_eq_false c1] at h1
 by_cases c2:s=0
 case neg=>
  rw [decide_eq_false c2] at h2
  rw [if_pos (.inr c2)]
  repeat' first|refine Jk ?_|refine Ji ?_|refine JJ ?_|refine Jl ?_|refine Jx ?_|refine Jt ?_|refine Jb ?_ ?_|(apply qT (ty:=0);rfl;rfl;rfl)|(apply qF (ty:=0);rfl;rfl;rfl)|refine Jz ?_ ?_|refine Jo ?_|intro hb
  all_goals rfl
 rw [decide_eq_true c2] at h2
 rw [if_neg (by simp [c1,c2])]
 cases hA:YG nm with
 | false =>
   rw [hA] at hN
   rw [if_pos rfl]
   repeat' first|refine Jk ?_|refine Jc (hN _) ?_|refine Ji ?_|refine JJ ?_|refine Jl ?_|refine Jx ?_|refine Jt ?_|refine Jb ?_ ?_|(apply qT (ty:=0);rfl;rfl;rfl)|(apply qF (ty:=0);rfl;rfl;rfl)|refine Jz ?_ ?_|refine Jo ?_|intro hb
   all_goals rfl
 | true =>
   rw [hA] at hN
   rw [if_neg (by simp)]
   repeat' first|refine Jk ?_|refine Jc (hN _) ?_|refine Ji ?_|refine JJ ?_|refine Jl ?_|refine Jx ?_|refine Jt ?_|refine Jb ?_ ?_|(apply qT (ty:=0);rfl;rfl;rfl)|(apply qF (ty:=0);rfl;rfl;rfl)|refine Jz ?_ ?_|refine Jo ?_|intro hb
   refine Wp.while (fun m2 tm H=>∃ (i:Nat) (base:TM),i+m2=kz.length∧ZfJ kz=ZfJ (kz.drop i)∧tm=ovr base [(19,slV b 4 (Zb kz)),(20,.int .i64 (kz.length:Int)),(21,.int .i64 (i:Int))]∧H=⟨[.cells 4 [[.int .i64 k,.str nm,.int .i64 s,slV b 4 (Zb kz)]]],0,[],0⟩)
    (fun m2 tm H hI=>Wp.drop ?_) kz.length _ _ ⟨0,_,by omega,by simp,Zf ⟨rfl,Zz (by rw [Za]),rfl,trivial⟩,rfl⟩
   obtain ⟨i,base,hi,hgo,rfl,rfl⟩:=hI
   rw [hgo]
   by_cases hlt:i<kz.length
   · obtain ⟨t, ht⟩ : ∃ t, kz[i]? = some t := ⟨kz[i], by simp⟩
     have hR:=ih t (List.mem_of_getElem? ht)
     have hlx:=Zn (i:Int) (kz.length:Int)
     rw [decide_eq_true (by omega)] at hlx
     have hii:=Zy (a:=(i:Int)) (b:=1) (by omega) (by omega)
     rw [show (i:Int)+1=((i+1:Nat):Int) by omega] at hii
     rw [Q8 ht rfl]
     have n1:=ZK (t.raw) 0
     generalize t.raw=e at hR n1 ⊢
     obtain ⟨k',nm',s',b',kz'⟩:=t
     have hj:=Zh ht
     simp only [Tm.cells] at hR
     by_cases c1:e=0
     · rw [decide_eq_true c1] at n1
       rw [if_neg (by omega)]
       repeat' first|refine Jk ?_|refine Jc (hR _) ?_|refine Ji ?_|refine JJ ?_|refine Jl ?_|refine Jx ?_|refine Jt ?_|refine Jb ?_ ?_|(apply qT (ty:=0);rfl;rfl;rfl)|(apply qF (ty:=0);rfl;rfl;rfl)|refine Jz ?_ ?_|refine Jo ?_|intro hb
       refine DropQ.go [(19,slV b 4 (Zb kz)),(20,.int .i64 (kz.length:Int)),(21,.int .i64 ((i+1:Nat):Int))] ⟨rfl,rfl,rfl,trivial⟩ ?_ rfl ?_ ?_
       · simp [Ze,under]
       · simp [ZO,Zo,Ze,under]
       · exact LoopI.go (m2-1) (by omega) ⟨i+1,_,by omega,rfl,rfl,rfl⟩
     · rw [decide_eq_false c1] at n1
       rw [if_pos c1]
       repeat' first|refine Jk ?_|refine Jc (hR _) ?_|refine Ji ?_|refine JJ ?_|refine Jl ?_|refine Jx ?_|refine Jt ?_|refine Jb ?_ ?_|(apply qT (ty:=0);rfl;rfl;rfl)|(apply qF (ty:=0);rfl;rfl;rfl)|refine Jz ?_ ?_|refine Jo ?_|intro hb
       all_goals rfl
   · have e : i = kz.length := by omega
     subst e
     have hlx:=Zn (kz.length:Int) (kz.length:Int)
     rw [decide_eq_false (by omega)] at hlx
     rw [List.drop_length]
     repeat' first|refine Jk ?_|refine Ji ?_|refine JJ ?_|refine Jl ?_|refine Jx ?_|refine Jt ?_|refine Jb ?_ ?_|(apply qT (ty:=0);rfl;rfl;rfl)|(apply qF (ty:=0);rfl;rfl;rfl)|refine Jz ?_ ?_|refine Jo ?_|intro hb
     all_goals rfl
theorem Zk0 (ht:t.Ok) (hsz:t.size<4611686018427387000):∀ H,CallOk E0 Tryz.prog 132 [.agg t.cells] H (.int .i64 t.rawV) H:=by
 have hV:=ZkA ht hsz
 have hR:=ZjT ht
 have n1:=ZK t.valid 0
 unfold Tm.rawV
 generalize t.valid=v at hV n1 ⊢
 generalize t.raw=w at hR ⊢
 obtain ⟨k,nm,s,b,kz⟩:=t
 simp only [Tm.cells] at hV hR ⊢
 refine Jw tOk fe132.ok rfl ?_
 by_cases c1:v=0
 · rw [decide_eq_true c1] at n1
   rw [if_neg (by omega)]
   repeat' first|refine Jc (hV _) ?_|refine Jc (hR _) ?_|refine Ji ?_|refine Jt ?_|refine Jb ?_ ?_|refine Jo ?_|intro hb
   all_goals rfl
 · rw [decide_eq_false c1] at n1
   rw [if_pos c1]
   repeat' first|refine Jc (hV _) ?_|refine Jc (hR _) ?_|refine Ji ?_|refine Jt ?_|refine Jb ?_ ?_|refine Jo ?_|intro hb
   all_goals rfl
theorem c47 (ht:t.Ok):t.size<4611686018427387904→∀ H,CallOk E0 Tryz.prog 47 [.agg t.cells] H (.int .i64 (t.size:Int)) H:=by
 induction ht with
 | @mk k nm s b kz hk hs hn hl hok ih=>
 intro hsz
 refine Jw tOk fe47.ok rfl ?_
 repeat' first|refine Ji ?_|refine JJ ?_|refine Jl ?_|refine Jx ?_|(apply qT (ty:=0);rfl;rfl;rfl)|(apply qF (ty:=0);rfl;rfl;rfl)|refine Jz ?_ ?_|refine Jo ?_|intro hb
 refine Wp.while (fun m2 tm H=>∃ (i:Nat) (base:TM),i+m2=kz.length∧tm=ovr base [(3,.int .i64 ((1+ZW (kz.take i):Nat):Int)),(7,slV b 4 (Zb kz)),(8,.int .i64 (kz.length:Int)),(9,.int .i64 (i:Int))]∧H=⟨[.cells 4 [[.int .i64 k,.str nm,.int .i64 s,slV b 4 (Zb kz)]]],0,[],0⟩)
  (fun m2 tm H hI=>Wp.drop ?_) kz.length _ _ ⟨0,_,by omega,Zf ⟨rfl,rfl,Zz (by rw [Za]),rfl,trivial⟩,rfl⟩
 obtain ⟨i,base,hi,rfl,rfl⟩:=hI
 simp only [Tm.size] at hsz
 by_cases hlt:i<kz.length
 · obtain ⟨t, ht⟩ : ∃ t, kz[i]? = some t := ⟨kz[i], by simp⟩
   have hm:t∈kz:=List.mem_of_getElem? ht
   have hle:=Un hm
   have hst:=U2 ht
   have hsl:=WX kz (i+1)
   have hR:=ih t hm (by omega)
   have hlx:=Zn (i:Int) (kz.length:Int)
   rw [decide_eq_true (by omega)] at hlx
   unfold maxLen at hl
   have hii:=Zy (a:=(i:Int)) (b:=1) (by omega) (by omega)
   rw [show (i:Int)+1=((i+1:Nat):Int) by omega] at hii
   have hss:=Zy (a:=((1+ZW (kz.take i):Nat):Int)) (b:=(t.size:Int)) (by omega) (by omega)
   rw [show ((1+ZW (kz.take i):Nat):Int)+(t.size:Int)=((1+ZW (kz.take (i+1)):Nat):Int) by rw [hst];omega] at hss
   generalize t.size=w at hR hss
   obtain ⟨k',nm',s',b',kz'⟩:=t
   have hj:=Zh ht
   simp only [Tm.cells] at hR
   repeat' first|refine Jc (hR _) ?_|refine Ji ?_|refine JJ ?_|refine Jl ?_|refine Jx ?_|(apply qT (ty:=0);rfl;rfl;rfl)|(apply qF (ty:=0);rfl;rfl;rfl)|refine Jz ?_ ?_|refine Jo ?_|intro hb
   refine DropQ.go [(3,.int .i64 ((1+ZW (kz.take (i+1)):Nat):Int)),(7,slV b 4 (Zb kz)),(8,.int .i64 (kz.length:Int)),(9,.int .i64 ((i+1:Nat):Int))] ⟨rfl,rfl,rfl,rfl,trivial⟩ ?_ rfl ?_ ?_
   · simp [Ze,under]
   · simp [ZO,Zo,Ze,under]
   · exact LoopI.go (m2-1) (by omega) ⟨i+1,_,by omega,rfl,rfl⟩
 · have e : i = kz.length := by omega
   subst e
   have hlx:=Zn (kz.length:Int) (kz.length:Int)
   rw [decide_eq_false (by omega)] at hlx
   repeat' first|refine Ji ?_|refine JJ ?_|refine Jl ?_|refine Jx ?_|(apply qT (ty:=0);rfl;rfl;rfl)|(apply qF (ty:=0);rfl;rfl;rfl)|refine Jz ?_ ?_|refine Jo ?_|intro hb
   simp [Tm.size]
theorem ZiR (ht:t.Ok) (hsz:t.size<4611686018427387000):∀ H,CallOk E0 Tryz.prog 101 [.agg t.cells] H (.int .i64 t.msgE) H:=by
 have hV:=Zk0 ht hsz
 have hR:=c47 ht (by omega)
 have n1:=ZK t.rawV 0
 have n2:=Yv (t.size:Int) 40
 unfold Tm.msgE
 generalize t.rawV=v at hV n1 ⊢
 generalize t.size=w at hR n2 ⊢
 obtain ⟨k,nm,s,b,kz⟩:=t
 simp only [Tm.cells] at hV hR ⊢
 refine Jw tOk fe101.ok rfl ?_
 by_cases c1:v=0
 · rw [decide_eq_true c1] at n1
   rw [if_neg (by omega)]
   by_cases c2:40<w
   · rw [decide_eq_true (by omega)] at n2
     rw [if_pos c2]
     repeat' first|refine Jc (hV _) ?_|refine Jc (hR _) ?_|refine Ji ?_|refine Jt ?_|refine Jb ?_ ?_|refine Jo ?_|intro hb
     all_goals rfl
   · rw [decide_eq_false (by omega)] at n2
     rw [if_neg c2]
     repeat' first|refine Jc (hV _) ?_|refine Jc (hR _) ?_|refine Ji ?_|refine Jt ?_|refine Jb ?_ ?_|refine Jo ?_|intro hb
     all_goals rfl
 · rw [decide_eq_false c1] at n1
   rw [if_pos c1]
   repeat' first|refine Jc (hV _) ?_|refine Jc (hR _) ?_|refine Ji ?_|refine Jt ?_|refine Jb ?_ ?_|refine Jo ?_|intro hb
   all_goals rfl
theorem ZgY (s:Zg) (hs:s.length≤9223372036854775807):∀ H,CallOk E0 Tryz.prog 100 [.str s] H (.bool (!YG s)) H:=by
 have hN:=ZhU s hs
 refine Jw tOk fe100.ok rfl ?_
 generalize YG s=b at hN ⊢
 cases b
 all_goals
  repeat' first|refine Jc (hN _) ?_|refine Jt ?_|refine Jb ?_ ?_|refine Jo ?_|intro hb
  all_goals rfl
theorem Zkf (g:Gl):∀ H,CallOk E0 Tryz.prog 133 [.agg g.cells] H (.bool (Zce g.kind)) H:=by
 obtain ⟨k,r,w,b,d,ln⟩:=g
 have h1:=Z6 k 2
 have h2:=Z6 k 3
 simp only [Gl.cells,Zce]
 generalize decide (k=2)=x at h1 ⊢
 generalize decide (k=3)=y at h2 ⊢
 refine Jw tOk fe133.ok rfl ?_
 cases x<;>cases y
 all_goals
  repeat' first|refine Jk ?_|refine Ji ?_|refine Jt ?_|refine Jb ?_ ?_|refine Jo ?_|intro hb
  all_goals rfl
theorem ZjZ {g : Gl} (hr : g.role.length ≤ maxLen) (hw : g.wth.length ≤ maxLen) (hl : g.data.length ≤ maxLen) (hd : ∀ t, t ∈ g.data → t.Ok ∧ t.size < 4611686018427387000) :
  ∀ H,CallOk E0 Tryz.prog 102 [.agg g.cells] H (.int .i64 g.err) H:=by
 have hkl:=VC hl
 have hA:=Zkf g
 obtain ⟨k,r,w,b,d,ln⟩:=g
 simp only [Gl.cells,Gl.err] at hA hr hw hl hd hkl ⊢
 have hR:=ZhU r hr
 have hW:=ZhU w hw
 have k1:=Zn k 1
 have k2:=Yv k 5
 have ws:=ZaT w []
 have l1:=Zn ((Zb d).length:Int) 1
 have l4:=Yv ((Zb d).length:Int) 4
 have n1:=Ue ((Zb d).length:Int) 1
 have hcl:=Za d
 refine Jw tOk fe102.ok rfl ?_
 by_cases c1:k<1
 · rw [decide_eq_true c1] at k1
   rw [if_pos (.inl c1)]
   repeat' first|refine Jk ?_|refine Ji ?_|refine JJ ?_|refine Jl ?_|refine Jx ?_|refine Jt ?_|refine Jb ?_ ?_|(apply qT (ty:=0);rfl;rfl;rfl)|(apply qF (ty:=0);rfl;rfl;rfl)|refine Jz ?_ ?_|refine Jo ?_|intro hb
   all_goals rfl
 rw [decide_eq_false c1] at k1
 by_cases c2:5<k
 · rw [decide_eq_true c2] at k2
   rw [if_pos (.inr c2)]
   repeat' first|refine Jk ?_|refine Ji ?_|refine JJ ?_|refine Jl ?_|refine Jx ?_|refine Jt ?_|refine Jb ?_ ?_|(apply qT (ty:=0);rfl;rfl;rfl)|(apply qF (ty:=0);rfl;rfl;rfl)|refine Jz ?_ ?_|refine Jo ?_|intro hb
   all_goals rfl
 rw [decide_eq_false c2] at k2
 rw [if_neg (by omega)]
 generalize YG r=R at hR ⊢
 generalize YG w=W at hW ⊢
 generalize Zce k=A at hA ⊢
 cases R with
 | false =>
   rw [if_pos (.inl rfl)]
   repeat' first|refine Jk ?_|refine Jc (hR _) ?_|refine Ji ?_|refine JJ ?_|refine Jl ?_|refine Jx ?_|refine Jt ?_|refine Jb ?_ ?_|(apply qT (ty:=0);rfl;rfl;rfl)|(apply qF (ty:=0);rfl;rfl;rfl)|refine Jz ?_ ?_|refine Jo ?_|intro hb
   all_goals rfl
 |true=>
 have key:∀ (hge:(A=true∧W=false)=False) (h1:¬ (A=false∧w≠ [])),(A=true∧W=true)∨(A=false∧w= []):=by
  intro hge h1
  cases A<;>cases W<;>simp_all
 by_cases c3:A=true∧W=false
 · obtain ⟨rfl, rfl⟩ := c3
   rw [if_pos (by simp)]
   repeat' first|refine Jk ?_|(apply qCl;rfl;rfl;rfl;rfl;first|exact hR _|exact hA _|exact hW _)|refine Ji ?_|refine JJ ?_|refine Jl ?_|refine Jx ?_|refine Jt ?_|refine Jb ?_ ?_|(apply qT (ty:=0);rfl;rfl;rfl)|(apply qF (ty:=0);rfl;rfl;rfl)|refine Jz ?_ ?_|refine Jo ?_|intro hb
   all_goals rfl
 rw [if_neg (by simp only [Bool.true_eq_false,false_or];exact c3)]
 by_cases c4:A=false∧w≠ []
 · obtain ⟨rfl, c4⟩ := c4
   rw [decide_eq_false c4] at ws
   rw [if_pos ⟨rfl,c4⟩]
   repeat' first|refine Jk ?_|(apply qCl;rfl;rfl;rfl;rfl;first|exact hR _|exact hA _|exact hW _)|refine Ji ?_|refine JJ ?_|refine Jl ?_|refine Jx ?_|refine Jt ?_|refine Jb ?_ ?_|(apply qT (ty:=0);rfl;rfl;rfl)|(apply qF (ty:=0);rfl;rfl;rfl)|refine Jz ?_ ?_|refine Jo ?_|intro hb
   all_goals rfl
 rw [if_neg c4]
 rcases key (by simp [c3]) c4 with ⟨rfl,rfl⟩|⟨rfl,rfl⟩
 · by_cases c5 : d.length < 1
   · rw [decide_eq_true (by omega)] at l1
     rw [if_pos (.inl c5)]
     repeat' first|refine Jk ?_|(apply qCl;rfl;rfl;rfl;rfl;first|exact hR _|exact hA _|exact hW _)|refine Ji ?_|refine JJ ?_|refine Jl ?_|refine Jx ?_|refine Jt ?_|refine Jb ?_ ?_|(apply qT (ty:=0);rfl;rfl;rfl)|(apply qF (ty:=0);rfl;rfl;rfl)|refine Jz ?_ ?_|refine Jo ?_|intro hb
     all_goals rfl
   rw [decide_eq_false (by omega)] at l1
   by_cases c6:4<d.length
   · rw [decide_eq_true (by omega)] at l4
     rw [if_pos (.inr (.inl c6))]
     repeat' first|refine Jk ?_|(apply qCl;rfl;rfl;rfl;rfl;first|exact hR _|exact hA _|exact hW _)|refine Ji ?_|refine JJ ?_|refine Jl ?_|refine Jx ?_|refine Jt ?_|refine Jb ?_ ?_|(apply qT (ty:=0);rfl;rfl;rfl)|(apply qF (ty:=0);rfl;rfl;rfl)|refine Jz ?_ ?_|refine Jo ?_|intro hb
     all_goals rfl
   rw [decide_eq_false (by omega)] at l4
   rw [if_neg (fun h=>by
    rcases h with h|h|⟨h,_⟩
    · exact c5 h
    · exact c6 h
    · cases h)]
   repeat' first|refine Jk ?_|(apply qCl;rfl;rfl;rfl;rfl;first|exact hR _|exact hA _|exact hW _)|refine Ji ?_|refine JJ ?_|refine Jl ?_|refine Jx ?_|refine Jt ?_|refine Jb ?_ ?_|(apply qT (ty:=0);rfl;rfl;rfl)|(apply qF (ty:=0);rfl;rfl;rfl)|refine Jz ?_ ?_|refine Jo ?_|intro hb
   refine Wp.while (fun m2 tm H=>∃ (i:Nat) (base:TM),i+m2=d.length∧ZcW d=ZcW (d.drop i)∧tm=ovr base [(64,slV b 4 (Zb d)),(65,.int .i64 (d.length:Int)),(66,.int .i64 (i:Int))]∧H=⟨[.cells 5 [[.int .i64 k,.str r,.str w,slV b 4 (Zb d),.int .i64 ln]]],0,[],0⟩)
    (fun m2 tm H hI=>Wp.drop ?_) d.length _ _ ⟨0,_,by omega,by simp,Zf ⟨rfl,Zz (by rw [Za]),rfl,trivial⟩,rfl⟩
   obtain ⟨i,base,hi,hgo,rfl,rfl⟩:=hI
   rw [hgo]
   by_cases hlt:i<d.length
   · obtain ⟨t, ht⟩ : ∃ t, d[i]? = some t := ⟨d[i], by simp⟩
     have hR:=ZiR (hd t (List.mem_of_getElem? ht)).1 (hd t (List.mem_of_getElem? ht)).2
     have hlx:=Zn (i:Int) (d.length:Int)
     rw [decide_eq_true (by omega)] at hlx
     have hii:=Zy (a:=(i:Int)) (b:=1) (by omega) (by omega)
     rw [show (i:Int)+1=((i+1:Nat):Int) by omega] at hii
     rw [WY ht rfl]
     have n1:=ZK (t.msgE) 0
     generalize t.msgE=e at hR n1 ⊢
     obtain ⟨k',nm',s',b',kz'⟩:=t
     have hj:=Zh ht
     simp only [Tm.cells] at hR
     by_cases c1:e=0
     · rw [decide_eq_true c1] at n1
       rw [if_neg (by omega)]
       repeat' first|refine Jk ?_|refine Jc (hR _) ?_|refine Ji ?_|refine JJ ?_|refine Jl ?_|refine Jx ?_|refine Jt ?_|refine Jb ?_ ?_|(apply qT (ty:=0);rfl;rfl;rfl)|(apply qF (ty:=0);rfl;rfl;rfl)|refine Jz ?_ ?_|refine Jo ?_|intro hb
       refine DropQ.go [(64,slV b 4 (Zb d)),(65,.int .i64 (d.length:Int)),(66,.int .i64 ((i+1:Nat):Int))] ⟨rfl,rfl,rfl,trivial⟩ ?_ rfl ?_ ?_
       · simp [Ze,under]
       · simp [ZO,Zo,Ze,under]
       · exact LoopI.go (m2-1) (by omega) ⟨i+1,_,by omega,rfl,rfl,rfl⟩
     · rw [decide_eq_false c1] at n1
       rw [if_pos c1]
       repeat' first|refine Jk ?_|refine Jc (hR _) ?_|refine Ji ?_|refine JJ ?_|refine Jl ?_|refine Jx ?_|refine Jt ?_|refine Jb ?_ ?_|(apply qT (ty:=0);rfl;rfl;rfl)|(apply qF (ty:=0);rfl;rfl;rfl)|refine Jz ?_ ?_|refine Jo ?_|intro hb
       all_goals rfl
   · have e : i = d.length := by omega
     subst e
     have hlx:=Zn (d.length:Int) (d.length:Int)
     rw [decide_eq_false (by omega)] at hlx
     rw [List.drop_length]
     repeat' first|refine Jk ?_|refine Ji ?_|refine JJ ?_|refine Jl ?_|refine Jx ?_|refine Jt ?_|refine Jb ?_ ?_|(apply qT (ty:=0);rfl;rfl;rfl)|(apply qF (ty:=0);rfl;rfl;rfl)|refine Jz ?_ ?_|refine Jo ?_|intro hb
     all_goals rfl
 · by_cases c5 : d.length = 1
   case neg=>
    rw [decide_eq_false (by omega)] at n1
    rw [if_pos (by
     rcases Nat.lt_or_ge d.length 1 with h|h
     · exact .inl h
     · exact .inr (.inr ⟨rfl,by omega⟩))]
    rw [decide_eq_true rfl] at ws
    repeat' first|refine Jk ?_|(apply qCl;rfl;rfl;rfl;rfl;first|exact hR _|exact hA _|exact hW _)|refine Ji ?_|refine JJ ?_|refine Jl ?_|refine Jx ?_|refine Jt ?_|refine Jb ?_ ?_|(apply qT (ty:=0);rfl;rfl;rfl)|(apply qF (ty:=0);rfl;rfl;rfl)|refine Jz ?_ ?_|refine Jo ?_|intro hb
    all_goals rfl
   rw [decide_eq_true (by omega)] at n1
   rw [if_neg (fun h=>by rcases h with h|h|⟨_,h⟩<;>omega)]
   rw [decide_eq_true rfl] at ws
   repeat' first|refine Jk ?_|(apply qCl;rfl;rfl;rfl;rfl;first|exact hR _|exact hA _|exact hW _)|refine Ji ?_|refine JJ ?_|refine Jl ?_|refine Jx ?_|refine Jt ?_|refine Jb ?_ ?_|(apply qT (ty:=0);rfl;rfl;rfl)|(apply qF (ty:=0);rfl;rfl;rfl)|refine Jz ?_ ?_|refine Jo ?_|intro hb
   refine Wp.while (fun m2 tm H=>∃ (i:Nat) (base:TM),i+m2=d.length∧ZcW d=ZcW (d.drop i)∧tm=ovr base [(64,slV b 4 (Zb d)),(65,.int .i64 (d.length:Int)),(66,.int .i64 (i:Int))]∧H=⟨[.cells 5 [[.int .i64 k,.str r,.str [],slV b 4 (Zb d),.int .i64 ln]]],0,[],0⟩)
    (fun m2 tm H hI=>Wp.drop ?_) d.length _ _ ⟨0,_,by omega,by simp,Zf ⟨rfl,Zz (by rw [Za]),rfl,trivial⟩,rfl⟩
   obtain ⟨i,base,hi,hgo,rfl,rfl⟩:=hI
   rw [hgo]
   by_cases hlt:i<d.length
   · obtain ⟨t, ht⟩ : ∃ t, d[i]? = some t := ⟨d[i], by simp⟩
     have hR:=ZiR (hd t (List.mem_of_getElem? ht)).1 (hd t (List.mem_of_getElem? ht)).2
     have hlx:=Zn (i:Int) (d.length:Int)
     rw [decide_eq_true (by omega)] at hlx
     have hii:=Zy (a:=(i:Int)) (b:=1) (by omega) (by omega)
     rw [show (i:Int)+1=((i+1:Nat):Int) by omega] at hii
     rw [WY ht rfl]
     have n1:=ZK (t.msgE) 0
     generalize t.msgE=e at hR n1 ⊢
     obtain ⟨k',nm',s',b',kz'⟩:=t
     have hj:=Zh ht
     simp only [Tm.cells] at hR
     by_cases c1:e=0
     · rw [decide_eq_true c1] at n1
       rw [if_neg (by omega)]
       repeat' first|refine Jk ?_|refine Jc (hR _) ?_|refine Ji ?_|refine JJ ?_|refine Jl ?_|refine Jx ?_|refine Jt ?_|refine Jb ?_ ?_|(apply qT (ty:=0);rfl;rfl;rfl)|(apply qF (ty:=0);rfl;rfl;rfl)|refine Jz ?_ ?_|refine Jo ?_|intro hb
       refine DropQ.go [(64,slV b 4 (Zb d)),(65,.int .i64 (d.length:Int)),(66,.int .i64 ((i+1:Nat):Int))] ⟨rfl,rfl,rfl,trivial⟩ ?_ rfl ?_ ?_
       · simp [Ze,under]
       · simp [ZO,Zo,Ze,under]
       · exact LoopI.go (m2-1) (by omega) ⟨i+1,_,by omega,rfl,rfl,rfl⟩
     · rw [decide_eq_false c1] at n1
       rw [if_pos c1]
       repeat' first|refine Jk ?_|refine Jc (hR _) ?_|refine Ji ?_|refine JJ ?_|refine Jl ?_|refine Jx ?_|refine Jt ?_|refine Jb ?_ ?_|(apply qT (ty:=0);rfl;rfl;rfl)|(apply qF (ty:=0);rfl;rfl;rfl)|refine Jz ?_ ?_|refine Jo ?_|intro hb
       all_goals rfl
   · have e : i = d.length := by omega
     subst e
     have hlx:=Zn (d.length:Int) (d.length:Int)
     rw [decide_eq_false (by omega)] at hlx
     rw [List.drop_length]
     repeat' first|refine Jk ?_|refine Ji ?_|refine JJ ?_|refine Jl ?_|refine Jx ?_|refine Jt ?_|refine Jb ?_ ?_|(apply qT (ty:=0);rfl;rfl;rfl)|(apply qF (ty:=0);rfl;rfl;rfl)|refine Jz ?_ ?_|refine Jo ?_|intro hb
     all_goals rfl
