/-
  Terms and goals of narrations: the reference's text.
-/
import Derived.Test.YtgnklbkmfeafaaaGreatDoorUf
import Derived.Test.YtgnklbkmfeafaaaGreatDoorTd
set_option maxHeartbeats 0
set_option maxRecDepth 100000
namespace Go.Vm.Seat
variable {t:Tm}
open Go.Proofs
theorem c96 (ht:t.Ok):∀ H,CallOk E0 Tryz.prog 96 [.agg t.cells] H (.int .i64 t.raw) H:=by
 induction ht with
 | @mk k nm s b kz hk hs hn hl hok ih=>
 have hkl:=VC hl
 have hN:=c90 nm hn
 have z1:=Z6 k 1
 have z2:=Ue s 0
 simp only [Tm.raw]
 refine Jw tOk fe96.ok rfl ?_
 by_cases c1:k=1
 · rw [decide_eq_true c1] at z1
   rw [if_pos (.inl c1)]
   repeat' first|refine Jk ?_|refine Ji ?_|refine JJ ?_|refine Jl ?_|refine Jx ?_|refine Jt ?_|refine Jb ?_ ?_|refine Jo ?_|intro hb
   all_goals rfl
 rw [decide_eq_false c1] at z1
 by_cases c2:s=0
 case neg=>
  rw [decide_eq_false c2] at z2
  rw [if_pos (.inr c2)]
  repeat' first|refine Jk ?_|refine Ji ?_|refine JJ ?_|refine Jl ?_|refine Jx ?_|refine Jt ?_|refine Jb ?_ ?_|refine Jo ?_|intro hb
  all_goals rfl
 rw [decide_eq_true c2] at z2
 rw [if_neg (by simp [c1,c2])]
 cases hA:YG nm with
 | false =>
   rw [hA] at hN
   rw [if_pos rfl]
   repeat' first|refine Jk ?_|refine Jc (hN _) ?_|refine Ji ?_|refine JJ ?_|refine Jl ?_|refine Jx ?_|refine Jt ?_|refine Jb ?_ ?_|refine Jo ?_|intro hb
   all_goals rfl
 | true =>
   rw [hA] at hN
   rw [if_neg (by simp)]
   repeat' first|refine Jk ?_|refine Jc (hN _) ?_|refine Ji ?_|refine JJ ?_|refine Jl ?_|refine Jx ?_|refine Jt ?_|refine Jb ?_ ?_|refine Jo ?_|intro hb
   refine Wp.while (fun m2 tm H=>∃ (i:Nat) (base:TM),i+m2=kz.length∧ZfJ kz=ZfJ (kz.drop i)∧tm=ovr base [(1,.ptr 0 4 0 0),(3,.int .i64 (i:Int))]∧H=⟨[.cells 4 [[.int .i64 k,.str nm,.int .i64 s,slV b 4 (Zb kz)]]],0,[],0⟩)
    (fun m2 tm H hI=>Wp.drop ?_) kz.length _ _ ⟨0,_,by omega,by simp,Zf ⟨rfl,rfl,trivial⟩,rfl⟩
   obtain ⟨i,base,hi,hgo,rfl,rfl⟩:=hI
   rw [hgo]
   have hlx:=Zn (i:Int) ((Zb kz).length:Int)
   have hcle:=Za kz
   by_cases hlt:i<kz.length
   · obtain ⟨t, ht⟩ : ∃ t, kz[i]? = some t := ⟨kz[i], by simp⟩
     have hR:=ih t (List.mem_of_getElem? ht)
     rw [decide_eq_true (by omega)] at hlx
     have hii:=Zy (a:=(i:Int)) (b:=1) (by omega) (by omega)
     rw [show (i:Int)+1=((i+1:Nat):Int) by omega] at hii
     rw [Q8 ht rfl]
     have n1:=ZK (t.raw) 0
     generalize t.raw=e at hR n1 ⊢
     obtain ⟨k',nm',s',b',kz'⟩:=t
     have hj:=Zh ht
     simp only [Tm.cells] at hR
     by_cases c1:e=0
     · rw [decide_eq_true c1] at n1
       rw [if_neg (by omega)]
       repeat' first|refine Jk ?_|refine Jc (hR _) ?_|refine Ji ?_|refine JJ ?_|refine Jl ?_|refine Jx ?_|refine Jt ?_|refine Jb ?_ ?_|refine Jo ?_|intro hb
       refine DropQ.go [(1,.ptr 0 4 0 0),(3,.int .i64 ((i+1:Nat):Int))] ⟨rfl,rfl,trivial⟩ ?_ rfl ?_ ?_
       · simp [under]
       · simp [ZO,Zo,Ze,under]
       · exact LoopI.go (m2-1) (by omega) ⟨i+1,_,by omega,rfl,rfl,rfl⟩
     · rw [decide_eq_false c1] at n1
       rw [if_pos c1]
       repeat' first|refine Jk ?_|refine Jc (hR _) ?_|refine Ji ?_|refine JJ ?_|refine Jl ?_|refine Jx ?_|refine Jt ?_|refine Jb ?_ ?_|refine Jo ?_|intro hb
       all_goals rfl
   · have e : i = kz.length := by omega
     subst e
     rw [decide_eq_false (by omega)] at hlx
     rw [List.drop_length]
     repeat' first|refine Jk ?_|refine Ji ?_|refine JJ ?_|refine Jl ?_|refine Jx ?_|refine Jt ?_|refine Jb ?_ ?_|refine Jo ?_|intro hb
     all_goals rfl
theorem c57 (ht:t.Ok) (hsz:t.size<4611686018427387000):∀ H,CallOk E0 Tryz.prog 57 [.agg t.cells] H (.int .i64 t.rawV) H:=by
 have hV:=c95 ht (by omega)
 have hR:=c96 ht
 have n1:=ZK t.valid 0
 unfold Tm.rawV
 generalize t.valid=v at hV n1 ⊢
 generalize t.raw=w at hR ⊢
 obtain ⟨k,nm,s,b,kz⟩:=t
 simp only [Tm.cells] at hV hR ⊢
 refine Jw tOk fe57.ok rfl ?_
 by_cases c1:v=0
 · rw [decide_eq_true c1] at n1
   rw [if_neg (by omega)]
   repeat' first|refine Jc (hV _) ?_|refine Jc (hR _) ?_|refine Ji ?_|refine Jt ?_|refine Jb ?_ ?_|refine Jo ?_|intro hb
   all_goals rfl
 · rw [decide_eq_false c1] at n1
   rw [if_pos c1]
   repeat' first|refine Jc (hV _) ?_|refine Jc (hR _) ?_|refine Ji ?_|refine Jt ?_|refine Jb ?_ ?_|refine Jo ?_|intro hb
   all_goals rfl
theorem c93 (ht:t.Ok) (hsz:t.size<4611686018427387000):∀ H,CallOk E0 Tryz.prog 93 [.agg t.cells] H (.int .i64 t.msgE) H:=by
 have hV:=c57 ht hsz
 have hR:=c48 ht (by omega)
 have n1:=ZK t.rawV 0
 have n2:=Yv (t.size:Int) 40
 unfold Tm.msgE
 generalize t.rawV=v at hV n1 ⊢
 generalize t.size=w at hR n2 ⊢
 obtain ⟨k,nm,s,b,kz⟩:=t
 simp only [Tm.cells] at hV hR ⊢
 refine Jw tOk fe93.ok rfl ?_
 by_cases c1:v=0
 · rw [decide_eq_true c1] at n1
   rw [if_neg (by omega)]
   by_cases c2:40<w
   · rw [decide_eq_true (by omega)] at n2
     rw [if_pos c2]
     repeat' first|refine Jc (hV _) ?_|refine Jc (hR _) ?_|refine Ji ?_|refine Jt ?_|refine Jb ?_ ?_|refine Jo ?_|intro hb
     all_goals rfl
   · rw [decide_eq_false (by omega)] at n2
     rw [if_neg c2]
     repeat' first|refine Jc (hV _) ?_|refine Jc (hR _) ?_|refine Ji ?_|refine Jt ?_|refine Jb ?_ ?_|refine Jo ?_|intro hb
     all_goals rfl
 · rw [decide_eq_false c1] at n1
   rw [if_pos c1]
   repeat' first|refine Jc (hV _) ?_|refine Jc (hR _) ?_|refine Ji ?_|refine Jt ?_|refine Jb ?_ ?_|refine Jo ?_|intro hb
   all_goals rfl
theorem Zkc (g:Gl):∀ H,CallOk E0 Tryz.prog 124 [.agg g.cells] H (.bool (Zce g.kind)) H:=by
 obtain ⟨k,r,w,b,d,ln⟩:=g
 have z1:=Z6 k 2
 have z2:=Z6 k 3
 simp only [Gl.cells,Zce]
 generalize decide (k=2)=x at z1 ⊢
 generalize decide (k=3)=y at z2 ⊢
 refine Jw tOk fe124.ok rfl ?_
 cases x<;>cases y
 all_goals
  repeat' first|refine Jk ?_|refine Ji ?_|refine Jt ?_|refine Jb ?_ ?_|refine Jo ?_|intro hb
  all_goals rfl
theorem c92 {l:List Zg} (hl:∀ s,s∈l→s.length≤maxLen) (hlen:l.length≤100000) (b:Bool):∀ H,CallOk E0 Tryz.prog 92 [slV b 1 (Zi l)] H (.bool (l.all YG)) H:=by
 have hsl:=ZC l
 refine Jw tOk fe92.ok rfl ?_
 repeat' first|refine Ji ?_|refine JJ ?_|refine Jl ?_|refine Jx ?_|refine Jt ?_|refine Jb ?_ ?_|refine Jo ?_|intro hb
 refine Wp.while (fun m tm H=>∃ (i:Nat) (base:TM),i+m=l.length∧l.all YG=(l.drop i).all YG∧tm=ovr base [(0,slV b 1 (Zi l)),(3,.int .i64 (i:Int))]∧H=⟨[],0,[],0⟩)
  (fun m tm H hI=>?_) l.length _ _ ⟨0,_,by omega,by simp,Zf ⟨rfl,rfl,trivial⟩,rfl⟩
 obtain ⟨i,base,hi,hgo,rfl,rfl⟩:=hI
 rw [hgo]
 have hlx:=Zn (i:Int) ((Zi l).length:Int)
 by_cases hlt:i<l.length
 · obtain ⟨a, ha⟩ : ∃ a, l[i]? = some a := ⟨l[i], by simp⟩
   have hj:=Yf ha
   have hc:=c90 a (hl a (List.mem_of_getElem? ha))
   rw [decide_eq_true (by omega)] at hlx
   have hii:=Zy (a:=(i:Int)) (b:=1) (by omega) (by omega)
   rw [show (i:Int)+1=((i+1:Nat):Int) by omega] at hii
   rw [ZA ha,List.all_cons]
   generalize YG a=B at hc ⊢
   cases B with
   | false =>
     rw [Bool.false_and]
     repeat' first|refine Jc (hc _) ?_|refine Ji ?_|refine JJ ?_|refine Jl ?_|refine Jx ?_|refine Jt ?_|refine Jb ?_ ?_|refine Jo ?_|intro hb
     all_goals rfl
   | true =>
     rw [Bool.true_and]
     repeat' first|refine Jc (hc _) ?_|refine Ji ?_|refine JJ ?_|refine Jl ?_|refine Jx ?_|refine Jt ?_|refine Jb ?_ ?_|refine Jo ?_|intro hb
     exact LoopI.go (m-1) (by omega) ⟨i+1,_,by omega,rfl,Zf ⟨rfl,rfl,trivial⟩,rfl⟩
 · have e : i = l.length := by omega
   subst e
   rw [decide_eq_false (by omega)] at hlx
   rw [List.drop_length]
   repeat' first|refine Ji ?_|refine JJ ?_|refine Jl ?_|refine Jx ?_|refine Jt ?_|refine Jb ?_ ?_|refine Jo ?_|intro hb
   all_goals rfl
theorem ZfG (a b:Zg) (ha:a.length≤maxLen) (hb:b.length≤maxLen):∀ H,CallOk E0 Tryz.prog 92 [.sl .full 1 [[.str a],[.str b]]] H (.bool (YG a&&YG b)) H:=fun H=>by
 have k:=c92 (l:=[a,b]) (fun s hs=>by
  rcases List.mem_cons.1 hs with rfl|hs
  · exact ha
  · rw [List.mem_singleton.1 hs];exact hb) (by simp) true hNil
 rw [show ([a,b].all YG)=(YG a&&YG b) by simp] at k
 exact Z0 k (by
  rw [show Zi [a,b]= [[.str a],[.str b]] from rfl,Zx];rfl) rfl H
theorem c94 {g : Gl} (hr : g.role.length ≤ maxLen) (hw : g.wth.length ≤ maxLen) (hl : g.data.length ≤ maxLen) (hd : ∀ t, t ∈ g.data → t.Ok ∧ t.size < 4611686018427387000) :
  ∀ H,CallOk E0 Tryz.prog 94 [.agg g.cells] H (.int .i64 g.err) H:=by
 have hkl:=VC hl
 have hA:=Zkc g
 obtain ⟨k,r,w,b,d,ln⟩:=g
 simp only [Gl.cells,Gl.err] at hA hr hw hl hd hkl ⊢
 have hR:=c90 r hr
 have hW:=c90 w hw
 have k1:=Zn k 1
 have k2:=Yv k 5
 have ws:=ZaT w []
 have l1:=Zn ((Zb d).length:Int) 1
 have l4:=Yv ((Zb d).length:Int) 4
 have n1:=Yv ((Zb d).length:Int) 1
 have hcl:=Za d
 refine Jw tOk fe94.ok rfl ?_
 by_cases c1:k<1
 · rw [decide_eq_true c1] at k1
   rw [if_pos (.inl c1)]
   repeat' first|refine Jk ?_|refine Ji ?_|refine JJ ?_|refine Jl ?_|refine Jx ?_|refine Jt ?_|refine Jb ?_ ?_|refine Jo ?_|intro hb
   all_goals rfl
 rw [decide_eq_false c1] at k1
 by_cases c2:5<k
 · rw [decide_eq_true c2] at k2
   rw [if_pos (.inr c2)]
   repeat' first|refine Jk ?_|refine Ji ?_|refine JJ ?_|refine Jl ?_|refine Jx ?_|refine Jt ?_|refine Jb ?_ ?_|refine Jo ?_|intro hb
   all_goals rfl
 rw [decide_eq_false c2] at k2
 rw [if_neg (by omega)]
 generalize YG r=R at hR ⊢
 generalize YG w=W at hW ⊢
 generalize Zce k=A at hA ⊢
 cases R with
 | false =>
   rw [if_pos (.inl rfl)]
   repeat' first|refine Jk ?_|refine Jc (hR _) ?_|refine Ji ?_|refine JJ ?_|refine Jl ?_|refine Jx ?_|refine Jt ?_|refine Jb ?_ ?_|refine Jo ?_|intro hb
   all_goals rfl
 |true=>
 have key:∀ (hge:(A=true∧W=false)=False) (h1:¬ (A=false∧w≠ [])),(A=true∧W=true)∨(A=false∧w= []):=by
  intro hge h1
  cases A<;>cases W<;>simp_all
 by_cases c3:A=true∧W=false
 · obtain ⟨rfl, rfl⟩ := c3
   rw [if_pos (by simp)]
   repeat' first|refine Jk ?_|(apply qCl;rfl;rfl;rfl;rfl;first|exact hR _|exact hA _|exact hW _)|refine Ji ?_|refine JJ ?_|refine Jl ?_|refine Jx ?_|refine Jt ?_|refine Jb ?_ ?_|refine Jo ?_|intro hb
   all_goals rfl
 rw [if_neg (by simp only [Bool.true_eq_false,false_or];exact c3)]
 by_cases c4:A=false∧w≠ []
 · obtain ⟨rfl, c4⟩ := c4
   rw [decide_eq_false c4] at ws
   rw [if_pos ⟨rfl,c4⟩]
   repeat' first|refine Jk ?_|(apply qCl;rfl;rfl;rfl;rfl;first|exact hR _|exact hA _|exact hW _)|refine Ji ?_|refine JJ ?_|refine Jl ?_|refine Jx ?_|refine Jt ?_|refine Jb ?_ ?_|refine Jo ?_|intro hb
   all_goals rfl
 rw [if_neg c4]
 by_cases c5:d.length<1
 · rw [decide_eq_true (by omega)] at l1
   rw [if_pos (.inl c5)]
   rcases key (by simp [c3]) c4 with ⟨rfl,rfl⟩|⟨rfl,rfl⟩
   · skip
     repeat' first|refine Jk ?_|(apply qCl;rfl;rfl;rfl;rfl;first|exact hR _|exact hA _|exact hW _)|refine Ji ?_|refine JJ ?_|refine Jl ?_|refine Jx ?_|refine Jt ?_|refine Jb ?_ ?_|refine Jo ?_|intro hb
     all_goals rfl
   · rw [decide_eq_true rfl] at ws
     repeat' first|refine Jk ?_|(apply qCl;rfl;rfl;rfl;rfl;first|exact hR _|exact hA _|exact hW _)|refine Ji ?_|refine JJ ?_|refine Jl ?_|refine Jx ?_|refine Jt ?_|refine Jb ?_ ?_|refine Jo ?_|intro hb
     all_goals rfl
 rw [decide_eq_false (by omega)] at l1
 by_cases c6:4<d.length
 · rw [decide_eq_true (by omega)] at l4
   rw [if_pos (.inr (.inl c6))]
   rcases key (by simp [c3]) c4 with ⟨rfl,rfl⟩|⟨rfl,rfl⟩
   · skip
     repeat' first|refine Jk ?_|(apply qCl;rfl;rfl;rfl;rfl;first|exact hR _|exact hA _|exact hW _)|refine Ji ?_|refine JJ ?_|refine Jl ?_|refine Jx ?_|refine Jt ?_|refine Jb ?_ ?_|refine Jo ?_|intro hb
     all_goals rfl
   · rw [decide_eq_true rfl] at ws
     repeat' first|refine Jk ?_|(apply qCl;rfl;rfl;rfl;rfl;first|exact hR _|exact hA _|exact hW _)|refine Ji ?_|refine JJ ?_|refine Jl ?_|refine Jx ?_|refine Jt ?_|refine Jb ?_ ?_|refine Jo ?_|intro hb
     all_goals rfl
 rw [decide_eq_false (by omega)] at l4
 rcases key (by simp [c3]) c4 with ⟨rfl,rfl⟩|⟨rfl,rfl⟩
 · rw [if_neg (fun h => by
     rcases h with h|h|⟨h,_⟩
     · exact c5 h
     · exact c6 h
     · cases h)]
   repeat' first|refine Jk ?_|(apply qCl;rfl;rfl;rfl;rfl;first|exact hR _|exact hA _|exact hW _)|refine Ji ?_|refine JJ ?_|refine Jl ?_|refine Jx ?_|refine Jt ?_|refine Jb ?_ ?_|refine Jo ?_|intro hb
   refine Wp.while (fun m2 tm H=>∃ (i:Nat) (base:TM),i+m2=d.length∧ZcW d=ZcW (d.drop i)∧tm=ovr base [(1,.ptr 0 5 0 0),(3,.int .i64 (i:Int))]∧H=⟨[.cells 5 [[.int .i64 k,.str r,.str w,slV b 4 (Zb d),.int .i64 ln]]],0,[],0⟩)
    (fun m2 tm H hI=>Wp.drop ?_) d.length _ _ ⟨0,_,by omega,by simp,Zf ⟨rfl,rfl,trivial⟩,rfl⟩
   obtain ⟨i,base,hi,hgo,rfl,rfl⟩:=hI
   rw [hgo]
   have hlx:=Zn (i:Int) ((Zb d).length:Int)
   have hcle:=Za d
   by_cases hlt:i<d.length
   · obtain ⟨t, ht⟩ : ∃ t, d[i]? = some t := ⟨d[i], by simp⟩
     have hR:=c93 (hd t (List.mem_of_getElem? ht)).1 (hd t (List.mem_of_getElem? ht)).2
     rw [decide_eq_true (by omega)] at hlx
     have hii:=Zy (a:=(i:Int)) (b:=1) (by omega) (by omega)
     rw [show (i:Int)+1=((i+1:Nat):Int) by omega] at hii
     rw [WY ht rfl]
     have n1:=ZK (t.msgE) 0
     generalize t.msgE=e at hR n1 ⊢
     obtain ⟨k',nm',s',b',kz'⟩:=t
     have hj:=Zh ht
     simp only [Tm.cells] at hR
     by_cases c1:e=0
     · rw [decide_eq_true c1] at n1
       rw [if_neg (by omega)]
       repeat' first|refine Jk ?_|refine Jc (hR _) ?_|refine Ji ?_|refine JJ ?_|refine Jl ?_|refine Jx ?_|refine Jt ?_|refine Jb ?_ ?_|refine Jo ?_|intro hb
       refine DropQ.go [(1,.ptr 0 5 0 0),(3,.int .i64 ((i+1:Nat):Int))] ⟨rfl,rfl,trivial⟩ ?_ rfl ?_ ?_
       · simp [under]
       · simp [ZO,Zo,Ze,under]
       · exact LoopI.go (m2-1) (by omega) ⟨i+1,_,by omega,rfl,rfl,rfl⟩
     · rw [decide_eq_false c1] at n1
       rw [if_pos c1]
       repeat' first|refine Jk ?_|refine Jc (hR _) ?_|refine Ji ?_|refine JJ ?_|refine Jl ?_|refine Jx ?_|refine Jt ?_|refine Jb ?_ ?_|refine Jo ?_|intro hb
       all_goals rfl
   · have e : i = d.length := by omega
     subst e
     rw [decide_eq_false (by omega)] at hlx
     rw [List.drop_length]
     repeat' first|refine Jk ?_|refine Ji ?_|refine JJ ?_|refine Jl ?_|refine Jx ?_|refine Jt ?_|refine Jb ?_ ?_|refine Jo ?_|intro hb
     all_goals rfl
 · rw [decide_eq_true rfl] at ws
   by_cases c7:1<d.length
   · rw [decide_eq_true (by omega)] at n1
     rw [if_pos (.inr (.inr ⟨rfl,c7⟩))]
     repeat' first|refine Jk ?_|(apply qCl;rfl;rfl;rfl;rfl;first|exact hR _|exact hA _|exact hW _)|refine Ji ?_|refine JJ ?_|refine Jl ?_|refine Jx ?_|refine Jt ?_|refine Jb ?_ ?_|refine Jo ?_|intro hb
     all_goals rfl
   rw [decide_eq_false (by omega)] at n1
   rw [if_neg (fun h=>by rcases h with h|h|⟨_,h⟩<;>omega)]
   repeat' first|refine Jk ?_|(apply qCl;rfl;rfl;rfl;rfl;first|exact hR _|exact hA _|exact hW _)|refine Ji ?_|refine JJ ?_|refine Jl ?_|refine Jx ?_|refine Jt ?_|refine Jb ?_ ?_|refine Jo ?_|intro hb
   refine Wp.while (fun m2 tm H=>∃ (i:Nat) (base:TM),i+m2=d.length∧ZcW d=ZcW (d.drop i)∧tm=ovr base [(1,.ptr 0 5 0 0),(3,.int .i64 (i:Int))]∧H=⟨[.cells 5 [[.int .i64 k,.str r,.str [],slV b 4 (Zb d),.int .i64 ln]]],0,[],0⟩)
    (fun m2 tm H hI=>Wp.drop ?_) d.length _ _ ⟨0,_,by omega,by simp,Zf ⟨rfl,rfl,trivial⟩,rfl⟩
   obtain ⟨i,base,hi,hgo,rfl,rfl⟩:=hI
   rw [hgo]
   have hlx:=Zn (i:Int) ((Zb d).length:Int)
   have hcle:=Za d
   by_cases hlt:i<d.length
   · obtain ⟨t, ht⟩ : ∃ t, d[i]? = some t := ⟨d[i], by simp⟩
     have hR:=c93 (hd t (List.mem_of_getElem? ht)).1 (hd t (List.mem_of_getElem? ht)).2
     rw [decide_eq_true (by omega)] at hlx
     have hii:=Zy (a:=(i:Int)) (b:=1) (by omega) (by omega)
     rw [show (i:Int)+1=((i+1:Nat):Int) by omega] at hii
     rw [WY ht rfl]
     have n1:=ZK (t.msgE) 0
     generalize t.msgE=e at hR n1 ⊢
     obtain ⟨k',nm',s',b',kz'⟩:=t
     have hj:=Zh ht
     simp only [Tm.cells] at hR
     by_cases c1:e=0
     · rw [decide_eq_true c1] at n1
       rw [if_neg (by omega)]
       repeat' first|refine Jk ?_|refine Jc (hR _) ?_|refine Ji ?_|refine JJ ?_|refine Jl ?_|refine Jx ?_|refine Jt ?_|refine Jb ?_ ?_|refine Jo ?_|intro hb
       refine DropQ.go [(1,.ptr 0 5 0 0),(3,.int .i64 ((i+1:Nat):Int))] ⟨rfl,rfl,trivial⟩ ?_ rfl ?_ ?_
       · simp [under]
       · simp [ZO,Zo,Ze,under]
       · exact LoopI.go (m2-1) (by omega) ⟨i+1,_,by omega,rfl,rfl,rfl⟩
     · rw [decide_eq_false c1] at n1
       rw [if_pos c1]
       repeat' first|refine Jk ?_|refine Jc (hR _) ?_|refine Ji ?_|refine JJ ?_|refine Jl ?_|refine Jx ?_|refine Jt ?_|refine Jb ?_ ?_|refine Jo ?_|intro hb
       all_goals rfl
   · have e : i = d.length := by omega
     subst e
     rw [decide_eq_false (by omega)] at hlx
     rw [List.drop_length]
     repeat' first|refine Jk ?_|refine Ji ?_|refine JJ ?_|refine Jl ?_|refine Jx ?_|refine Jt ?_|refine Jb ?_ ?_|refine Jo ?_|intro hb
     all_goals rfl
