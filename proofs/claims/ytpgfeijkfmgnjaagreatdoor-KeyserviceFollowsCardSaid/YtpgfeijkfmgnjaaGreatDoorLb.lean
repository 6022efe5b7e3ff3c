/-
  Proofs of extension, as the program makes them.
-/
import Derived.Test.YtpgfeijkfmgnjaaGreatDoorJd
set_option maxHeartbeats 0
set_option maxRecDepth 100000
namespace Go.Vm.Seat
variable {l:List Tm} {f:FuncId} {args:List PV} {H H':Heap} {r:PV}
open Go.Proofs
theorem Zp6 (t:Tm):∀ H,CallOk E0 Tryz.prog 68 [.str WD,.sl .full 4 [t.cells]] H (.agg (Tm.mk 3 WD 0 true [t]).cells) H:=fun H=>by
 have h:=c68 WD t.cells [] H
 have e:(Tm.mk 3 WD 0 true [t]).cells= [.int .i64 3,.str WD,.int .i64 0,.sl .none 4 [t.cells]]:=by simp only [Tm.cells,Za,Zw]
 rw [e]
 exact Y4 h rfl
theorem c66:∀ (f:Nat) {l:List Tm},l.length≤f→l.length≤32→∀ (b:Bool),∀ H,CallOk E0 Tryz.prog 66 [slV b 4 (Za l)] H (.agg (Zr (f+1) l).cells) H
 | f, [], _, _ => by
   intro b
   have hz1:=c69 [110,111,110,101]
   have h2:=Zp6 (Wd [110,111,110,101])
   have e:Zr (f+1) []=Zb8:=rfl
   have e2:Tm.mk 3 WD 0 true [Wd [110,111,110,101]]=Zb8:=rfl
   have hfr:=Zz 0 hNil Zb8
   rw [e2] at h2
   rw [e]
   generalize Zb8=R at h2 hfr ⊢
   generalize Wd [110,111,110,101]=G at hz1 h2
   obtain ⟨k1,nm1,s1,b1,kz1⟩:=R
   obtain ⟨k2,nm2,s2,b2,kz2⟩:=G
   simp only [Tm.cells,Za] at hz1 h2 hfr ⊢
   cases b<;>simp only [Zq,Yd]
   all_goals
    refine Jw tOk fe66.ok hfr ?_
    repeat' first|refine Jc (hz1 _) ?_|refine Jc (h2 _) ?_|refine Js ?_|refine Jt ?_|refine Jo ?_|fail
   all_goals exact Z6 _ _ _ _ _ _ _
 | f, [t], _, _ => by
   intro b
   have hz1:=ZrQ t
   have e:Zr (f+1) [t]=X6 t:=rfl
   have hj:(Za [t])[0]? = some t.cells:=rfl
   have hl:=Zb [t]
   have hfr:=Zz 0 hNil (X6 t)
   have b0:ZP E0 .eql 3 (.int .i64 ((Za [t]).length:Int)) (.int .i64 0)=some (.bool false):=VC (by rw [hl];simp)
   have b1:ZP E0 .eql 3 (.int .i64 ((Za [t]).length:Int)) (.int .i64 1)=some (.bool true):=ZbX (by rw [hl];simp)
   rw [e]
   generalize Za [t]=L at hj hl b0 b1 ⊢
   generalize X6 t=R at hz1 hfr ⊢
   obtain ⟨k1,nm1,s1,tb1,kz1⟩:=R
   obtain ⟨k2,nm2,s2,tb2,kz2⟩:=t
   simp only [Tm.cells] at hz1 hfr hj ⊢
   refine Jw tOk fe66.ok hfr ?_
   repeat' first|refine Jc (hz1 _) ?_|refine Ji ?_|refine Jl ?_|refine Jx ?_|refine Jt ?_|refine Jo ?_|fail
   all_goals exact Z6 _ _ _ _ _ _ _
 |0,a::c::r,hf,_=>by simp at hf
 | f + 1, a :: c :: r, hf, h32 => by
   intro b
   have hne:a::c::r≠ []:=by simp
   have hlen:(a::c::r).length=r.length+2:=rfl
   have hp:=Y8 (r.length+2)
   have hh:=XG (n:=r.length+2) (by omega)
   rw [hlen] at hf h32
   have hs:=c70 h32
   have t1:=Zo3 b hne (k:=Zd (r.length+2)) (by rw [hlen];omega)
   have t2:=Zpm b hne (k:=Zd (r.length+2)) (by rw [hlen];omega)
   have x1:=c66 f (l:=(a::c::r).take (Zd (r.length+2))) (by simp only [List.length_take,List.length_cons];omega) (by simp only [List.length_take,List.length_cons];omega) false
   have x2:=c66 f (l:=(a::c::r).drop (Zd (r.length+2))) (by simp only [List.length_drop,List.length_cons];omega) (by simp only [List.length_drop,List.length_cons];omega) false
   rw [Z1] at x1 x2
   have hN:=Zns (Zr (f+1) ((a::c::r).take (Zd (r.length+2)))) (Zr (f+1) ((a::c::r).drop (Zd (r.length+2))))
   have e:Zr (f+1+1) (a::c::r)=YL (Zr (f+1) ((a::c::r).take (Zd (r.length+2)))) (Zr (f+1) ((a::c::r).drop (Zd (r.length+2)))):=rfl
   rw [e]
   generalize Zr (f+1) ((a::c::r).take (Zd (r.length+2)))=X at x1 hN ⊢
   generalize Zr (f+1) ((a::c::r).drop (Zd (r.length+2)))=Y at x2 hN ⊢
   have hl:=Zb (a::c::r)
   rw [hlen] at hl
   have b0:ZP E0 .eql 3 (.int .i64 ((Za (a::c::r)).length:Int)) (.int .i64 0)=some (.bool false):=VC (by rw [hl];omega)
   have b1:ZP E0 .eql 3 (.int .i64 ((Za (a::c::r)).length:Int)) (.int .i64 1)=some (.bool false):=VC (by rw [hl];omega)
   have hs:∀ H,CallOk E0 Tryz.prog 70 [.int .i64 ((Za (a::c::r)).length:Int)] H (.int .i64 (Zd (r.length+2):Int)) H:=by
    rw [hl]
    exact hs
   have hfr:=Zz 0 hNil (YL X Y)
   generalize Za (a::c::r)=L at t1 t2 hl b0 b1 hs ⊢
   generalize Za ((a::c::r).take (Zd (r.length+2)))=L1 at t1 x1
   generalize Za ((a::c::r).drop (Zd (r.length+2)))=L2 at t2 x2
   generalize YL X Y=R at hN hfr ⊢
   obtain ⟨k1,nm1,s1,tb1,kz1⟩:=R
   obtain ⟨k2,nm2,s2,tb2,kz2⟩:=X
   obtain ⟨k3,nm3,s3,tb3,kz3⟩:=Y
   simp only [Tm.cells] at x1 x2 hN hfr ⊢
   refine Jw tOk fe66.ok hfr ?_
   repeat' first|refine Jc (hs _) ?_|refine Ji ?_|refine Jl ?_|refine Jt ?_|refine Jo ?_|(apply dCl;rfl;rfl;rfl;rfl;rfl;first|exact x1 _|exact x2 _|exact hN _)|(apply dSl;rfl;rfl;rfl;rfl;rfl;rfl;assumption;exact IsV.any _;rfl)|refine Jh ?_|(apply Wp.drawS tOk follows;kernel_rfl;rfl)|fail
   all_goals exact Z6 _ _ _ _ _ _ _
theorem c63 (hl:∀ t,t∈l→t.Ok∧t.size≤90000) (b:Bool):∀ H,CallOk E0 Tryz.prog 63 [slV b 4 (Za l)] H (.int .i64 (ZbD l)) H:=by
 have hln:=Zb l
 refine Jw tOk fe63.ok rfl ?_
 by_cases hlen:32<l.length
 · have hg : ZP E0 .gtr 3 (.int .i64 ((Za l).length : Int)) (.int .i64 32) = some (.bool true) := Ze3 (by omega)
   simp only [ZbD,if_pos hlen]
   repeat' first|refine Ji ?_|refine Jl ?_|refine Jo ?_|fail
   all_goals rfl
 have hg:ZP E0 .gtr 3 (.int .i64 ((Za l).length:Int)) (.int .i64 32)=some (.bool false):=ZdX (by omega)
 simp only [ZbD,if_neg hlen]
 repeat' first|refine Ji ?_|refine Jl ?_|refine Jo ?_|fail
 clear hg
 refine Wp.while (fun k tm H=>∃ (i:Nat) (base:TM),i+k=l.length∧Zlu l=Zlu (l.drop i)∧tm=ovr base [(9,slV b 4 (Za l)),(10,.int .i64 (l.length:Int)),(11,.int .i64 (i:Int))]∧H=⟨[],0,[],0⟩)
  (fun k tm H hI=>Wp.drop ?_) l.length _ _ ⟨0,_,by omega,by simp,Zi ⟨rfl,Zj (by rw [hln]),rfl,trivial⟩,rfl⟩
 obtain ⟨i,base,hi,hI,rfl,rfl⟩:=hI
 by_cases hlt:i<l.length
 · obtain ⟨t', ht'⟩ : ∃ t', l[i]? = some t' := ⟨l[i], by simp⟩
   have m1:=hl t' (List.mem_of_getElem? ht')
   have hc:=c41 m1.1 (by omega)
   rw [Z0 ht'] at hI
   simp only [Zlu] at hI
   have hlx:ZP E0 .lss 3 (.int .i64 (i:Int)) (.int .i64 (l.length:Int))=some (.bool true):=X3 (by omega)
   generalize t'.valid=e at hc hI
   have be:=YF e
   obtain ⟨k',nm',s',b',kz'⟩:=t'
   have hj1:=Zn ht'
   simp only [Tm.cells] at hc
   generalize Za l=L at hj1 ⊢
   by_cases he:e=0
   · rw [decide_eq_false (not_not_intro he)] at be
     rw [if_neg (not_not_intro he)] at hI
     repeat' first|refine Jc (hc _) ?_|refine Ji ?_|refine Jx ?_|refine Jo ?_|fail
     exact DropQ.go [(9,slV b 4 L),(10,.int .i64 (l.length:Int)),(11,.int .i64 ((i+1:Nat):Int))] ⟨rfl,rfl,Zj (Zg (n:=i+1) (by omega)),trivial⟩
      (by simp [Zl,under]) rfl rfl (LoopI.go (k-1) (by omega) ⟨i+1,_,by omega,hI,rfl,rfl⟩)
   · rw [decide_eq_true he] at be
     rw [if_pos he] at hI
     rw [hI]
     repeat' first|refine Jc (hc _) ?_|refine Ji ?_|refine Jx ?_|refine Jo ?_|fail
     all_goals rfl
 · have e : i = l.length := by omega
   subst e
   rw [List.drop_length] at hI
   rw [hI]
   have hlx:ZP E0 .lss 3 (.int .i64 (l.length:Int)) (.int .i64 (l.length:Int))=some (.bool false):=Xo (by omega)
   repeat' first|refine Ji ?_|refine Jo ?_|fail
   all_goals rfl
theorem c64 (hlen:l.length≤32) (hl:∀ t,t∈l→t.Ok∧t.size≤2000) (b:Bool):∀ H,CallOk E0 Tryz.prog 64 [slV b 4 (Za l)] H (.int .i64 (if (Zr 33 l).valid≠0 then 3 else 0)) H:=by
 have c2:=c66 32 hlen hlen b
 obtain ⟨q1,q2⟩:=Xw (S:=2000) 32 hlen hl
 have q3:=Nat.mul_le_mul_right (2000+11) (show max l.length 1≤32 by omega)
 have c3:=c41 q1 (by omega)
 clear q1 q2 q3
 have c2:∀ H,CallOk E0 Tryz.prog 66 [slV b 4 (Za l)] H (.agg (Zr 33 l).cells) H:=c2
 have c3:∀ H,CallOk E0 Tryz.prog 41 [.agg (Zr 33 l).cells] H (.int .i64 (Zr 33 l).valid) H:=c3
 generalize Zr 33 l=X at c2 c3 ⊢
 generalize X.valid=e at c3 ⊢
 have be:=YF e
 obtain ⟨k2,nm2,s2,tb2,kz2⟩:=X
 simp only [Tm.cells] at c2 c3
 by_cases he:e=0
 · rw [decide_eq_false (not_not_intro he)] at be
   rw [if_neg (not_not_intro he)]
   refine Jw tOk fe64.ok rfl ?_
   repeat' first|refine Jc (c2 _) ?_|refine Jc (c3 _) ?_|refine Ji ?_|refine Jo ?_|fail
   all_goals rfl
 · rw [decide_eq_true he] at be
   rw [if_pos he]
   refine Jw tOk fe64.ok rfl ?_
   repeat' first|refine Jc (c2 _) ?_|refine Jc (c3 _) ?_|refine Ji ?_|refine Jo ?_|fail
   all_goals rfl
theorem c26 (hl:∀ t,t∈l→t.Ok∧t.size≤2000) (b:Bool):∀ H,CallOk E0 Tryz.prog 26 [slV b 4 (Za l)] H (.tup [.agg (Zy l).1.cl.cells,.int .i64 (Zy l).2]) H:=by
 have c1:=c63 (fun t ht=>⟨(hl t ht).1,by have:=(hl t ht).2;omega⟩) b
 have be:=YF (ZbD l)
 have hfz:=Yr 0 hNil Tm.zero
 have hzc:Tm.zero.cl=Tm.zero:=rfl
 unfold Zy
 by_cases he:ZbD l=0
 · rw [he] at c1 be
   rw [if_neg (not_not_intro he)]
   have hlen:=VZ he
   have c2:=c66 32 hlen hlen b
   have c3:=c64 hlen hl b
   obtain ⟨q1,q2⟩:=Xw (S:=2000) 32 hlen hl
   have q3:=Nat.mul_le_mul_right (2000+11) (show max l.length 1≤32 by omega)
   have c4:=c65 q1 (by omega)
   have hft:=fun m H=>Yr m H (Zr 33 l).cl 0
   show ∀ H,CallOk E0 Tryz.prog _ _ H (.tup [.agg (if (Zr 33 l).valid≠0 then (Tm.zero,(3:Int)) else (Zr 33 l,0)).1.cl.cells,.int .i64 (if (Zr 33 l).valid≠0 then (Tm.zero,(3:Int)) else (Zr 33 l,0)).2]) H
   clear q1 q2 q3
   have c2:∀ H,CallOk E0 Tryz.prog 66 [slV b 4 (Za l)] H (.agg (Zr 33 l).cells) H:=c2
   have c4:∀ H,CallOk E0 Tryz.prog 65 [.agg (Zr 33 l).cells] H (.agg (Zr 33 l).cl.cells) H:=c4
   generalize Zr 33 l=X at c2 c3 c4 hft ⊢
   generalize X.valid=e at c3 ⊢
   have b2:=YF e
   generalize hXc:X.cl=Y at c4 hft
   obtain ⟨k3,nm3,s3,tb3,kz3⟩:=Y
   by_cases hv:e=0
   · rw [if_neg (not_not_intro hv)] at c3 ⊢
     have b3:=YF 0
     simp only [hXc]
     obtain ⟨k2,nm2,s2,tb2,kz2⟩:=X
     simp only [Tm.cells] at c2 c4 hft ⊢
     refine Jw tOk fe26.ok (hft 0 hNil) ?_
     repeat' first|(apply qCl;rfl;rfl;rfl;rfl;first|exact c1 _|exact c2 _|exact c3 _|exact c4 _)|refine Ji ?_|refine Jo ?_|fail
     all_goals exact hft _ _
   · rw [if_pos hv] at c3 ⊢
     simp only [hzc]
     clear hXc
     refine Jw tOk fe26.ok (hfz _) ?_
     repeat' first|refine Jc (c1 _) ?_|refine Jc (c3 _) ?_|refine Ji ?_|refine Jt ?_|refine Jo ?_|fail
     all_goals (rw [Zk];rfl)
 · rw [decide_eq_true he] at be
   rw [if_pos he]
   generalize ZbD l=e at c1 be ⊢
   have hfr:=hfz e
   simp only [hzc]
   refine Jw tOk fe26.ok hfr ?_
   repeat' first|refine Jc (c1 _) ?_|refine Ji ?_|refine Jo ?_|fail
   all_goals (rw [Zk];rfl)
noncomputable def E4:Env:={E0 with eff:=fun f=>E0.eff f||Nat.beq f 71}
theorem Zny:TOk E4 Tryz.prog:=⟨fun _ _ h=>Zcn h⟩
theorem Zmr (h:CallOk E0 Tryz.prog f args H r H'):CallOk E4 Tryz.prog f args H r H':=h.env rfl
theorem ZsX (h:CallOk E4 Tryz.prog f args H r H'):CallOk E0 Tryz.prog f args H r H':=h.env rfl
theorem c71 : ∀ (f : Nat) {l : List Tm}, l.length ≤ f → f ≤ 32 → (∀ t, t ∈ l → t.Ok ∧ t.size ≤ 2000) → ∀ (b : Bool) {n : Nat}, 1 ≤ n → n ≤ l.length → ∀ (w : Bool) (lv : List Nat) (nt : Nat), ∃ q out lv' nt', (q = true ∨ clL (Wa f l n w) ≠ []) ∧ ApV q 4 (Za (clL (Wa f l n w))) out lv' nt' ∧
  CallOk E4 Tryz.prog 71 [slV b 4 (Za l),.int .i64 (n:Int),.bool w] ⟨[],0,lv,nt⟩ out ⟨[],0,lv',nt'⟩
 |0,l,h,_,_,_,n,hi,hn,_,_,_=>by omega
 | f + 1, l, h, hf, hsz, b, n, hi, hn, w, lv, nt => by
   have hl:=Zb l
   have hne:l≠ []:=fun e=>by rw [e] at hn;simp at hn;omega
   by_cases hz1:n=l.length
   · have b1 : ZP E0 .eql 3 (.int .i64 (n : Int)) (.int .i64 ((Za l).length : Int)) = some (.bool true) := ZbX (by rw [hl]; omega)
     have b1:ZP E4 .eql 3 (.int .i64 (n:Int)) (.int .i64 ((Za l).length:Int))=some (.bool true):=b1
     cases w with
     | true =>
       have e:clL (Wa (f+1) l n true)= []:=by simp only [Wa,if_pos hz1,if_true];rfl
       rw [e]
       refine ⟨true,.nils,lv,nt,.inl rfl,.nil _ _ rfl,?_⟩
       clear e
       generalize Za l=L at b1 ⊢
       refine Ye (own:=fun _=>false) Zny fe71.ok ?_
       refine Wp.seq ?_
       repeat' first|refine Ji ?_|refine Jl ?_|refine Jt ?_|refine Jo ?_|fail
       all_goals exact RetE.ret rfl rfl rfl
     | false =>
       have e:clL (Wa (f+1) l n false)= [(Zr 33 l).cl]:=by simp only [Wa,if_pos hz1,Bool.false_eq_true,if_false];rfl
       rw [e]
       refine ⟨false,.sl .full 4 (Za [(Zr 33 l).cl]),lv,nt,.inr (by simp),.full _ _ _ rfl (ZC _),?_⟩
       clear e
       rw [ZQ]
       have hO:=fun H=>Zmr (c66 32 (l:=l) (by omega) (by omega) b H)
       have hO:∀ H,CallOk E4 Tryz.prog 66 [slV b 4 (Za l)] H (.agg (Zr 33 l).cells) H:=hO
       obtain ⟨ok1,ok2⟩:=Xw (S:=2000) 32 (l:=l) (by omega) hsz
       have ok3:=Nat.mul_le_mul_right (2000+11) (show max l.length 1≤32 by omega)
       have hP:=fun H=>Zmr (c65 ok1 (by show (Zr (32+1) l).size≤_;omega) H)
       have hP:∀ H,CallOk E4 Tryz.prog 65 [.agg (Zr 33 l).cells] H (.agg (Zr 33 l).cl.cells) H:=hP
       clear ok1 ok2 ok3
       generalize (Zr 33 l).cl=X at hP ⊢
       generalize Zr 33 l=Y at hO hP
       obtain ⟨k2,nm2,s2,tb2,kz2⟩:=Y
       generalize Za l=L at b1 hO ⊢
       obtain ⟨k1,nm1,s1,tb1,kz1⟩:=X
       simp only [Tm.cells] at hO hP ⊢
       refine Ye (own:=fun _=>false) Zny fe71.ok ?_
       refine Wp.seq ?_
       repeat' first|refine Jc (hO _) ?_|refine Jc (hP _) ?_|refine Js ?_|refine Ji ?_|refine Jl ?_|refine Jt ?_|refine Jo ?_|fail
       all_goals exact RetE.ret rfl rfl rfl
   · have hp := Y8 l.length
     have hh:=XG (n:=l.length) (by omega)
     have b1:ZP E0 .eql 3 (.int .i64 (n:Int)) (.int .i64 ((Za l).length:Int))=some (.bool false):=VC (by rw [hl];omega)
     have b1:ZP E4 .eql 3 (.int .i64 (n:Int)) (.int .i64 ((Za l).length:Int))=some (.bool false):=b1
     have hs:∀ H,CallOk E4 Tryz.prog 70 [.int .i64 ((Za l).length:Int)] H (.int .i64 (Zd l.length:Int)) H:=fun H=>by
      rw [hl]
      exact Zmr (c70 (by omega) H)
     have t1:=Zo3 b hne (k:=Zd l.length) (by omega)
     have t2:=Zpm b hne (k:=Zd l.length) (by omega)
     have t1:ZW E4 24 (slV b 4 (Za l)) none (some (.int .i64 (Zd l.length:Int))) none=some (.sl .none 4 (Za (l.take (Zd l.length)))):=t1
     have t2:ZW E4 24 (slV b 4 (Za l)) (some (.int .i64 (Zd l.length:Int))) none none=some (.sl .none 4 (Za (l.drop (Zd l.length)))):=t2
     have l1:(l.take (Zd l.length)).length=Zd l.length:=by rw [List.length_take];omega
     have l2:(l.drop (Zd l.length)).length=l.length-Zd l.length:=List.length_drop ..
     by_cases hlt:n≤Zd l.length
     · have b2 : ZP E4 .leq 3 (.int .i64 (n : Int)) (.int .i64 (Zd l.length : Int)) = some (.bool true) := ZoO (by omega)
       obtain ⟨q,o1,lv1,nt1, -,A1,hr⟩:=c71 f (l:=l.take (Zd l.length)) (by omega) (by omega) (fun t ht=>hsz t (List.mem_of_mem_take ht)) false (n:=n) (by omega) (by omega) w lv nt
       have hO:=c66 32 (l:=l.drop (Zd l.length)) (by omega) (by omega) false
       have hO:∀ H,CallOk E4 Tryz.prog 66 [.sl .none 4 (Za (l.drop (Zd l.length)))] H (.agg (Zr 33 (l.drop (Zd l.length))).cells) H:=fun H=>by
        have:=Zmr (hO H)
        rw [Z1] at this
        exact this
       obtain ⟨ok1,ok2⟩:=Xw (S:=2000) 32 (l:=l.drop (Zd l.length)) (by omega) fun t ht=>hsz t (List.mem_of_mem_drop ht)
       have ok3:=Nat.mul_le_mul_right (2000+11) (show max (l.drop (Zd l.length)).length 1≤32 by omega)
       have hP:=fun H=>Zmr (c65 ok1 (by show (Zr (32+1) (l.drop (Zd l.length))).size≤_;omega) H)
       have hP:∀ H,CallOk E4 Tryz.prog 65 [.agg (Zr 33 (l.drop (Zd l.length))).cells] H (.agg (Zr 33 (l.drop (Zd l.length))).cl.cells) H:=hP
       have e:clL (Wa (f+1) l n w)=clL (Wa f (l.take (Zd l.length)) n w)++ [(Zr 33 (l.drop (Zd l.length))).cl]:=by
        simp only [Wa,if_neg hz1,if_pos hlt]
        rw [XE,XE,List.map_append];rfl
       rw [e]
       rw [Z1] at hr
       have hil:=VT f (l.take (Zd l.length)) n w
       have hil:(clL (Wa f (l.take (Zd l.length)) n w)).length≤f:=by rw [We];exact hil
       generalize clL (Wa f (l.take (Zd l.length)) n w)=P at A1 hil ⊢
       clear ok1 ok2 ok3
       generalize (Zr 33 (l.drop (Zd l.length))).cl=X at hP ⊢
       generalize Zr 33 (l.drop (Zd l.length))=Y at hO hP
       obtain ⟨o2,lv2,nt2,a2,A2, -⟩:=A1.app (E:=E4) (t:=24) (u:=24) (by_:=56) ⟨_,_,_,_,_,rfl,rfl,rfl,rfl,rfl,rfl,rfl,by decide,rfl⟩ (.sl .full 4 (Za [X])) (Zs _) (ZZ (by simp only [Zb,List.length_cons,List.length_nil];omega) (by decide)) (ZC _)
       rw [← Zo] at A2
       refine ⟨q,o2,lv2,nt2,.inr (by simp),A2,?_⟩
       clear A1 A2 e
       rw [ZQ] at a2
       generalize Za (l.take (Zd l.length))=L1 at t1 hr
       generalize Za (l.drop (Zd l.length))=L2 at t2 hO
       generalize Zd l.length=k at b2 t1 t2 hs
       generalize Za l=L at b1 hs t1 t2 ⊢
       obtain ⟨k1,nm1,s1,tb1,kz1⟩:=X
       obtain ⟨k2,nm2,s2,tb2,kz2⟩:=Y
       simp only [Tm.cells] at hO a2 hP
       refine Ye (own:=(fun d=>[5028,5035].any (Nat.beq d))) Zny fe71.ok ?_
       refine Wp.seq ?_
       repeat' first|refine Jc (hs _) ?_|refine Ji ?_|refine Jl ?_|refine Jo ?_|refine Jd (hO _) ?_|refine Jd (hP _) ?_|(apply dCt;rfl;rfl;rfl;rfl;rfl;exact hr)|refine JB ?_|(apply dAq;rfl;rfl;rfl;rfl;rfl;rfl;(first|assumption|solve_by_elim))|(apply dSl;rfl;rfl;rfl;rfl;rfl;rfl;assumption;exact IsV.any _;rfl)|refine Jh ?_|(apply Wp.draw Zny follows;kernel_rfl)|fail
       all_goals exact RetE.ret rfl rfl rfl
     · have b2 : ZP E4 .leq 3 (.int .i64 (n : Int)) (.int .i64 (Zd l.length : Int)) = some (.bool false) := Zog (by omega)
       have b3:ZP E4 .sub 3 (.int .i64 (n:Int)) (.int .i64 (Zd l.length:Int))=some (.int .i64 ((n-Zd l.length:Nat):Int)):=by
        show some (PV.int .i64 (IntKind.i64.wrap ((n:Int)-(Zd l.length:Int))))=_
        rw [IntWalk.i64_in _ (by omega)]
        congr 2
        omega
       obtain ⟨q,o1,lv1,nt1, -,A1,hr⟩:=c71 f (l:=l.drop (Zd l.length)) (by omega) (by omega) (fun t ht=>hsz t (List.mem_of_mem_drop ht)) false (n:=n-Zd l.length) (by omega) (by omega) false lv nt
       have hO:=c66 32 (l:=l.take (Zd l.length)) (by omega) (by omega) false
       have hO:∀ H,CallOk E4 Tryz.prog 66 [.sl .none 4 (Za (l.take (Zd l.length)))] H (.agg (Zr 33 (l.take (Zd l.length))).cells) H:=fun H=>by
        have:=Zmr (hO H)
        rw [Z1] at this
        exact this
       obtain ⟨ok1,ok2⟩:=Xw (S:=2000) 32 (l:=l.take (Zd l.length)) (by omega) fun t ht=>hsz t (List.mem_of_mem_take ht)
       have ok3:=Nat.mul_le_mul_right (2000+11) (show max (l.take (Zd l.length)).length 1≤32 by omega)
       have hP:=fun H=>Zmr (c65 ok1 (by show (Zr (32+1) (l.take (Zd l.length))).size≤_;omega) H)
       have hP:∀ H,CallOk E4 Tryz.prog 65 [.agg (Zr 33 (l.take (Zd l.length))).cells] H (.agg (Zr 33 (l.take (Zd l.length))).cl.cells) H:=hP
       have e:clL (Wa (f+1) l n w)=clL (Wa f (l.drop (Zd l.length)) (n-Zd l.length) false)++ [(Zr 33 (l.take (Zd l.length))).cl]:=by
        simp only [Wa,if_neg hz1,if_neg hlt]
        rw [XE,XE,List.map_append];rfl
       rw [e]
       rw [Z1] at hr
       have hil:=VT f (l.drop (Zd l.length)) (n-Zd l.length) false
       have hil:(clL (Wa f (l.drop (Zd l.length)) (n-Zd l.length) false)).length≤f:=by rw [We];exact hil
       generalize clL (Wa f (l.drop (Zd l.length)) (n-Zd l.length) false)=P at A1 hil ⊢
       clear ok1 ok2 ok3
       generalize (Zr 33 (l.take (Zd l.length))).cl=X at hP ⊢
       generalize Zr 33 (l.take (Zd l.length))=Y at hO hP
       obtain ⟨o2,lv2,nt2,a2,A2, -⟩:=A1.app (E:=E4) (t:=24) (u:=24) (by_:=56) ⟨_,_,_,_,_,rfl,rfl,rfl,rfl,rfl,rfl,rfl,by decide,rfl⟩ (.sl .full 4 (Za [X])) (Zs _) (ZZ (by simp only [Zb,List.length_cons,List.length_nil];omega) (by decide)) (ZC _)
       rw [← Zo] at A2
       refine ⟨q,o2,lv2,nt2,.inr (by simp),A2,?_⟩
       clear A1 A2 e
       rw [ZQ] at a2
       generalize Za (l.take (Zd l.length))=L1 at t1 hO
       generalize Za (l.drop (Zd l.length))=L2 at t2 hr
       generalize n-Zd l.length=j at b3 hr
       generalize Zd l.length=k at b2 b3 t1 t2 hs
       generalize Za l=L at b1 hs t1 t2 ⊢
       obtain ⟨k1,nm1,s1,tb1,kz1⟩:=X
       obtain ⟨k2,nm2,s2,tb2,kz2⟩:=Y
       simp only [Tm.cells] at hO a2 hP
       refine Ye (own:=(fun d=>[5042,5049].any (Nat.beq d))) Zny fe71.ok ?_
       refine Wp.seq ?_
       repeat' first|refine Jc (hs _) ?_|refine Ji ?_|refine Jl ?_|refine Jo ?_|refine Jd (hO _) ?_|refine Jd (hP _) ?_|(apply dCt;rfl;rfl;rfl;rfl;rfl;exact hr)|refine JB ?_|(apply dAq;rfl;rfl;rfl;rfl;rfl;rfl;(first|assumption|solve_by_elim))|(apply dSl;rfl;rfl;rfl;rfl;rfl;rfl;assumption;exact IsV.any _;rfl)|refine JD ?_|refine Jh ?_|(apply Wp.draw Zny follows;kernel_rfl)|fail
       all_goals exact RetE.ret rfl rfl rfl
theorem c29 (hl : ∀ t, t ∈ l → t.Ok ∧ t.size ≤ 2000) (hent : ZbD l = 0) {n : Nat} (h1 : 1 ≤ n) (hn : n ≤ l.length) (hv : (Zr 33 l).valid = 0) (b : Bool) : ∀ H,
  CallOk E0 Tryz.prog 29 [slV b 4 (Za l),.int .i64 (n:Int)] H (.tup [slV true 4 (Za (clL (Wa 32 l n true))),.int .i64 0]) H:=by
 have c1:=c63 (fun t ht=>⟨(hl t ht).1,by have:=(hl t ht).2;omega⟩) b
 rw [hent] at c1
 have hlen:=VZ hent
 have c2:=c64 hlen hl b
 rw [if_neg (not_not_intro hv)] at c2
 obtain ⟨q,out,lv',nt',hq,hA,hr⟩:=c71 32 (l:=l) hlen (by omega) hl b h1 hn true [] 0
 have hln:=Zb l
 have gz1:ZP E0 .lss 3 (.int .i64 (n:Int)) (.int .i64 1)=some (.bool false):=Xo (by omega)
 have g2:ZP E0 .gtr 3 (.int .i64 (n:Int)) (.int .i64 ((Za l).length:Int))=some (.bool false):=ZdX (by omega)
 have hq:slV q 4 (Za (clL (Wa 32 l n true)))=slV true 4 (Za (clL (Wa 32 l n true))):=by
  rcases hq with rfl|hq
  · rfl
  · cases e : clL (Wa 32 l n true) with
    | nil=>exact absurd e hq
    | cons c r =>
      obtain ⟨k1,nm1,s1,tb1,kz1⟩:=c
      simp only [Za,Zw]
 have hfin:∀ m H,frz3 m H (.tup [out,.int .i64 0])=some (.tup [slV true 4 (Za (clL (Wa 32 l n true))),.int .i64 0]):=fun m H=>by
  show (match YR m H [out,.int .i64 0] with|some vs'=>some (PV.tup vs')|none=>none)=_
  simp only [YR,hA.frz2,hq]
  rfl
 clear hv hA hq
 have hfr:frz3 0 hNil (.tup [slV true 4 (Za (clL (Wa 32 l n true))),.int .i64 0])=some (.tup [slV true 4 (Za (clL (Wa 32 l n true))),.int .i64 0]):=by
  rcases Un true 4 (Za (clL (Wa 32 l n true))) with h|h<;>rw [h]<;>rfl
 generalize Za (clL (Wa 32 l n true))=PL at hfin hfr ⊢
 generalize Za l=L at c1 c2 hr g2 ⊢
 have hr0:CallOk E0 Tryz.prog 71 [slV b 4 L,.int .i64 (n:Int),.bool true] ⟨[],0,[],0⟩ out ⟨[],0,lv',nt'⟩:=ZsX hr
 refine Jw tOk fe29.ok hfr ?_
 repeat' first|(apply qCl;rfl;rfl;rfl;rfl;first|exact c1 _|exact c2 _|exact hr0)|refine Ji ?_|refine Jl ?_|refine Jt ?_|refine Jo ?_|fail
 all_goals exact hfin _ _
