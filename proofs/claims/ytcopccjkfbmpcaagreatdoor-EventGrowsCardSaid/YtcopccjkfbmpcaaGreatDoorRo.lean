/-
  EventGrows: the law's function returns true.
-/
import Derived.Test.YtcopccjkfbmpcaaGreatDoorSa
set_option maxHeartbeats 0
set_option maxRecDepth 100000
namespace Go.Vm.Seat
open Go.Proofs
theorem csV (x y:Bool):∀ H,CallOk E0 Tryz.prog 22 [.agg (csC x y)] H (.int .i64 0) H:=
 Ys tOk follows fOk zOk (List.all_eq_true.1 (List.all_eq_true.1 ZwU x (by cases x<;>simp)) y (by cases y<;>simp))
theorem ZwW (y:Bool):∀ H,CallOk E0 Tryz.prog 23 [.agg (csC false y),.str [97]] H (.tup [.agg (csC true y),.int .i64 0]) H:=
 Ys tOk follows fOk zOk (List.all_eq_true.1 ZwS y (by cases y<;>simp))
theorem ZwX (x:Bool):∀ H,CallOk E0 Tryz.prog 23 [.agg (csC x false),.str [98]] H (.tup [.agg (csC x true),.int .i64 0]) H:=
 Ys tOk follows fOk zOk (List.all_eq_true.1 ZwO x (by cases x<;>simp))
theorem csI (x y:Bool):∀ H,CallOk E0 Tryz.prog 24 [.agg (csC x y)] H (.tup [slV true 4 (Za (inT x y)),.int .i64 0]) H:=by
 cases x<;>cases y
 · exact Ys tOk follows fOk zOk ZwT
 · exact Ys tOk follows fOk zOk ZwP
 · exact Ys tOk follows fOk zOk ZwQ
 · exact Ys tOk follows fOk zOk ZwR
theorem ZwV {l:List Mo} (hl:TrF l) (hv:(Zz l).2=0) (hd:∀ m,m∈l→HdA m) (b:Bool):∀ H,CallOk E0 Tryz.prog 8 [.agg (csC false false),slV b 6 (moC l)] H (.tup [slV true 4 (Za (knZ l)),.int .i64 0]) H:=by
 have k1:=csV false false
 have k2:=c16 hl.s b
 rw [hv] at k2
 have hcl:=YH l
 have hR:(Zex [] l).2=0:=by
  rw [Qh] at hv
  unfold QG at hv
  split at hv
  · cases hv
  · exact hv
 clear hv
 obtain ⟨⟨hl1,hl2⟩,hl3,hl4⟩:=hl
 have hsl:=X8 ⟨hl1,hl2⟩
 have hsn:=Nat.le_trans (US hl4) (Nat.mul_le_mul_left 14 hl3)
 have kS:=c26 hl3 hl4 b
 refine ZH (own:=fun d=>Nat.beq d 30010) tOk fe8.ok (by simp only [csC,Zx,Z5];simp only [frzG,XM,ZE]) (Qk _ _ _ _) ?_
 refine Wp.seq ?_
 simp only [csC] at k1 ⊢
 repeat' first|refine Jc (k1 _) ?_|refine Jc (k2 _) ?_|refine Jl ?_|refine Jt ?_|refine Jo ?_|fail
 refine Wp.while (fun m2 tm H=>∃ (i:Nat) (base:TM),i+m2=l.length∧tm=ovr base [(1,slV b 6 (moC l)),(2,.ptr 0 2 0 0),(24,slV b 6 (moC l)),(25,.int .i64 (l.length:Int)),(26,.int .i64 (i:Int))]∧H=⟨[.cells 2 [csC (Zez (l.take i) [97]) (Zez (l.take i) [98])]],0,[],0⟩)
  (fun m2 tm H hI=>Wp.drop ?_) l.length _ _ ⟨0,_,by omega,Zf ⟨rfl,rfl,rfl,Ze (by rw [hcl]),rfl,trivial⟩,rfl⟩
 obtain ⟨i,base,hi,rfl,rfl⟩:=hI
 by_cases hlt:i<l.length
 · obtain ⟨m, hx⟩ : ∃ m, l[i]? = some m := ⟨l[i], by simp⟩
   have hj:=WV hx
   have hda:=hd m (List.mem_of_getElem? hx)
   have hlx:=Zq (i:Int) (l.length:Int)
   rw [decide_eq_true (by omega)] at hlx
   have q6:=Zbd m.kind 6
   have hb:=ZwN hR hx
   have htk:l.take (i+1)=l.take i++ [m]:=by rw [List.take_add_one,hx];rfl
   have hA:Zez (l.take (i+1)) [97]=(Zez (l.take i) [97]||(decide (m.kind=6)&&decide (m.hd= [97]))):=by rw [htk,UV]
   have hB:Zez (l.take (i+1)) [98]=(Zez (l.take i) [98]||(decide (m.kind=6)&&decide (m.hd= [98]))):=by rw [htk,UV]
   rw [ZeP] at hb
   clear kS k1 k2 htk
   by_cases e6:m.kind=6
   · rw [decide_eq_true e6] at q6
     rw [decide_eq_true e6,Bool.true_and] at hA hB
     rw [if_pos e6] at hb
     rcases hda e6 with ha|ha
     · have hhd : m.hd = [97] := by unfold Mo.hd; rw [ha]; rfl
       have hsa:=ZZ (l:=[[97]]) (i:=0) rfl
       rw [hhd] at hb hA hB
       have hx0:Zez (l.take i) [97]=false:=by
        cases e:Zez (l.take i) [97] with
        | false=>rfl
        | true=>rw [e] at hb;simp at hb
       rw [hx0] at hA ⊢
       simp only [decide_true,Bool.false_or] at hA
       rw [decide_eq_false (by decide),Bool.or_false] at hB
       generalize Zez (l.take i) [98]=y at hB ⊢
       have kR:=ZwW y
       have hco:=Zfq true true (Zp [[97],[98]]) (Zp (bdL true y))
       clear hb hda hhd hx0 e6
       obtain ⟨kd,nu,ro,an,ag,go,tn,te⟩:=m
       simp only at ha
       subst ha
       simp only [Mo.cells] at hj q6
       simp only [csC] at kR ⊢
       repeat' first|refine Ji ?_|refine Jx ?_|refine Jt ?_|refine Jo ?_|refine Jd (kR _) ?_|(apply dAl;rfl;rfl;rfl;rfl;exact IsV.ptrM;exact IsH.mkN)|refine JI ?_|refine Jh ?_|(apply dWB tOk follows;rfl;kernel_rfl;rfl;exact IsH.mkN)|fail
       refine DropQ.go [(1,slV b 6 (moC l)),(2,.ptr 0 2 0 0),(24,slV b 6 (moC l)),(25,.int .i64 (l.length:Int)),(26,.int .i64 ((i+1:Nat):Int))] ?_ ?_ rfl ?_ ?_
       · exact ⟨rfl,rfl,rfl,rfl,Ze (Zd (n:=i+1) (by omega)),trivial⟩
       · simp [Zh,under]
       · simp [YJ,ZM,Zh]
       · exact LoopI.go (m2-1) (by omega) ⟨i+1,_,by omega,rfl,by rw [hA,hB];rfl⟩
     · have hhd : m.hd = [98] := by unfold Mo.hd; rw [ha]; rfl
       have hsa:=ZZ (l:=[[98]]) (i:=0) rfl
       rw [hhd] at hb hA hB
       have hx0:Zez (l.take i) [98]=false:=by
        cases e:Zez (l.take i) [98] with
        | false=>rfl
        | true=>rw [e] at hb;simp at hb
       rw [hx0] at hB ⊢
       simp only [decide_true,Bool.false_or] at hB
       rw [decide_eq_false (by decide),Bool.or_false] at hA
       generalize Zez (l.take i) [97]=x at hA ⊢
       have kR:=ZwX x
       have hco:=Zfq true true (Zp [[97],[98]]) (Zp (bdL x true))
       clear hb hda hhd hx0 e6
       obtain ⟨kd,nu,ro,an,ag,go,tn,te⟩:=m
       simp only at ha
       subst ha
       simp only [Mo.cells] at hj q6
       simp only [csC] at kR ⊢
       repeat' first|refine Ji ?_|refine Jx ?_|refine Jt ?_|refine Jo ?_|refine Jd (kR _) ?_|(apply dAl;rfl;rfl;rfl;rfl;exact IsV.ptrM;exact IsH.mkN)|refine JI ?_|refine Jh ?_|(apply dWB tOk follows;rfl;kernel_rfl;rfl;exact IsH.mkN)|fail
       refine DropQ.go [(1,slV b 6 (moC l)),(2,.ptr 0 2 0 0),(24,slV b 6 (moC l)),(25,.int .i64 (l.length:Int)),(26,.int .i64 ((i+1:Nat):Int))] ?_ ?_ rfl ?_ ?_
       · exact ⟨rfl,rfl,rfl,rfl,Ze (Zd (n:=i+1) (by omega)),trivial⟩
       · simp [Zh,under]
       · simp [YJ,ZM,Zh]
       · exact LoopI.go (m2-1) (by omega) ⟨i+1,_,by omega,rfl,by rw [hA,hB];rfl⟩
   · rw [decide_eq_false e6] at q6
     generalize Zez (l.take i) [97]=x at hA ⊢
     generalize Zez (l.take i) [98]=y at hB ⊢
     rw [decide_eq_false e6,Bool.false_and,Bool.or_false] at hA hB
     clear e6 hda hb
     obtain ⟨kd,nu,ro,an,ag,go,tn,te⟩:=m
     simp only [Mo.cells] at hj q6
     simp only [csC]
     repeat' first|refine Ji ?_|refine Jx ?_|refine Jo ?_|fail
     refine DropQ.go [(1,slV b 6 (moC l)),(2,.ptr 0 2 0 0),(24,slV b 6 (moC l)),(25,.int .i64 (l.length:Int)),(26,.int .i64 ((i+1:Nat):Int))] ?_ ?_ rfl ?_ ?_
     · exact ⟨rfl,rfl,rfl,rfl,Ze (Zd (n:=i+1) (by omega)),trivial⟩
     · simp [Zh,under]
     · simp [YJ,ZM,Zh]
     · exact LoopI.go (m2-1) (by omega) ⟨i+1,_,by omega,rfl,by rw [hA,hB];rfl⟩
 · have e : i = l.length := by omega
   subst e
   have hlx:=Zq (l.length:Int) (l.length:Int)
   rw [decide_eq_false (by omega)] at hlx
   rw [List.take_length]
   unfold knZ
   generalize Zez l [97]=x
   generalize Zez l [98]=y
   have kI:=csI x y
   have hLne:=ZwL x y
   have hLl:=ZwG x y
   have hLok:=ZwI x y
   have hnl:slV true 4 (Za (inT x y))= .sl .none 4 (Za (inT x y)):=Zg7 hLne true
   rw [hnl] at kI
   generalize inT x y=L at kI hLne hLl hLok ⊢
   simp only [csC] at kI ⊢
   have kC:=Znd hLne (by omega) ⟨[.cells 2 [[slV true 1 (Zp [[97],[98]]),slV true 1 (Zp (bdL x y))]]],0,[],0⟩
   obtain ⟨id,bx,hap,hbx⟩:=Zta (C:= .cells 2 [[slV true 1 (Zp [[97],[98]]),slV true 1 (Zp (bdL x y))]]) (L:=L) (S:=Yk l) (by omega) (by omega) true
   have hXne:L++Yk l≠ []:=fun h=>hLne (List.append_eq_nil_iff.1 h).1
   have hXok:∀ t,t∈L++Yk l→t.Ok∧t.size≤100000:=fun t ht=>by
    rcases List.mem_append.1 ht with h|h
    · have:=hLok t h;exact ⟨this.1,by have:=this.2;omega⟩
    · have:=hsl t h;exact ⟨this.1,by have:=this.2;omega⟩
   obtain ⟨s1,D,s2⟩:=Zkh (f:=30) c30 hbx hXne hXok (by rw [List.length_append];omega)
   have hMne:=Zau hXne (N:=100000) fun t ht=>(hXok t ht).2
   have hlt2:=ZB hbx
   have hfin:=ZfI (H:=⟨bx.set id (.cells 4 (Za (XW (L++Yk l))++D)),0,[],0⟩) (id:=id) (D:=D) hMne (by rw [Zo];simp [hlt2]) 0
   generalize XW (L++Yk l)=M at s2 hfin hMne ⊢
   generalize L++Yk l=X at hap s1 s2
   generalize Yk l=S at kS hap
   clear hXne hXok hLok hbx hMne hsl hsn k1 k2 hd hR
   repeat' first|(apply qCl;rfl;rfl;rfl;rfl;first|exact kI _|exact kC|exact kS _|exact s1|exact s2)|refine JA ?_|refine Ji ?_|refine Jt ?_|refine Jo ?_|fail
   all_goals exact hfin
end Go.Vm.Seat
namespace Go.Vm
variable {l:List Mo} {N:Nat}
open Go.Vm.Seat
theorem Zfa:∀ (a p b:List Mo),(Zex p (a++b)).2=0→(Zex p a).2=0∧(Zex (p++a) b).2=0
 | [],p,b,h=>⟨rfl,by rw [List.append_nil];exact h⟩
 | m :: r, p, b, h => by
   rw [List.cons_append,Zex] at h
   rw [Zex]
   split at h
   · rename_i h1;exact absurd h h1
   rename_i h1
   split at h
   · rename_i h2;exact absurd h h2
   rename_i h2
   rw [if_neg h1,if_neg h2]
   have:=Zfa r (p++ [m]) b h
   rw [List.append_assoc] at this
   exact this
theorem ZcY (h:(Zz l).2=0):l.length≤400∧(Zex [] l).2=0:=by
 rw [Qh] at h
 unfold QG at h
 split at h
 · cases h
 · exact ⟨by omega,h⟩
theorem ZbA (h:(Zz l).2=0) (n:Nat):(Zz (l.take n)).2=0:=by
 obtain ⟨h1,h2⟩:=ZcY h
 rw [Qh]
 unfold QG
 rw [if_neg (by rw [List.length_take];omega)]
 rw [← List.take_append_drop n l] at h2
 exact (Zfa _ _ _ h2).1
theorem Zqe (b:List Nat) (k n c:Nat):HdA (mkM b k n c):=by
 intro h
 unfold mkM at h ⊢
 split at h
 · exact absurd (show (1:Int)=6 from h) (by omega)
 split at h
 · exact absurd (show (2:Int)=6 from h) (by omega)
 split at h
 · exact absurd (show (3:Int)=6 from h) (by omega)
 split at h
 · exact absurd (show (4:Int)=6 from h) (by omega)
 split at h
 · exact absurd (show (5:Int)=6 from h) (by omega)
 rename_i e1 e2 e3 e4 e5
 rw [if_neg e1,if_neg e2,if_neg e3,if_neg e4,if_neg e5]
 split at h
 · rename_i e6
   rw [if_pos e6]
   show [(if c % 2=0 then [97] else [98])]= [[97]]∨_= [[98]]
   split
   · exact .inl rfl
   · exact .inr rfl
 · exact absurd (show (7:Int)=6 from h) (by omega)
theorem Zkc:∀ (l:List (Bool×List Nat)) (o:List Mo),(∀ m,m∈o→∃ b,m=mkB b)→∀ m,m∈l.foldl (fun o x=>Zew o x.2) o→∃ b,m=mkB b
 | [],o,h=>h
 | x :: r, o, h => by
   rw [List.foldl_cons]
   refine Zkc r _ ?_
   unfold Zew
   split
   · intro m hm
     rcases List.mem_append.1 hm with hm|hm
     · exact h m hm
     · exact ⟨_,List.mem_singleton.1 hm⟩
   · exact h
theorem ZwE {n:Nat} {a:Bs} (h:Zez (l.take n) a=true):Zez l a=true:=by
 unfold Zez at h ⊢
 rw [List.any_eq_true] at h ⊢
 obtain ⟨x,hx,h⟩:=h
 exact ⟨x,List.mem_of_mem_take hx,h⟩
theorem ZwK {x y x' y':Bool} (hx:x=true→x'=true) (hy:y=true→y'=true):∀ t,t∈inT x y→t∈inT x' y':=by
 cases x<;>cases y<;>cases x'<;>cases y'<;>simp [inT] at hx hy ⊢
theorem ZwH (hs:∀ t,t∈Yk l→t.size≤N):(∀ x,InC x (knZ l)↔InC x (inT (Zez l [97]) (Zez l [98])++Yk l))∧∀ x,x∈knZ l→x∈inT (Zez l [97]) (Zez l [98])++Yk l:=by
 have h:=YG (l:=inT (Zez l [97]) (Zez l [98])++Yk l) (fun e=>ZwL _ _ (List.append_eq_nil_iff.1 e).1) (N:=N+3) (fun t ht=>by
  rcases List.mem_append.1 ht with h|h
  · have:=(ZwI _ _ t h).2;omega
  · have:=hs t h;omega)
 exact h.2
theorem ZwJ (hs:∀ t,t∈Yk l→t.size≤N) (n:Nat):∀ y,y∈knZ (l.take n)→InC y (knZ l):=fun y hy=>by
 have sub:∀ t,t∈Yk (l.take n)→t∈Yk l:=fun t ht=>by
  obtain ⟨m,hm,ht⟩:=List.mem_flatMap.1 ht
  exact List.mem_flatMap.2 ⟨m,List.mem_of_mem_take hm,ht⟩
 have h1:=(ZwH (l:=l.take n) (N:=N) fun t ht=>hs t (sub t ht)).2 y hy
 refine ((ZwH hs).1 y).2 ⟨y,?_,Yc.2 rfl⟩
 rcases List.mem_append.1 h1 with h|h
 · exact List.mem_append.2 (.inl (ZwK ZwE ZwE y h))
 · exact List.mem_append.2 (.inr (sub y h))
theorem ZwM (hT:TrF l):SmL (knZ l)∧(knZ l).length≤1000000:=by
 have hs:=X8 hT.s
 refine ⟨fun t ht=>?_,?_⟩
 · rcases List.mem_append.1 ((ZwH fun t ht => (hs t ht).2).2 t ht) with h | h
   · have:=ZwI _ _ t h;exact ⟨this.1,by have:=this.2;omega⟩
   · have:=hs t h;exact ⟨this.1,by have:=this.2;omega⟩
 · have h1 : (knZ l).length ≤ (inT (Zez l [97]) (Zez l [98]) ++ Yk l).length := Zgk _ _
   have h2:=ZwG (Zez l [97]) (Zez l [98])
   have h3:=Nat.le_trans (US hT.t) (Nat.mul_le_mul_left 14 hT.n)
   rw [List.length_append] at h1
   omega
theorem ZlE (ln:Mo→Bs) (l:List Mo) (n:Nat):(txT ln l).take (txT ln (l.take n)).length=txT ln (l.take n):=by
 have:txT ln l=txT ln (l.take n)++txT ln (l.drop n):=by
  unfold txT
  rw [← List.flatMap_append,List.take_append_drop]
 rw [this,List.take_left]
theorem ZnC (ln:Mo→Bs) (l:List Mo) (n:Nat):(txT ln (l.take n)).length≤(txT ln l).length:=by
 have:txT ln l=txT ln (l.take n)++txT ln (l.drop n):=by
  unfold txT
  rw [← List.flatMap_append,List.take_append_drop]
 rw [this,List.length_append];omega
def ixT:List (Bool×List Nat)→Nat→Int
 | [],_=> -1
 |x::r,i=>if 12<x.2.length then (i:Int) else ixT r (i+1)
theorem ZlW {l:List (Bool×List Nat)} {i:Nat} {x:Bool×List Nat} (h:l[i]? = some x):ixT (l.drop i) i=if 12<x.2.length then (i:Int) else ixT (l.drop (i+1)) (i+1):=by
 rw [Zy h];rfl
theorem ZkI:∀ (l:List (Bool×List Nat)) (i:Nat),¬ 0≤ixT l i→∀ x,x∈l→x.2.length≤12
 | [],_,_,x,hx=>by cases hx
 | y :: r, i, h, x, hx => by
   simp only [ixT] at h
   split at h
   · exact absurd (Int.natCast_nonneg i) h
   · rename_i h1
     rcases List.mem_cons.1 hx with rfl|hx
     · omega
     · exact ZkI r (i+1) h x hx
end Go.Vm
namespace Go.Vm.Seat
variable {l:List (Bool×List Nat)} {X Y:List Tm} {bx:List Box}
open Go.Proofs
theorem c13 (x:Bool×List Nat):∀ H,CallOk E0 Tryz.prog 13 [slV x.1 1 (byC x.2)] H (.bool (decide (12<x.2.length))) H:=by
 have q:=Xt ((byC x.2).length:Int) 12
 rw [show decide (12<((byC x.2).length:Int))=decide (12<x.2.length) by rw [Ug,decide_eq_decide];omega] at q
 generalize decide (12<x.2.length)=D at q ⊢
 generalize byC x.2=B at q ⊢
 refine Jw tOk fe13.ok rfl ?_
 repeat' first|refine Ji ?_|refine Jl ?_|refine Jt ?_|refine Jb ?_ ?_|refine Jo ?_|intro hb
 all_goals (subst hb;rfl)
theorem c38 (hl:l.length≤1000000) (b:Bool):∀ H,CallOk E0 Tryz.prog 38 [slV b 1 (dlC l),.fn 13 []] H (.int .i64 (ixT l 0)) H:=by
 have hcl:=Zfh l
 refine Jw tOk fe38.ok rfl ?_
 repeat' first|refine Jl ?_|refine Jo ?_|fail
 refine Wp.while (fun m tm H => ∃ (i : Nat) (base : TM), i + m = l.length ∧ ixT l 0 = ixT (l.drop i) i ∧
   tm=ovr base [(0,slV b 1 (dlC l)),(1,.fn 13 []),(7,.int .i64 (l.length:Int)),(8,.int .i64 (i:Int))]∧H=hNil)
  (fun m tm H hI=>?_) l.length _ _ ⟨0,_,by omega,by rw [List.drop_zero],Zf ⟨rfl,rfl,Ze (by rw [hcl]),rfl,trivial⟩,rfl⟩
 obtain ⟨i,base,hi,hgo,rfl,rfl⟩:=hI
 rw [hgo]
 clear hgo
 have hlx:=Zq (i:Int) (l.length:Int)
 by_cases hlt:i<l.length
 · obtain ⟨x, hx⟩ : ∃ x, l[i]? = some x := ⟨l[i], by simp⟩
   rw [decide_eq_true (by omega)] at hlx
   have hj:=ZhZ hx
   have hc:=c13 x
   rw [ZlW hx]
   by_cases h:12<x.2.length
   · rw [decide_eq_true h] at hc
     rw [if_pos h]
     repeat' first|refine Jc (hc _) ?_|refine Ji ?_|refine Jx ?_|refine Jo ?_|fail
     all_goals rfl
   · rw [decide_eq_false h] at hc
     rw [if_neg h]
     repeat' first|refine Jc (hc _) ?_|refine Ji ?_|refine Jx ?_|refine Jo ?_|fail
     exact LoopI.go (m-1) (by omega) ⟨i+1,_,by omega,rfl,Zf ⟨rfl,rfl,rfl,Ze (Zd (n:=i+1) (by omega)),trivial⟩,rfl⟩
 · have e : i = l.length := by omega
   subst e
   rw [decide_eq_false (by omega)] at hlx
   rw [List.drop_length]
   repeat' first|refine Ji ?_|refine Jo ?_|fail
   all_goals rfl
theorem c12 (hl:l.length≤1000000) (b:Bool):∀ H,CallOk E0 Tryz.prog 12 [slV b 1 (dlC l),.fn 13 []] H (.bool (decide (0≤ixT l 0))) H:=by
 have hc:=c38 hl b
 have q:=Y0 (ixT l 0) 0
 generalize decide (0≤ixT l 0)=D at q ⊢
 generalize ixT l 0=z at hc q
 refine Jw tOk fe12.ok rfl ?_
 repeat' first|refine Jc (hc _) ?_|refine Ji ?_|refine Jt ?_|refine Jb ?_ ?_|refine Jo ?_|intro hb
 all_goals (subst hb;rfl)
theorem ZvV {L:List Box} {j:Nat} (h:nth L j=some (.cells 1 [[slV true 4 (Za X)]])) (lv:List Nat) (nt:Nat):Z4 E0 29 (.ptr j 1 0 0) ⟨L,0,lv,nt⟩=some (slV true 4 (Za X)):=by
 have e:E0.T 29=some ⟨.slice 48,1,24,.nils⟩:=by kernel_rfl
 rw [Zo] at h
 simp [Z4,e,Heap.rd,Zo,h,QL,X1]
theorem Zvo {id : Nat} (hb : nth bx id = some (.cells 1 [[slV true 4 (Za X)]])) (hU : bx.all (YJ bx.length) = true) (hX : SmL X) {t : Tm} (ht : t.Ok ∧ t.size ≤ 100000) (hlen : X.length ≤ 1000000) (hh : Za9 X t = true) :
  CallOk E0 Tryz.prog 18 [.agg t.cells,.ptr id 1 0 0] ⟨bx,0,[],0⟩ (.bool false) ⟨bx,0,[],0⟩:=by
 have hH:=c19 hX ht hlen true
 rw [hh] at hH
 have l1:=ZvV (L:=bx++ [.cells 4 [t.cells]]) (ZeY hb) [] 0
 have l2:=ZrY (L:=bx++ [.cells 4 [t.cells]]) (x:=t) (XX bx _) [] 0
 clear hb hh
 obtain ⟨k,nm,s,b,kz⟩:=t
 simp only [Tm.cells] at hH l1 l2 ⊢
 refine Zbr (own:=fun _=>false) tOk fe18.ok ?_
 refine Wp.seq ?_
 repeat' first|refine Jc (hH _) ?_|(apply qLd;rfl;rfl;rfl;assumption;exact IsV.any _)|refine Jt ?_|refine Jo ?_|fail
 all_goals exact DropF.ret [(3,.bool false)] ⟨rfl,trivial⟩ rfl (by simp) hU (RetE.ret rfl rfl rfl)
theorem ixG {id : Nat} (hb : nth bx id = some (.cells 1 [[slV true 4 (Za X)]])) (hU : bx.all (YJ bx.length) = true) (hX : SmL X) (hlen : X.length ≤ 1000000) (hY : ∀ t, t ∈ Y → (t.Ok ∧ t.size ≤ 100000) ∧ Za9 X t = true) (hYl : Y.length ≤ 1000000) :
  CallOk E0 Tryz.prog 44 [slV true 4 (Za Y),.fn 18 [.ptr id 1 0 0]] ⟨bx,0,[],0⟩ (.int .i64 (-1)) ⟨bx,0,[],0⟩:=by
 have hcl:=Zb Y
 refine Yg (own:=fun _=>false) tOk fe44.ok ?_
 refine Wp.seq ?_
 repeat' first|refine Jl ?_|refine Jo ?_|fail
 refine Wp.while (fun m tm H => ∃ (i : Nat) (base : TM), i + m = Y.length ∧
   tm=ovr base [(0,slV true 4 (Za Y)),(1,.fn 18 [.ptr id 1 0 0]),(7,.int .i64 (Y.length:Int)),(8,.int .i64 (i:Int))]∧H=⟨bx,0,[],0⟩)
  (fun m tm H hI=>?_) Y.length _ _ ⟨0,_,by omega,Zf ⟨rfl,rfl,Ze (by rw [hcl]),rfl,trivial⟩,rfl⟩
 obtain ⟨i,base,hi,rfl,rfl⟩:=hI
 have hlx:=Zq (i:Int) (Y.length:Int)
 by_cases hlt:i<Y.length
 · obtain ⟨x, hx⟩ : ∃ x, Y[i]? = some x := ⟨Y[i], by simp⟩
   rw [decide_eq_true (by omega)] at hlx
   obtain ⟨hxo,hxh⟩:=hY x (List.mem_of_getElem? hx)
   have hc:=Zvo hb hU hX hxo hlen hxh
   obtain ⟨k',nm',s',b',kz'⟩:=x
   have hj:=Zk hx
   simp only [Tm.cells] at hc
   repeat' first|refine Jc hc ?_|refine Ji ?_|refine Jx ?_|refine Jo ?_|fail
   exact LoopI.go (m-1) (by omega) ⟨i+1,_,by omega,Zf ⟨rfl,rfl,rfl,Ze (Zd (n:=i+1) (by omega)),trivial⟩,rfl⟩
 · have e : i = Y.length := by omega
   subst e
   rw [decide_eq_false (by omega)] at hlx
   repeat' first|refine Ji ?_|refine Jo ?_|fail
   all_goals exact RetE.ret rfl rfl rfl
theorem coG {id : Nat} (hb : nth bx id = some (.cells 1 [[slV true 4 (Za X)]])) (hU : bx.all (YJ bx.length) = true) (hX : SmL X) (hlen : X.length ≤ 1000000) (hY : ∀ t, t ∈ Y → (t.Ok ∧ t.size ≤ 100000) ∧ Za9 X t = true) (hYl : Y.length ≤ 1000000) :
  CallOk E0 Tryz.prog 17 [slV true 4 (Za Y),.fn 18 [.ptr id 1 0 0]] ⟨bx,0,[],0⟩ (.bool false) ⟨bx,0,[],0⟩:=by
 have hc:=ixG hb hU hX hlen hY hYl
 have q:=Y0 (-1) 0
 rw [decide_eq_false (by omega)] at q
 refine Yg (own:=fun _=>false) tOk fe17.ok ?_
 refine Wp.seq ?_
 repeat' first|refine Jc hc ?_|refine Ji ?_|refine Jt ?_|refine Jo ?_|fail
 all_goals exact RetE.ret rfl rfl rfl
theorem Zsu {L:List Mo} {n:Nat} (hn:n≤L.length):Yz E0 25 (slV true 6 (moC L)) none (some (.int .i64 (n:Int))) none=some (slV L.isEmpty 6 (moC (L.take n))):=by
 have e1:E0.T 25=some ⟨.slice 35,1,24,.nils⟩:=by kernel_rfl
 have e2:∃ ei,E0.T 35=some ei∧ei.size=6:=⟨_,rfl,rfl⟩
 obtain ⟨ei,e2,e3⟩:=e2
 cases L with
 | nil =>
   obtain rfl:n=0:=by simpa using hn
   have e4:moC ([]:List Mo)= []:=rfl
   simp only [List.take_nil,e4,List.isEmpty_nil,Zg]
   simp [Yz,e1,e2,Za6,X4,nat?]
 | cons m r =>
   have:=ZiS e1 rfl e2 e3 true (L:=moC (m::r)) (by simp [moC]) (k:=n) (by rw [YH];exact hn)
   rw [this,Zgn]
   rfl
theorem Zqt (T S:Bs) (h:S.take T.length=T) (hl:T.length≤S.length):Yz E0 9 (.str S) none (some (.int .i64 (T.length:Int))) none=some (.str T):=by
 have e1:E0.T 9=some ⟨.string,1,16,.str []⟩:=by kernel_rfl
 have en:nat? (.int .i64 (T.length:Int))=some T.length:=by simp [nat?]
 simp only [Yz,e1,X4,en,if_pos hl,h,List.drop_zero]
theorem Zsc (a b:Bs):Xo E0 .neq 9 (.str a) (.str b)=some (.bool (!decide (a=b))):=by
 show some (PV.bool (a != b))=_
 by_cases h:a=b<;>simp [h]
theorem ZpE {y:Tm} (h:InC y X):Za9 X y=true:=by
 obtain ⟨x,hx,h⟩:=h
 unfold Za9
 rw [List.any_eq_true]
 exact ⟨x,hx,decide_eq_true (Yc.2 (Yc.1 h).symm)⟩
theorem Zlx {l:List Mo} (h:TrF l) (n:Nat):TrF (l.take n):=
 ⟨⟨by have:=h.s.1;rw [List.length_take];omega,fun m hm=>h.s.2 m (List.mem_of_mem_take hm)⟩,by have:=h.n;rw [List.length_take];omega,fun m hm=>h.t m (List.mem_of_mem_take hm)⟩
theorem c4 (awakeOk : ∀ H, CallOk E0 Tryz.prog 5 [] H (.bool true) H) {d : List (Bool × List Nat)} (hd : ∀ x, x ∈ d → ∀ y, y ∈ x.2 → y < 256) (b : Bool) {p : Nat} (hp : p < 256) :
  ∀ H,CallOk E0 Tryz.prog 4 [slV b 1 (dlC d),.int .u8 (p:Int)] H (.bool true) H:=by
 have hcl:=Zfh d
 have q1:=Xt ((dlC d).length:Int) 40
 by_cases h1:40<d.length
 · rw [decide_eq_true (by omega)] at q1
   refine ZH (own:=fun d=>[30008].any (Nat.beq d)) tOk fe4.ok (by simp only [Zx,Z5];rfl) rfl ?_
   refine Wp.seq ?_
   repeat' first|refine Jk ?_|refine Jc (awakeOk _) ?_|refine Ji ?_|refine Jl ?_|refine Jt ?_|refine Jo ?_|fail
   all_goals rfl
 rw [decide_eq_false (by omega)] at q1
 have hC:=c12 (l:=d) (by omega) b
 by_cases h2:0≤ixT d 0
 · rw [decide_eq_true h2] at hC
   refine ZH (own:=fun d=>[30008].any (Nat.beq d)) tOk fe4.ok (by simp only [Zx,Z5];rfl) rfl ?_
   refine Wp.seq ?_
   repeat' first|refine Jc (awakeOk _) ?_|refine Jc (hC _) ?_|refine Ji ?_|refine Jl ?_|refine Jt ?_|refine Jo ?_|fail
   all_goals rfl
 rw [decide_eq_false h2] at hC
 have h12:=ZkI d 0 h2
 have kM:=c14 (l:=d) (by omega) (fun x hx=>⟨h12 x hx,hd x hx⟩) b
 obtain ⟨hgd,hv⟩:=ZhT d [] (fun m hm=>by cases hm) rfl
 obtain ⟨hsm,hln⟩:=Zb7 d [] (fun m hm=>by cases hm)
 have hmk:=Zkc d [] (fun m hm=>by cases hm)
 have eM:d.foldl (fun o x=>Zew o x.2) []=Zbg d:=rfl
 rw [eM] at hgd hv hsm hln hmk
 rw [List.length_nil] at hln
 have hL:(Zbg d).length≤40:=by omega
 generalize Zbg d=L at kM hgd hv hsm hmk hL
 have hTr:TrF L:=⟨⟨by omega,hsm⟩,by omega,fun m hm=>(hgd m hm).tl⟩
 have hHd:∀ m,m∈L→HdA m:=fun m hm=>by
  obtain ⟨bb,rfl⟩:=hmk m hm
  exact Zqe _ _ _ _
 obtain ⟨ln,hlne⟩:∃ ln:Mo→Bs,∀ m,m∈L→(ln m).length≤20000∧∀ H,CallOk E0 Tryz.prog 41 [.agg m.cells] H (.str (ln m)) H:=by
  have hex:∀ m:Mo,∃ s:Bs,m∈L→s.length≤20000∧∀ H,CallOk E0 Tryz.prog 41 [.agg m.cells] H (.str s) H:=fun m=>by
   by_cases hm:m∈L
   · obtain ⟨bb, e⟩ := hmk m hm
     obtain ⟨s,hs⟩:=Zlr bb (k:=bb.getD 0 0 % 7) (n:=bb.getD 1 0 % 4) (c:=bb.getD 2 0) (Nat.mod_lt _ (by omega))
     rw [e]
     exact ⟨s,fun _=>hs⟩
   · exact ⟨[],fun h=>absurd h hm⟩
  exact ⟨fun m=>Classical.choose (hex m),fun m hm=>Classical.choose_spec (hex m) hm⟩
 have hmL:=YH L
 obtain ⟨n,hn⟩:∃ n,n=p % ((moC L).length+1):=⟨_,rfl⟩
 have hnl:n≤L.length:=by have:=Nat.mod_lt p (show 0<(moC L).length+1 by omega);omega
 have v1:=Zeq p hp
 have r1:=ZdH (moC L).length 1 (by omega)
 have r2:=Zfw p ((moC L).length+1) (by omega)
 rw [← hn] at r2
 have hTt:=Zlx hTr n
 have hvt:=ZbA hv n
 have lt:(L.take n).length≤40:=by rw [List.length_take];omega
 have k1:=c9 (l:=L) (by omega) true
 have k2:=c9 (l:=L.take n) (by omega) L.isEmpty
 have f1:=ZsC hL hTr.s hv hlne true
 have f2:=ZsC lt hTt.s hvt (ln:=ln) (fun m hm=>hlne m (List.mem_of_mem_take hm)) L.isEmpty
 have f3:=ZsC (l:=[]) (by simp) ⟨by simp,fun m hm=>by cases hm⟩ rfl (ln:=ln) (fun m hm=>by cases hm) true
 have kV:=c16 hTt.s L.isEmpty
 rw [hvt] at kV
 have hsl:=Zsu hnl
 have hss:=Zqt _ _ (ZlE ln L n) (ZnC ln L n)
 have q2:=Xt ((txT ln (L.take n)).length:Int) ((txT ln L).length:Int)
 rw [decide_eq_false (by have:=ZnC ln L n;omega)] at q2
 have hcs:csC false false= [.sl .none 1 [[.str [97]],[.str [98]]],.nils]:=by simp [csC,bdL,Zp,Zm,Zg]
 have hfzA:∀ v,Zx [.agg [.sl .full 1 [[.str [97]],[.str [98]]],.nils],slV v 6 (moC L)]=some [.agg (csC false false),slV v 6 (moC L)]:=fun v=>by
  rw [hcs]
  simp only [Zx,Z5]
  rfl
 have hfzB:∀ v,Zx [.agg [.sl .full 1 [[.str [97]],[.str [98]]],.nils],slV v 6 (moC (L.take n))]=some [.agg (csC false false),slV v 6 (moC (L.take n))]:=fun v=>by
  rw [hcs]
  simp only [Zx,Z5]
  rfl
 have hHdt:∀ m,m∈L.take n→HdA m:=fun m hm=>hHd m (List.mem_of_mem_take hm)
 have k8:=fun H=>Zs (ZwV hTr hv hHd true H) (hfzA true)
 have k9:=fun H=>Zs (ZwV hTt hvt hHdt L.isEmpty H) (hfzB L.isEmpty)
 obtain ⟨hX,hXl⟩:=ZwM hTr
 obtain ⟨hY0,hYl⟩:=ZwM hTt
 have hY:∀ t,t∈knZ (L.take n)→(t.Ok∧t.size≤100000)∧Za9 (knZ L) t=true:=fun t ht=>
  ⟨hY0 t ht,ZpE (ZwJ (N:=90000) (fun t ht=>(X8 hTr.s t ht).2) n t ht)⟩
 clear hY0
 generalize knZ (L.take n)=Y at k9 hY hYl
 generalize knZ L=X at k8 hX hXl hY
 have n1:=Zsc (txT ln (L.take n)) (txT ln (L.take n))
 rw [decide_eq_true rfl,Bool.not_true] at n1
 generalize txT ln (L.take n)=T at f2 hss q2 n1
 generalize txT ln L=S at f1 hss q2
 have e0:txT ln []= []:=rfl
 rw [e0] at f3
 have e1:slV true 6 (moC [])= .nils:=Zg 6
 rw [e1] at f3
 clear hgd hv hsm hmk hTr hHd hlne hTt hvt lt hHdt hfzA hfzB hd h12
 have hco:=fun (bx:List Box) (id:Nat) hb hU=>coG (bx:=bx) (id:=id) hb hU hX hXl hY hYl
 clear hX hXl hY hYl
 have hXs:slV true 4 (Za X)= .nils∨slV true 4 (Za X)= .sl .none 4 (Za X):=by
  by_cases h:X= []
  · subst h;exact .inl (Zg 4)
  · exact .inr (Zg7 h true)
 rcases hXs with e|e
 all_goals
  simp only [e] at k8 hco
  refine ZH (own:=fun d=>[30008].any (Nat.beq d)) tOk fe4.ok (by simp only [Zx,Z5];rfl) rfl ?_
  refine Wp.seq ?_
  repeat' first|(apply qCl;rfl;rfl;rfl;rfl;first|exact awakeOk _|exact hC _|exact kM _|exact k1 _|exact k2 _|exact f1 _|exact f2 _|exact f3 _|exact kV _)|refine Js ?_|refine JS ?_|refine Ji ?_|(apply qCv;rfl;rfl;rfl;assumption;exact IsV.any _)|refine Jl ?_|refine Jt ?_|refine Jo ?_|(apply dCl;rfl;rfl;rfl;rfl;rfl;first|exact k1 _|exact k2 _|exact k8 _|exact k9 _)|(apply dAl;rfl;rfl;rfl;rfl;exact IsV.ptrM;exact IsH.mkN)|(apply dSl;rfl;rfl;rfl;rfl;rfl;rfl;assumption;exact IsV.any _;rfl)|refine Jh ?_|(apply dWS tOk follows;rfl;kernel_rfl;rfl)|(apply dWB tOk follows;rfl;kernel_rfl;rfl;exact IsH.mkN)|fail
  refine qCl rfl rfl rfl rfl (hco _ _ rfl ?_) ?_
  · simp [YJ,ZM,under]
  repeat' first|refine Jt ?_|refine Jo ?_|fail
  all_goals rfl
