/-
  Proofs of inclusion, as the document makes them. Proofs of extension, as the document makes them.
-/
import Derived.Test.YtkaocdljkonfaaaGreatDoorQIc
set_option maxHeartbeats 64000000
set_option maxRecDepth 100000
namespace Go.Vm.Seat
variable {f:FuncId} {args:List PV} {H H':Heap} {r:PV} {l:List Tm}
open Go.Proofs
noncomputable def E8:Env:={E0 with eff:=fun f=>E0.eff f||Nat.beq f 100}
theorem ZmE:TOk E8 Tryz.prog:=⟨fun _ _ h=>U8 h⟩
theorem Zpw (h:CallOk E0 Tryz.prog f args H r H'):CallOk E8 Tryz.prog f args H r H':=h.env rfl
theorem ZrI (h:CallOk E8 Tryz.prog f args H r H'):CallOk E0 Tryz.prog f args H r H':=h.env rfl
def XI:Nat→List Tm→Nat→List Tm
 |0,_,_=>[]
 |f+1,l,i=>if l.length=1 then [] else if i<Zd l.length then XI f (l.take (Zd l.length)) i++ [Zr 33 (l.drop (Zd l.length))] else XI f (l.drop (Zd l.length)) (i-Zd l.length)++ [Zr 33 (l.take (Zd l.length))]
theorem UJ:∀ (f:Nat) (l:List Tm) (i:Nat),(XI f l i).length≤f
 |0,_,_=>by simp [XI]
 | f + 1, l, i => by
   have hz1:=UJ f (l.take (Zd l.length)) i
   have h2:=UJ f (l.drop (Zd l.length)) (i-Zd l.length)
   simp only [XI]
   split
   · simp
   · split<;>simp only [List.length_append,List.length_singleton]<;>omega
theorem ZdF {S:Nat}:∀ (f:Nat) {l:List Tm} (i:Nat),l.length≤12→(∀ t,t∈l→t.Ok∧t.size≤S)→∀ t,t∈XI f l i→t.Ok∧t.size≤12*(S+11)
 |0,l,i,_,_,t,ht=>by simp [XI] at ht
 | f + 1, l, i, hl, h, t, ht => by
   have key:∀ m:List Tm,m.length≤12→(∀ t,t∈m→t.Ok∧t.size≤S)→(Zr 33 m).Ok∧(Zr 33 m).size≤12*(S+11):=fun m hm hh=>by
    obtain ⟨a,b⟩:=Y0 (S:=S) 32 (l:=m) (by omega) hh
    have:=Nat.mul_le_mul_right (S+11) (show max m.length 1≤12 by omega)
    exact ⟨a,by show (Zr (32+1) m).size≤_;omega⟩
   simp only [XI] at ht
   split at ht
   · simp at ht
   · split at ht
     · simp only [List.mem_append, List.mem_singleton] at ht
       rcases ht with ht|rfl
       · exact ZdF f i (by rw [List.length_take];omega) (fun t ht=>h t (List.mem_of_mem_take ht)) t ht
       · exact key _ (by rw [List.length_drop];omega) fun t ht=>h t (List.mem_of_mem_drop ht)
     · simp only [List.mem_append, List.mem_singleton] at ht
       rcases ht with ht|rfl
       · exact ZdF f _ (by rw [List.length_drop];omega) (fun t ht=>h t (List.mem_of_mem_drop ht)) t ht
       · exact key _ (by rw [List.length_take];omega) fun t ht=>h t (List.mem_of_mem_take ht)
theorem ZoK : ∀ (f : Nat) {l : List Tm}, l.length ≤ f → f ≤ 32 → ∀ (b : Bool) {i : Nat}, i < l.length → ∀ (lv : List Nat) (nt : Nat), ∃ out lv' nt', ApV true 4 (Za (XI f l i)) out lv' nt' ∧
  CallOk E8 Tryz.prog 100 [slV b 4 (Za l),.int .i64 (i:Int)] ⟨[],0,lv,nt⟩ out ⟨[],0,lv',nt'⟩
 |0,l,h,_,_,i,hi,_,_=>by omega
 | f + 1, l, h, hf, b, i, hi, lv, nt => by
   have hl:=Zb l
   by_cases hz1:l.length=1
   · have b1 : ZQ E0 .eql 3 (.int .i64 ((Za l).length : Int)) (.int .i64 1) = some (.bool true) := Q5 (by rw [hl]; omega)
     have e:XI (f+1) l i= []:=by simp only [XI,if_pos hz1]
     rw [e]
     refine ⟨.nils,lv,nt,.nil _ _ rfl,?_⟩
     generalize Za l=L at b1 ⊢
     have b1:ZQ E8 .eql 3 (.int .i64 (L.length:Int)) (.int .i64 1)=some (.bool true):=b1
     refine ZV (own:=fun _=>false) ZmE fe100.ok ?_
     refine Wp.seq ?_
     repeat' first|refine Ji ?_|refine Jl ?_|refine Jo ?_|fail
     all_goals exact RetE.ret rfl rfl rfl
   · have hne : l ≠ [] := fun e => by rw [e] at hi; simp at hi
     have hp:=Wg l.length
     have hh:=Vj (n:=l.length) (by omega)
     have b1:ZQ E8 .eql 3 (.int .i64 ((Za l).length:Int)) (.int .i64 1)=some (.bool false):=UA (by rw [hl];omega)
     have hs:∀ H,CallOk E8 Tryz.prog 64 [.int .i64 ((Za l).length:Int)] H (.int .i64 (Zd l.length:Int)) H:=fun H=>by
      rw [hl]
      exact Zpw (c64 (by omega) H)
     have t1:=ZkF b hne (k:=Zd l.length) (by omega)
     have t2:=ZlV b hne (k:=Zd l.length) (by omega)
     have t1:ZW E8 22 (slV b 4 (Za l)) none (some (.int .i64 (Zd l.length:Int))) none=some (.sl .none 4 (Za (l.take (Zd l.length)))):=t1
     have t2:ZW E8 22 (slV b 4 (Za l)) (some (.int .i64 (Zd l.length:Int))) none none=some (.sl .none 4 (Za (l.drop (Zd l.length)))):=t2
     have l1:(l.take (Zd l.length)).length=Zd l.length:=by rw [List.length_take];omega
     have l2:(l.drop (Zd l.length)).length=l.length-Zd l.length:=List.length_drop ..
     by_cases hlt:i<Zd l.length
     · have b2 : ZQ E8 .lss 3 (.int .i64 (i : Int)) (.int .i64 (Zd l.length : Int)) = some (.bool true) := Wa (by omega)
       obtain ⟨o1,lv1,nt1,A1,hr⟩:=ZoK f (l:=l.take (Zd l.length)) (by omega) (by omega) false (i:=i) (by omega) lv nt
       have hO:=c24 32 (l:=l.drop (Zd l.length)) (by omega) (by omega) false
       have e:XI (f+1) l i=XI f (l.take (Zd l.length)) i++ [Zr 33 (l.drop (Zd l.length))]:=by simp only [XI,if_neg hz1,if_pos hlt]
       rw [e]
       have hO:∀ H,CallOk E8 Tryz.prog 24 [.sl .none 4 (Za (l.drop (Zd l.length)))] H (.agg (Zr 33 (l.drop (Zd l.length))).cells) H:=fun H=>by
        have:=Zpw (hO H)
        rw [ZH] at this
        exact this
       rw [ZH] at hr
       have hil:=UJ f (l.take (Zd l.length)) i
       generalize XI f (l.take (Zd l.length)) i=P at A1 hil ⊢
       generalize Zr 33 (l.drop (Zd l.length))=X at hO ⊢
       obtain ⟨o2,lv2,nt2,a2,A2, -⟩:=A1.app (E:=E8) (t:=22) (u:=22) (by_:=56) ⟨_,_,_,_,_,rfl,rfl,rfl,rfl,rfl,rfl,rfl,by decide,rfl⟩ (.sl .full 4 (Za [X])) (Zm _) (ZU (by simp only [Zb,List.length_cons,List.length_nil];omega) (by decide)) (Zv _)
       rw [← Zk] at A2
       refine ⟨o2,lv2,nt2,A2,?_⟩
       clear A1 A2 e
       rw [ZC] at a2
       generalize Za (l.take (Zd l.length))=L1 at t1 hr
       generalize Za (l.drop (Zd l.length))=L2 at t2 hO
       generalize Zd l.length=k at b2 t1 t2 hs
       generalize Za l=L at b1 hs t1 t2 ⊢
       obtain ⟨k1,nm1,s1,tb1,kids1⟩:=X
       simp only [Tm.cells] at hO a2
       refine ZV (own:=(fun d=>[5019,5025].any (Nat.beq d))) ZmE fe100.ok ?_
       refine Wp.seq ?_
       repeat' first|refine Jc (hs _) ?_|refine Ji ?_|refine Jl ?_|refine Jo ?_|refine Jd (hO _) ?_|(apply dCt;rfl;rfl;rfl;rfl;rfl;exact hr)|refine JB ?_|(apply dAq;rfl;rfl;rfl;rfl;rfl;rfl;(first|assumption|solve_by_elim))|(apply dSl;rfl;rfl;rfl;rfl;rfl;rfl;assumption;exact IsV.any _;rfl)|refine Jh ?_|(apply Wp.draw ZmE follows;kernel_rfl)|fail
       all_goals exact RetE.ret rfl rfl rfl
     · have b2 : ZQ E8 .lss 3 (.int .i64 (i : Int)) (.int .i64 (Zd l.length : Int)) = some (.bool false) := Xe (by omega)
       have b3:ZQ E8 .sub 3 (.int .i64 (i:Int)) (.int .i64 (Zd l.length:Int))=some (.int .i64 ((i-Zd l.length:Nat):Int)):=by
        show some (PV.int .i64 (IntKind.i64.wrap ((i:Int)-(Zd l.length:Int))))=_
        rw [IntWalk.i64_in _ (by omega)]
        congr 2
        omega
       obtain ⟨o1,lv1,nt1,A1,hr⟩:=ZoK f (l:=l.drop (Zd l.length)) (by omega) (by omega) false (i:=i-Zd l.length) (by omega) lv nt
       have hO:=c24 32 (l:=l.take (Zd l.length)) (by omega) (by omega) false
       have e:XI (f+1) l i=XI f (l.drop (Zd l.length)) (i-Zd l.length)++ [Zr 33 (l.take (Zd l.length))]:=by simp only [XI,if_neg hz1,if_neg hlt]
       rw [e]
       have hO:∀ H,CallOk E8 Tryz.prog 24 [.sl .none 4 (Za (l.take (Zd l.length)))] H (.agg (Zr 33 (l.take (Zd l.length))).cells) H:=fun H=>by
        have:=Zpw (hO H)
        rw [ZH] at this
        exact this
       rw [ZH] at hr
       have hil:=UJ f (l.drop (Zd l.length)) (i-Zd l.length)
       generalize XI f (l.drop (Zd l.length)) (i-Zd l.length)=P at A1 hil ⊢
       generalize Zr 33 (l.take (Zd l.length))=X at hO ⊢
       obtain ⟨o2,lv2,nt2,a2,A2, -⟩:=A1.app (E:=E8) (t:=22) (u:=22) (by_:=56) ⟨_,_,_,_,_,rfl,rfl,rfl,rfl,rfl,rfl,rfl,by decide,rfl⟩ (.sl .full 4 (Za [X])) (Zm _) (ZU (by simp only [Zb,List.length_cons,List.length_nil];omega) (by decide)) (Zv _)
       rw [← Zk] at A2
       refine ⟨o2,lv2,nt2,A2,?_⟩
       clear A1 A2 e
       rw [ZC] at a2
       generalize Za (l.take (Zd l.length))=L1 at t1 hO
       generalize Za (l.drop (Zd l.length))=L2 at t2 hr
       generalize i-Zd l.length=j at b3 hr
       generalize Zd l.length=k at b2 b3 t1 t2 hs
       generalize Za l=L at b1 hs t1 t2 ⊢
       obtain ⟨k1,nm1,s1,tb1,kids1⟩:=X
       simp only [Tm.cells] at hO a2
       refine ZV (own:=(fun d=>[5032,5038].any (Nat.beq d))) ZmE fe100.ok ?_
       refine Wp.seq ?_
       repeat' first|refine Jc (hs _) ?_|refine Ji ?_|refine Jl ?_|refine Jo ?_|refine Jd (hO _) ?_|(apply dCt;rfl;rfl;rfl;rfl;rfl;exact hr)|refine JB ?_|(apply dAq;rfl;rfl;rfl;rfl;rfl;rfl;(first|assumption|solve_by_elim))|(apply dSl;rfl;rfl;rfl;rfl;rfl;rfl;assumption;exact IsV.any _;rfl)|refine JD ?_|refine Jh ?_|(apply Wp.draw ZmE follows;kernel_rfl)|fail
       all_goals exact RetE.ret rfl rfl rfl
theorem c54 (hl : ∀ t, t ∈ l → t.Ok ∧ t.size ≤ 2000) (hent : ZaA l = 0) {i : Nat} (hi : i < l.length) (hv : (Zr 33 l).valid = 0) (b : Bool) : ∀ H,
  CallOk E0 Tryz.prog 54 [slV b 4 (Za l),.int .i64 (i:Int)] H (.tup [slV true 4 (Za (XI 32 l i)),.int .i64 0]) H:=by
 have c1:=c98 (fun t ht=>⟨(hl t ht).1,by have:=(hl t ht).2;omega⟩) b
 rw [hent] at c1
 have hlen:=Wl hent
 have c2:=c24 32 hlen hlen b
 obtain ⟨hz1,h2⟩:=Y0 (S:=2000) 32 hlen hl
 have h3:=Nat.mul_le_mul_right (2000+11) (show max l.length 1≤32 by omega)
 have c3:=c99 hz1 (by omega)
 have c3:∀ H,CallOk E0 Tryz.prog 99 [.agg (Zr 33 l).cells] H (.int .i64 0) H:=fun H=>by
  have:=c3 H
  rw [if_neg (not_not_intro hv)] at this
  exact this
 obtain ⟨out,lv',nt',hA,hr⟩:=ZoK 32 (l:=l) hlen (by omega) b hi [] 0
 have hln:=Zb l
 have gz1:ZQ E0 .lss 3 (.int .i64 (i:Int)) (.int .i64 0)=some (.bool false):=Xe (by omega)
 have g2:ZQ E0 .geq 3 (.int .i64 (i:Int)) (.int .i64 ((Za l).length:Int))=some (.bool false):=by
  show some (PV.bool (decide (((Za l).length:Int)≤(i:Int))))=_
  rw [decide_eq_false (by omega)]
 have hfin:∀ m H,frz3 m H (.tup [out,.int .i64 0])=some (.tup [slV true 4 (Za (XI 32 l i)),.int .i64 0]):=fun m H=>by
  show (match YL m H [out,.int .i64 0] with|some vs'=>some (PV.tup vs')|none=>none)=_
  simp only [YL,hA.frz2]
  rfl
 clear hz1 h2 h3 hv hA
 generalize Zr 33 l=X at c2 c3
 have hfr:frz3 0 hNil (.tup [slV true 4 (Za (XI 32 l i)),.int .i64 0])=some (.tup [slV true 4 (Za (XI 32 l i)),.int .i64 0]):=by
  rcases XJ true 4 (Za (XI 32 l i)) with h|h<;>rw [h]<;>rfl
 generalize Za (XI 32 l i)=PL at hfin hfr ⊢
 generalize Za l=L at c1 c2 hr g2 ⊢
 obtain ⟨k1,nm1,s1,tb1,kids1⟩:=X
 simp only [Tm.cells] at c2 c3
 have hr0:CallOk E0 Tryz.prog 100 [slV b 4 L,.int .i64 (i:Int)] ⟨[],0,[],0⟩ out ⟨[],0,lv',nt'⟩:=ZrI hr
 refine Jw tOk fe54.ok hfr ?_
 repeat' first|(apply qCl;rfl;rfl;rfl;rfl;first|exact c1 _|exact c2 _|exact c3 _|exact hr0)|refine Ji ?_|refine Jl ?_|refine Jt ?_|refine Jo ?_|fail
 all_goals exact hfin _ _
open Go.Proofs
noncomputable def E3:Env:={E0 with eff:=fun f=>E0.eff f||Nat.beq f 101}
theorem ZlS:TOk E3 Tryz.prog:=⟨fun _ _ h=>U8 h⟩
theorem ZnJ (h:CallOk E0 Tryz.prog f args H r H'):CallOk E3 Tryz.prog f args H r H':=h.env rfl
theorem Zs2 (h:CallOk E3 Tryz.prog f args H r H'):CallOk E0 Tryz.prog f args H r H':=h.env rfl
def Y2:Nat→List Tm→Nat→Bool→List Tm
 |0,_,_,_=>[]
 |f+1,l,n,w=>if n=l.length then (if w=true then [] else [Zr 33 l]) else if n≤Zd l.length then Y2 f (l.take (Zd l.length)) n w++ [Zr 33 (l.drop (Zd l.length))] else Y2 f (l.drop (Zd l.length)) (n-Zd l.length) false++ [Zr 33 (l.take (Zd l.length))]
theorem WW:∀ (f:Nat) (l:List Tm) (n:Nat) (w:Bool),(Y2 f l n w).length≤f
 |0,_,_,_=>by simp [Y2]
 | f + 1, l, n, w => by
   have h1:=WW f (l.take (Zd l.length)) n w
   have h2:=WW f (l.drop (Zd l.length)) (n-Zd l.length) false
   simp only [Y2]
   split
   · split<;>simp
   · split<;>simp only [List.length_append,List.length_singleton]<;>omega
theorem ZdC {S:Nat}:∀ (f:Nat) {l:List Tm} (n:Nat) (w:Bool),l.length≤12→(∀ t,t∈l→t.Ok∧t.size≤S)→∀ t,t∈Y2 f l n w→t.Ok∧t.size≤12*(S+11)
 |0,l,n,w,_,_,t,ht=>by simp [Y2] at ht
 | f + 1, l, n, w, hl, h, t, ht => by
   have key:∀ m:List Tm,m.length≤12→(∀ t,t∈m→t.Ok∧t.size≤S)→(Zr 33 m).Ok∧(Zr 33 m).size≤12*(S+11):=fun m hm hh=>by
    obtain ⟨a,b⟩:=Y0 (S:=S) 32 (l:=m) (by omega) hh
    have:=Nat.mul_le_mul_right (S+11) (show max m.length 1≤12 by omega)
    exact ⟨a,by show (Zr (32+1) m).size≤_;omega⟩
   simp only [Y2] at ht
   split at ht
   · split at ht
     · simp at ht
     · simp only [List.mem_singleton] at ht
       subst ht
       exact key _ hl h
   · split at ht
     · simp only [List.mem_append, List.mem_singleton] at ht
       rcases ht with ht|rfl
       · exact ZdC f n w (by rw [List.length_take];omega) (fun t ht=>h t (List.mem_of_mem_take ht)) t ht
       · exact key _ (by rw [List.length_drop];omega) fun t ht=>h t (List.mem_of_mem_drop ht)
     · simp only [List.mem_append, List.mem_singleton] at ht
       rcases ht with ht|rfl
       · exact ZdC f _ _ (by rw [List.length_drop];omega) (fun t ht=>h t (List.mem_of_mem_drop ht)) t ht
       · exact key _ (by rw [List.length_take];omega) fun t ht=>h t (List.mem_of_mem_take ht)
theorem Zpy : ∀ (f : Nat) {l : List Tm}, l.length ≤ f → f ≤ 32 → ∀ (b : Bool) {n : Nat}, 1 ≤ n → n ≤ l.length → ∀ (w : Bool) (lv : List Nat) (nt : Nat), ∃ q out lv' nt', (q = true ∨ Y2 f l n w ≠ []) ∧ ApV q 4 (Za (Y2 f l n w)) out lv' nt' ∧
  CallOk E3 Tryz.prog 101 [slV b 4 (Za l),.int .i64 (n:Int),.bool w] ⟨[],0,lv,nt⟩ out ⟨[],0,lv',nt'⟩
 |0,l,h,_,_,n,hi,hn,_,_,_=>by omega
 | f + 1, l, h, hf, b, n, hi, hn, w, lv, nt => by
   have hl:=Zb l
   have hne:l≠ []:=fun e=>by rw [e] at hn;simp at hn;omega
   by_cases hz1:n=l.length
   · have b1 : ZQ E0 .eql 3 (.int .i64 (n : Int)) (.int .i64 ((Za l).length : Int)) = some (.bool true) := Q5 (by rw [hl]; omega)
     have b1:ZQ E3 .eql 3 (.int .i64 (n:Int)) (.int .i64 ((Za l).length:Int))=some (.bool true):=b1
     cases w with
     | true =>
       have e:Y2 (f+1) l n true= []:=by simp only [Y2,if_pos hz1,if_true]
       rw [e]
       refine ⟨true,.nils,lv,nt,.inl rfl,.nil _ _ rfl,?_⟩
       clear e
       generalize Za l=L at b1 ⊢
       refine ZV (own:=fun _=>false) ZlS fe101.ok ?_
       refine Wp.seq ?_
       repeat' first|refine Ji ?_|refine Jl ?_|refine Jt ?_|refine Jo ?_|fail
       all_goals exact RetE.ret rfl rfl rfl
     | false =>
       have e:Y2 (f+1) l n false= [Zr 33 l]:=by simp only [Y2,if_pos hz1,Bool.false_eq_true,if_false]
       rw [e]
       refine ⟨false,.sl .full 4 (Za [Zr 33 l]),lv,nt,.inr (by simp),.full _ _ _ rfl (Zv _),?_⟩
       clear e
       rw [ZC]
       have hO:=fun H=>ZnJ (c24 32 (l:=l) (by omega) (by omega) b H)
       have hO:∀ H,CallOk E3 Tryz.prog 24 [slV b 4 (Za l)] H (.agg (Zr 33 l).cells) H:=hO
       generalize Zr 33 l=X at hO ⊢
       generalize Za l=L at b1 hO ⊢
       obtain ⟨k1,nm1,s1,tb1,kids1⟩:=X
       simp only [Tm.cells] at hO ⊢
       refine ZV (own:=fun _=>false) ZlS fe101.ok ?_
       refine Wp.seq ?_
       repeat' first|refine Jc (hO _) ?_|refine Js ?_|refine Ji ?_|refine Jl ?_|refine Jt ?_|refine Jo ?_|fail
       all_goals exact RetE.ret rfl rfl rfl
   · have hp := Wg l.length
     have hh:=Vj (n:=l.length) (by omega)
     have b1:ZQ E0 .eql 3 (.int .i64 (n:Int)) (.int .i64 ((Za l).length:Int))=some (.bool false):=UA (by rw [hl];omega)
     have b1:ZQ E3 .eql 3 (.int .i64 (n:Int)) (.int .i64 ((Za l).length:Int))=some (.bool false):=b1
     have hs:∀ H,CallOk E3 Tryz.prog 64 [.int .i64 ((Za l).length:Int)] H (.int .i64 (Zd l.length:Int)) H:=fun H=>by
      rw [hl]
      exact ZnJ (c64 (by omega) H)
     have t1:=ZkF b hne (k:=Zd l.length) (by omega)
     have t2:=ZlV b hne (k:=Zd l.length) (by omega)
     have t1:ZW E3 22 (slV b 4 (Za l)) none (some (.int .i64 (Zd l.length:Int))) none=some (.sl .none 4 (Za (l.take (Zd l.length)))):=t1
     have t2:ZW E3 22 (slV b 4 (Za l)) (some (.int .i64 (Zd l.length:Int))) none none=some (.sl .none 4 (Za (l.drop (Zd l.length)))):=t2
     have l1:(l.take (Zd l.length)).length=Zd l.length:=by rw [List.length_take];omega
     have l2:(l.drop (Zd l.length)).length=l.length-Zd l.length:=List.length_drop ..
     by_cases hlt:n≤Zd l.length
     · have b2 : ZQ E3 .leq 3 (.int .i64 (n : Int)) (.int .i64 (Zd l.length : Int)) = some (.bool true) := ZmH (by omega)
       obtain ⟨q,o1,lv1,nt1, -,A1,hr⟩:=Zpy f (l:=l.take (Zd l.length)) (by omega) (by omega) false (n:=n) (by omega) (by omega) w lv nt
       have hO:=c24 32 (l:=l.drop (Zd l.length)) (by omega) (by omega) false
       have hO:∀ H,CallOk E3 Tryz.prog 24 [.sl .none 4 (Za (l.drop (Zd l.length)))] H (.agg (Zr 33 (l.drop (Zd l.length))).cells) H:=fun H=>by
        have:=ZnJ (hO H)
        rw [ZH] at this
        exact this
       have e:Y2 (f+1) l n w=Y2 f (l.take (Zd l.length)) n w++ [Zr 33 (l.drop (Zd l.length))]:=by
        simp only [Y2,if_neg hz1,if_pos hlt]
       rw [e]
       rw [ZH] at hr
       have hil:=WW f (l.take (Zd l.length)) n w
       generalize Y2 f (l.take (Zd l.length)) n w=P at A1 hil ⊢
       generalize Zr 33 (l.drop (Zd l.length))=X at hO ⊢
       obtain ⟨o2,lv2,nt2,a2,A2, -⟩:=A1.app (E:=E3) (t:=22) (u:=22) (by_:=56) ⟨_,_,_,_,_,rfl,rfl,rfl,rfl,rfl,rfl,rfl,by decide,rfl⟩ (.sl .full 4 (Za [X])) (Zm _) (ZU (by simp only [Zb,List.length_cons,List.length_nil];omega) (by decide)) (Zv _)
       rw [← Zk] at A2
       refine ⟨q,o2,lv2,nt2,.inr (by simp),A2,?_⟩
       clear A1 A2 e
       rw [ZC] at a2
       generalize Za (l.take (Zd l.length))=L1 at t1 hr
       generalize Za (l.drop (Zd l.length))=L2 at t2 hO
       generalize Zd l.length=k at b2 t1 t2 hs
       generalize Za l=L at b1 hs t1 t2 ⊢
       obtain ⟨k1,nm1,s1,tb1,kids1⟩:=X
       simp only [Tm.cells] at hO a2
       refine ZV (own:=(fun d=>[5027,5033].any (Nat.beq d))) ZlS fe101.ok ?_
       refine Wp.seq ?_
       repeat' first|refine Jc (hs _) ?_|refine Ji ?_|refine Jl ?_|refine Jo ?_|refine Jd (hO _) ?_|(apply dCt;rfl;rfl;rfl;rfl;rfl;exact hr)|refine JB ?_|(apply dAq;rfl;rfl;rfl;rfl;rfl;rfl;(first|assumption|solve_by_elim))|(apply dSl;rfl;rfl;rfl;rfl;rfl;rfl;assumption;exact IsV.any _;rfl)|refine Jh ?_|(apply Wp.draw ZlS follows;kernel_rfl)|fail
       all_goals exact RetE.ret rfl rfl rfl
     · have b2 : ZQ E3 .leq 3 (.int .i64 (n : Int)) (.int .i64 (Zd l.length : Int)) = some (.bool false) := Znd (by omega)
       have b3:ZQ E3 .sub 3 (.int .i64 (n:Int)) (.int .i64 (Zd l.length:Int))=some (.int .i64 ((n-Zd l.length:Nat):Int)):=by
        show some (PV.int .i64 (IntKind.i64.wrap ((n:Int)-(Zd l.length:Int))))=_
        rw [IntWalk.i64_in _ (by omega)]
        congr 2
        omega
       obtain ⟨q,o1,lv1,nt1, -,A1,hr⟩:=Zpy f (l:=l.drop (Zd l.length)) (by omega) (by omega) false (n:=n-Zd l.length) (by omega) (by omega) false lv nt
       have hO:=c24 32 (l:=l.take (Zd l.length)) (by omega) (by omega) false
       have hO:∀ H,CallOk E3 Tryz.prog 24 [.sl .none 4 (Za (l.take (Zd l.length)))] H (.agg (Zr 33 (l.take (Zd l.length))).cells) H:=fun H=>by
        have:=ZnJ (hO H)
        rw [ZH] at this
        exact this
       have e:Y2 (f+1) l n w=Y2 f (l.drop (Zd l.length)) (n-Zd l.length) false++ [Zr 33 (l.take (Zd l.length))]:=by
        simp only [Y2,if_neg hz1,if_neg hlt]
       rw [e]
       rw [ZH] at hr
       have hil:=WW f (l.drop (Zd l.length)) (n-Zd l.length) false
       generalize Y2 f (l.drop (Zd l.length)) (n-Zd l.length) false=P at A1 hil ⊢
       generalize Zr 33 (l.take (Zd l.length))=X at hO ⊢
       obtain ⟨o2,lv2,nt2,a2,A2, -⟩:=A1.app (E:=E3) (t:=22) (u:=22) (by_:=56) ⟨_,_,_,_,_,rfl,rfl,rfl,rfl,rfl,rfl,rfl,by decide,rfl⟩ (.sl .full 4 (Za [X])) (Zm _) (ZU (by simp only [Zb,List.length_cons,List.length_nil];omega) (by decide)) (Zv _)
       rw [← Zk] at A2
       refine ⟨q,o2,lv2,nt2,.inr (by simp),A2,?_⟩
       clear A1 A2 e
       rw [ZC] at a2
       generalize Za (l.take (Zd l.length))=L1 at t1 hO
       generalize Za (l.drop (Zd l.length))=L2 at t2 hr
       generalize n-Zd l.length=j at b3 hr
       generalize Zd l.length=k at b2 b3 t1 t2 hs
       generalize Za l=L at b1 hs t1 t2 ⊢
       obtain ⟨k1,nm1,s1,tb1,kids1⟩:=X
       simp only [Tm.cells] at hO a2
       refine ZV (own:=(fun d=>[5040,5046].any (Nat.beq d))) ZlS fe101.ok ?_
       refine Wp.seq ?_
       repeat' first|refine Jc (hs _) ?_|refine Ji ?_|refine Jl ?_|refine Jo ?_|refine Jd (hO _) ?_|(apply dCt;rfl;rfl;rfl;rfl;rfl;exact hr)|refine JB ?_|(apply dAq;rfl;rfl;rfl;rfl;rfl;rfl;(first|assumption|solve_by_elim))|(apply dSl;rfl;rfl;rfl;rfl;rfl;rfl;assumption;exact IsV.any _;rfl)|refine JD ?_|refine Jh ?_|(apply Wp.draw ZlS follows;kernel_rfl)|fail
       all_goals exact RetE.ret rfl rfl rfl
theorem c55 (hl : ∀ t, t ∈ l → t.Ok ∧ t.size ≤ 2000) (hent : ZaA l = 0) {n : Nat} (h1 : 1 ≤ n) (hn : n ≤ l.length) (hv : (Zr 33 l).valid = 0) (b : Bool) : ∀ H,
  CallOk E0 Tryz.prog 55 [slV b 4 (Za l),.int .i64 (n:Int)] H (.tup [slV true 4 (Za (Y2 32 l n true)),.int .i64 0]) H:=by
 have c1:=c98 (fun t ht=>⟨(hl t ht).1,by have:=(hl t ht).2;omega⟩) b
 rw [hent] at c1
 have hlen:=Wl hent
 have c2:=c24 32 hlen hlen b
 obtain ⟨hz1,h2⟩:=Y0 (S:=2000) 32 hlen hl
 have h3:=Nat.mul_le_mul_right (2000+11) (show max l.length 1≤32 by omega)
 have c3:=c99 hz1 (by omega)
 have c3:∀ H,CallOk E0 Tryz.prog 99 [.agg (Zr 33 l).cells] H (.int .i64 0) H:=fun H=>by
  have:=c3 H
  rw [if_neg (not_not_intro hv)] at this
  exact this
 clear hz1 h2 h3
 obtain ⟨q,out,lv',nt',hq,hA,hr⟩:=Zpy 32 (l:=l) hlen (by omega) b h1 hn true [] 0
 have hln:=Zb l
 have gz1:ZQ E0 .lss 3 (.int .i64 (n:Int)) (.int .i64 1)=some (.bool false):=Xe (by omega)
 have g2:ZQ E0 .gtr 3 (.int .i64 (n:Int)) (.int .i64 ((Za l).length:Int))=some (.bool false):=ZbB (by omega)
 have hq:slV q 4 (Za (Y2 32 l n true))=slV true 4 (Za (Y2 32 l n true)):=by
  rcases hq with rfl|hq
  · rfl
  · cases e : Y2 32 l n true with
    | nil=>exact absurd e hq
    | cons c r =>
      obtain ⟨k1,nm1,s1,tb1,kids1⟩:=c
      simp only [Za,Zw]
 have hfin:∀ m H,frz3 m H (.tup [out,.int .i64 0])=some (.tup [slV true 4 (Za (Y2 32 l n true)),.int .i64 0]):=fun m H=>by
  show (match YL m H [out,.int .i64 0] with|some vs'=>some (PV.tup vs')|none=>none)=_
  simp only [YL,hA.frz2,hq]
  rfl
 clear hv hA hq
 have hfr:frz3 0 hNil (.tup [slV true 4 (Za (Y2 32 l n true)),.int .i64 0])=some (.tup [slV true 4 (Za (Y2 32 l n true)),.int .i64 0]):=by
  rcases XJ true 4 (Za (Y2 32 l n true)) with h|h<;>rw [h]<;>rfl
 generalize Za (Y2 32 l n true)=PL at hfin hfr ⊢
 generalize Zr 33 l=X at c2 c3
 generalize Za l=L at c1 c2 hr g2 ⊢
 obtain ⟨k1,nm1,s1,tb1,kids1⟩:=X
 simp only [Tm.cells] at c2 c3
 have hr0:CallOk E0 Tryz.prog 101 [slV b 4 L,.int .i64 (n:Int),.bool true] ⟨[],0,[],0⟩ out ⟨[],0,lv',nt'⟩:=Zs2 hr
 refine Jw tOk fe55.ok hfr ?_
 repeat' first|(apply qCl;rfl;rfl;rfl;rfl;first|exact c1 _|exact c2 _|exact c3 _|exact hr0)|refine Ji ?_|refine Jl ?_|refine Jt ?_|refine Jo ?_|fail
 all_goals exact hfin _ _
end Go.Vm.Seat
