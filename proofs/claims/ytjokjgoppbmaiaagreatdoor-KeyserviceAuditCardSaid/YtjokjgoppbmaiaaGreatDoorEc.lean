/-
  The heads of a log, as the document builds them. The key of a name in a log: the program's text and the reference's say the same. The key of a name in a log, by the reference.
-/
import Derived.Test.YtjokjgoppbmaiaaGreatDoorGj
import Derived.Test.YtjokjgoppbmaiaaGreatDoorEg
set_option maxHeartbeats 64000000
set_option maxRecDepth 100000
namespace Go.Vm.Seat
open Go.Proofs
theorem takeC (l:List Tm) (k:Nat):(cellsL l).take k=cellsL (l.take k):=by
 induction l generalizing k with
 | nil=>simp [cellsL]
 | cons a r ih =>
   cases k with
   | zero=>simp [cellsL]
   | succ k=>simp only [cellsL,List.take_succ_cons,ih]
theorem dropC (l:List Tm) (k:Nat):(cellsL l).drop k=cellsL (l.drop k):=by
 induction l generalizing k with
 | nil=>simp [cellsL]
 | cons a r ih =>
   cases k with
   | zero=>simp [cellsL]
   | succ k=>simp only [cellsL,List.drop_succ_cons,ih]
theorem slT (b:Bool) {l:List Tm} (h:l≠ []):slV b 4 (cellsL l)= .sl .none 4 (cellsL l):=by
 cases l with
 | nil=>exact absurd rfl h
 | cons a r=>simp only [cellsL,slV_cons]
theorem nat_i (k:Nat):nat? (.int .i64 (k:Int))=some k:=by
 simp [nat?]
theorem preT (b:Bool) {l:List Tm} (h:l≠ []) {k:Nat} (hk:k≤l.length):aSlice E0 22 (slV b 4 (cellsL l)) none (some (.int .i64 (k:Int))) none=some (.sl .none 4 (cellsL (l.take k))):=by
 have e:E0.T 22=some ⟨.slice 24,1,24,.nils⟩:=by kernel_rfl
 have et:E0.T 24=some ⟨.struct [(0,3),(1,9),(2,3),(3,22)],4,56,.agg [.int .i64 0,.str [],.int .i64 0,.nils]⟩:=by kernel_rfl
 rw [slT b h, ← takeC]
 simp only [aSlice,e,et,if_true,maxOf,bound,nat_i]
 rw [if_pos (by simp [cellsL_length];omega)]
 simp [cutTail]
theorem sufT (b:Bool) {l:List Tm} (h:l≠ []) {k:Nat} (hk:k≤l.length):aSlice E0 22 (slV b 4 (cellsL l)) (some (.int .i64 (k:Int))) none none=some (.sl .none 4 (cellsL (l.drop k))):=by
 have e:E0.T 22=some ⟨.slice 24,1,24,.nils⟩:=by kernel_rfl
 have et:E0.T 24=some ⟨.struct [(0,3),(1,9),(2,3),(3,22)],4,56,.agg [.int .i64 0,.str [],.int .i64 0,.nils]⟩:=by kernel_rfl
 rw [slT b h, ← dropC]
 simp only [aSlice,e,et,if_true,maxOf,bound,nat_i]
 rw [if_pos (by simp [cellsL_length];omega)]
 simp [cutTail]
def entL:List Tm→Int
 | []=>0
 | t :: r=>if t.valid≠0 then t.valid else entL r
def entF (l:List Tm):Int:=if 32 < l.length then 3 else entL l
theorem c152 {l:List Tm} (hl:∀ t,t∈l→t.Ok∧t.size≤1000000) (b:Bool):∀ H,CallOk E0 Tryz.prog 152 [slV b 4 (cellsL l)] H (.int .i64 (entF l)) H:=by
 have h1:=cellsL_length l
 refine κw tOk fe152.ok rfl ?_
 by_cases hlen:32 < l.length
 · have hg : aBin E0 .gtr 3 (.int .i64 ((cellsL l).length : Int)) (.int .i64 32) = some (.bool true) := gtr_t (by omega)
   simp only [entF,if_pos hlen]
   repeat' first | refine κn ?_ | refine κi ?_ | refine κl ?_ | refine κg ?_ | refine κa ?_ | refine κf ?_ | fail
   all_goals rfl
 have hg:aBin E0 .gtr 3 (.int .i64 ((cellsL l).length:Int)) (.int .i64 32)=some (.bool false):=gtr_f (by omega)
 simp only [entF,if_neg hlen]
 repeat' first | refine κn ?_ | refine κi ?_ | refine κl ?_ | refine κg ?_ | refine κa ?_ | fail
 clear hg
 refine Wp.while (fun k tm H=>∃ (i:Nat) (base:TM),i+k=l.length∧entL l=entL (l.drop i)∧tm=ovr base [(0,slV b 4 (cellsL l)),(3,.int .i64 (i:Int))]∧H=⟨[],0,[],0⟩)
  (fun k tm H hI=> ?_) l.length _ _ ⟨0,_,by omega,by simp,ovr_mk ⟨rfl,rfl,trivial⟩,rfl⟩
 obtain ⟨i,base,hi,hI,rfl,rfl⟩:=hI
 by_cases hlt:i < l.length
 · obtain ⟨t', ht'⟩ : ∃ t', l[i]? = some t' := ⟨l[i], by simp⟩
   have m1:=hl t' (List.mem_of_getElem? ht')
   have hc:=c50 m1.1 (by omega)
   rw [drop_cons ht'] at hI
   simp only [entL] at hI
   have hlx:aBin E0 .lss 3 (.int .i64 (i:Int)) (.int .i64 ((cellsL l).length:Int))=some (.bool true):=lss_t (by omega)
   generalize t'.valid=e at hc hI
   have be:=err_eq e
   obtain ⟨k',nm',s',b',kids'⟩:=t'
   have hj1:=cellsL_get ht'
   simp only [Tm.cells] at hc
   by_cases he:e=0
   · rw [decide_eq_false (not_not_intro he)] at be
     rw [if_neg (not_not_intro he)] at hI
     repeat' first | refine κn ?_ | refine κc (hc _) ?_ | refine κi ?_ | refine κl ?_ | refine κx ?_ | refine κg ?_ | refine κa ?_ | fail
     exact LoopI.go (k - 1) (by omega) ⟨i+1,_,by omega,hI,ovr_mk ⟨rfl,int_eq (wrap_nat (n:=i+1) (by omega)),trivial⟩,rfl⟩
   · rw [decide_eq_true he] at be
     rw [if_pos he] at hI
     rw [hI]
     repeat' first | refine κn ?_ | refine κc (hc _) ?_ | refine κi ?_ | refine κl ?_ | refine κx ?_ | refine κg ?_ | refine κa ?_ | refine κf ?_ | fail
     all_goals rfl
 · have e : i = l.length := by omega
   subst e
   rw [List.drop_length] at hI
   rw [hI]
   have hlx:aBin E0 .lss 3 (.int .i64 (l.length:Int)) (.int .i64 ((cellsL l).length:Int))=some (.bool false):=lss_f (by omega)
   repeat' first | refine κn ?_ | refine κi ?_ | refine κl ?_ | refine κg ?_ | refine κa ?_ | refine κf ?_ | fail
   all_goals rfl
def noneT:Tm:= .mk 3 hashN 0 true [tagT [110,111,110,101]]
def headT:Nat→List Tm→Tm
 | 0,_=> .zero
 | f + 1, l => match l with
   | []=>noneT
   | [t]=>leafT t
   | a :: b :: r=>nodeT (headT f ((a :: b :: r).take (halfN (r.length+2)))) (headT f ((a :: b :: r).drop (halfN (r.length+2))))
theorem head_ok {S:Nat}:∀ (f:Nat) {l:List Tm},l.length≤f→(∀ t,t∈l→t.Ok∧t.size≤S)→(headT (f+1) l).Ok∧(headT (f+1) l).size+8≤(max l.length 1) * (S+11)
 | f,[],_,_=>⟨ok1 (by decide) (okTag (by decide)),by show 2+8≤_;simp⟩
 | f, [t], _, hl => by
   obtain ⟨h1,h2⟩:=hl t (by simp)
   refine ⟨ok_leafT h1,?_⟩
   show (leafT t).size+8≤_
   rw [sz_leafT]
   simp
   omega
 | 0,a :: b :: r,hf,_=>by simp at hf
 | f + 1, a :: b :: r, hf, hl => by
   have hp:=half_pos (r.length+2)
   have hh:=half_lt (n:=r.length+2) (by omega)
   have e1:((a :: b :: r).take (halfN (r.length+2))).length=halfN (r.length+2):=by simp only [List.length_take,List.length_cons];omega
   have e2:((a :: b :: r).drop (halfN (r.length+2))).length=r.length+2 - halfN (r.length+2):=by simp only [List.length_drop,List.length_cons]
   simp only [List.length_cons] at hf
   obtain ⟨x1,x2⟩:=head_ok (S:=S) f (l:=(a :: b :: r).take (halfN (r.length+2))) (by omega) fun t ht=>hl t (List.mem_of_mem_take ht)
   obtain ⟨y1,y2⟩:=head_ok (S:=S) f (l:=(a :: b :: r).drop (halfN (r.length+2))) (by omega) fun t ht=>hl t (List.mem_of_mem_drop ht)
   refine ⟨ok_nodeT x1 y1,?_⟩
   show (nodeT _ _).size+8≤_
   rw [sz_nodeT]
   rw [e1,Nat.max_eq_left hp] at x2
   rw [e2,Nat.max_eq_left (by omega)] at y2
   have e3:halfN (r.length+2) * (S+11)+(r.length+2 - halfN (r.length+2)) * (S+11)=(max (a :: b :: r).length 1) * (S+11):=by
    rw [← Nat.add_mul,Nat.max_eq_left (by simp)]
    congr 1
    simp only [List.length_cons]
    omega
   omega
theorem rappO (nm:Bs) (x:Tm):∀ H,CallOk E0 Tryz.prog 41 [.str nm,.sl .full 4 [x.cells]] H (.agg (Tm.mk 3 nm 0 true [x]).cells) H:=rapp1 nm x
theorem c154:∀ (f:Nat) {l:List Tm},l.length≤f→l.length≤32→∀ (b:Bool),∀ H,CallOk E0 Tryz.prog 154 [slV b 4 (cellsL l)] H (.agg (headT (f+1) l).cells) H
 | f, [], _, _ => by
   intro b
   have h1:=c181 [110,111,110,101]
   have h2:=rappO hashN (tagT [110,111,110,101])
   have e:headT (f+1) []=noneT:=rfl
   have e2:Tm.mk 3 hashN 0 true [tagT [110,111,110,101]]=noneT:=rfl
   have hfr:=frz3_cells 0 hNil noneT
   rw [e2] at h2
   rw [e]
   generalize noneT=R at h2 hfr ⊢
   generalize tagT [110,111,110,101]=G at h1 h2
   obtain ⟨k1,nm1,s1,b1,kids1⟩:=R
   obtain ⟨k2,nm2,s2,b2,kids2⟩:=G
   simp only [Tm.cells,cellsL] at h1 h2 hfr ⊢
   cases b <;> simp only [slV_nil_true,slV_nil_false]
   all_goals
    refine κw tOk fe154.ok hfr ?_
    repeat' first | refine κn ?_ | refine κc (h1 _) ?_ | refine κc (h2 _) ?_ | refine κs ?_ | refine κt ?_ | refine κg ?_ | refine κa ?_ | refine κf ?_ | fail
   all_goals exact frz3_tm _ _ _ _ _ _ _
 | f, [t], _, _ => by
   intro b
   have h1:=c215 t
   have e:headT (f+1) [t]=leafT t:=rfl
   have hj:(cellsL [t])[0]? = some t.cells:=rfl
   have hl:=cellsL_length [t]
   have hfr:=frz3_cells 0 hNil (leafT t)
   have b0:aBin E0 .eql 3 (.int .i64 ((cellsL [t]).length:Int)) (.int .i64 0)=some (.bool false):=eql0_f (by rw [hl];simp)
   have b1:aBin E0 .eql 3 (.int .i64 ((cellsL [t]).length:Int)) (.int .i64 1)=some (.bool true):=eql0_t (by rw [hl];simp)
   rw [e]
   generalize cellsL [t]=L at hj hl b0 b1 ⊢
   generalize leafT t=R at h1 hfr ⊢
   obtain ⟨k1,nm1,s1,tb1,kids1⟩:=R
   obtain ⟨k2,nm2,s2,tb2,kids2⟩:=t
   simp only [Tm.cells] at h1 hfr hj ⊢
   refine κw tOk fe154.ok hfr ?_
   repeat' first | refine κn ?_ | refine κc (h1 _) ?_ | refine κi ?_ | refine κl ?_ | refine κx ?_ | refine κg ?_ | refine κa ?_ | refine κf ?_ | fail
   all_goals exact frz3_tm _ _ _ _ _ _ _
 | 0,a :: c :: r,hf,_=>by simp at hf
 | f + 1, a :: c :: r, hf, h32 => by
   intro b
   have hne:a :: c :: r≠ []:=by simp
   have hlen:(a :: c :: r).length=r.length+2:=rfl
   have hp:=half_pos (r.length+2)
   have hh:=half_lt (n:=r.length+2) (by omega)
   rw [hlen] at hf h32
   have hs:=c216 h32
   have t1:=preT b hne (k:=halfN (r.length+2)) (by rw [hlen];omega)
   have t2:=sufT b hne (k:=halfN (r.length+2)) (by rw [hlen];omega)
   have x1:=c154 f (l:=(a :: c :: r).take (halfN (r.length+2))) (by simp only [List.length_take,List.length_cons];omega) (by simp only [List.length_take,List.length_cons];omega) false
   have x2:=c154 f (l:=(a :: c :: r).drop (halfN (r.length+2))) (by simp only [List.length_drop,List.length_cons];omega) (by simp only [List.length_drop,List.length_cons];omega) false
   rw [slV_false] at x1 x2
   have hN:=c217 (headT (f+1) ((a :: c :: r).take (halfN (r.length+2)))) (headT (f+1) ((a :: c :: r).drop (halfN (r.length+2))))
   have e:headT (f+1+1) (a :: c :: r)=nodeT (headT (f+1) ((a :: c :: r).take (halfN (r.length+2)))) (headT (f+1) ((a :: c :: r).drop (halfN (r.length+2)))):=rfl
   rw [e]
   generalize headT (f+1) ((a :: c :: r).take (halfN (r.length+2)))=X at x1 hN ⊢
   generalize headT (f+1) ((a :: c :: r).drop (halfN (r.length+2)))=Y at x2 hN ⊢
   have hl:=cellsL_length (a :: c :: r)
   rw [hlen] at hl
   have b0:aBin E0 .eql 3 (.int .i64 ((cellsL (a :: c :: r)).length:Int)) (.int .i64 0)=some (.bool false):=eql0_f (by rw [hl];omega)
   have b1:aBin E0 .eql 3 (.int .i64 ((cellsL (a :: c :: r)).length:Int)) (.int .i64 1)=some (.bool false):=eql0_f (by rw [hl];omega)
   have hs:∀ H,CallOk E0 Tryz.prog 216 [.int .i64 ((cellsL (a :: c :: r)).length:Int)] H (.int .i64 (halfN (r.length+2):Int)) H:=by
    rw [hl]
    exact hs
   have hfr:=frz3_cells 0 hNil (nodeT X Y)
   generalize cellsL (a :: c :: r)=L at t1 t2 hl b0 b1 hs ⊢
   generalize cellsL ((a :: c :: r).take (halfN (r.length+2)))=L1 at t1 x1
   generalize cellsL ((a :: c :: r).drop (halfN (r.length+2)))=L2 at t2 x2
   generalize nodeT X Y=R at hN hfr ⊢
   obtain ⟨k1,nm1,s1,tb1,kids1⟩:=R
   obtain ⟨k2,nm2,s2,tb2,kids2⟩:=X
   obtain ⟨k3,nm3,s3,tb3,kids3⟩:=Y
   simp only [Tm.cells] at x1 x2 hN hfr ⊢
   refine κw tOk fe154.ok hfr ?_
   repeat' first | refine κn ?_ | refine κc (hs _) ?_ | refine κi ?_ | refine κl ?_ | refine κg ?_ | (apply dCl;rfl;rfl;rfl;rfl;rfl;first | exact x1 _ | exact x2 _ | exact hN _) | (apply dSl;rfl;rfl;rfl;rfl;rfl;rfl;assumption;exact IsV.any _;rfl) | refine κh ?_ | refine κa ?_ | (apply Wp.drawS tOk follows;kernel_rfl;rfl) | refine κf ?_ | fail
   all_goals exact frz3_tm _ _ _ _ _ _ _
def refHead (l:List Tm):Tm×Int:=if entF l≠0 then (.zero,entF l) else if (headT 33 l).valid≠0 then (.zero,3) else (headT 33 l,0)
theorem entF_len {l:List Tm} (h:entF l=0):l.length≤32:=by
 unfold entF at h
 split at h
 · cases h
 · omega
theorem refHead_ok {l:List Tm} {S:Nat} (hl:∀ t,t∈l→t.Ok∧t.size≤S):(refHead l).1.Ok∧(refHead l).1.size≤32 * (S+11):=by
 have hz:Tm.zero.Ok∧Tm.zero.size≤32 * (S+11):=⟨Tm.ok_zero,by simp [Tm.zero,Tm.size,sizeL];omega⟩
 unfold refHead
 split; · exact hz
 split; · exact hz
 rename_i h _
 have h:=entF_len (Classical.not_not.1 h)
 obtain ⟨a,b⟩:=head_ok (S:=S) 32 h hl
 refine ⟨a,?_⟩
 have:=Nat.mul_le_mul_right (S+11) (show max l.length 1≤32 by omega)
 have b:(headT 33 l).size+8≤max l.length 1 * (S+11):=b
 show (headT 33 l).size≤_
 omega
theorem c151 {l:List Tm} (hl:∀ t,t∈l→t.Ok∧t.size≤2000) (b:Bool):∀ H,CallOk E0 Tryz.prog 151 [slV b 4 (cellsL l)] H (.tup [.agg (refHead l).1.cells,.int .i64 (refHead l).2]) H:=by
 have c1:=c152 (fun t ht=>⟨(hl t ht).1,by have:=(hl t ht).2;omega⟩) b
 have be:=err_eq (entF l)
 have hfz:=frz3_te 0 hNil Tm.zero
 unfold refHead
 by_cases he:entF l=0
 · rw [he] at c1 be
   rw [if_neg (not_not_intro he)]
   have hlen:=entF_len he
   have c2:=c154 32 hlen hlen b
   obtain ⟨h1,h2⟩:=head_ok (S:=2000) 32 hlen hl
   have h3:=Nat.mul_le_mul_right (2000+11) (show max l.length 1≤32 by omega)
   have c3:=c153 h1 (by omega)
   have hft:=fun m H=>frz3_te m H (headT 33 l) 0
   have hfr:=frz3_te 0 hNil (headT 33 l) 0
   show ∀ H,CallOk E0 Tryz.prog _ _ H (.tup [.agg (if (headT 33 l).valid≠0 then (Tm.zero,(3:Int)) else (headT 33 l,0)).1.cells,.int .i64 (if (headT 33 l).valid≠0 then (Tm.zero,(3:Int)) else (headT 33 l,0)).2]) H
   clear h1 h2 h3
   generalize headT 33 l=X at c2 c3 hft hfr ⊢
   generalize X.valid=e at c3 ⊢
   obtain ⟨k2,nm2,s2,tb2,kids2⟩:=X
   simp only [Tm.cells] at c2 c3 hft hfr ⊢
   by_cases hv:e=0
   · rw [if_neg (not_not_intro hv)] at c3 ⊢
     refine κw tOk fe151.ok hfr ?_
     repeat' first | refine κn ?_ | (apply qCl;rfl;rfl;rfl;rfl;first | exact c1 _ | exact c2 _ | exact c3 _) | refine κi ?_ | refine κg ?_ | refine κa ?_ | refine κf ?_ | fail
     all_goals exact hft _ _
   · rw [if_pos hv] at c3 ⊢
     refine κw tOk fe151.ok (hfz _) ?_
     repeat' first | refine κn ?_ | (apply qCl;rfl;rfl;rfl;rfl;first | exact c1 _ | exact c2 _ | exact c3 _) | refine κi ?_ | refine κt ?_ | refine κg ?_ | refine κa ?_ | refine κf ?_ | fail
     all_goals (rw [zero_cells];rfl)
 · rw [decide_eq_true he] at be
   rw [if_pos he]
   generalize entF l=e at c1 be ⊢
   have hfr:=hfz e
   refine κw tOk fe151.ok hfr ?_
   repeat' first | refine κn ?_ | refine κc (c1 _) ?_ | refine κi ?_ | refine κg ?_ | refine κa ?_ | refine κf ?_ | fail
   all_goals (rw [zero_cells];rfl)
end Go.Vm.Seat
namespace Go.Vm.Seat
open Go.Proofs
end Go.Vm.Seat
namespace Go.Vm.Seat
open Go.Proofs
def lookF (name:Bs):List Tm→Tm×Nat×Bool
 | []=>(.zero,0,false)
 | t :: r=>if (readP t).2=0∧(readP t).1.sub=name then ((readP t).1.key,r.length,decide ((readP t).1.till≠0)) else lookF name r
theorem lookF_end {name:Bs} {l:List Tm} {j:Nat} {t:Tm} (h:l[j]? = some t):lookF name (l.take (j+1)).reverse=if (readP t).2=0∧(readP t).1.sub=name then ((readP t).1.key,j,decide ((readP t).1.till≠0)) else lookF name (l.take j).reverse:=by
 have e:l.take (j+1)=l.take j ++ [t]:=by
  rw [List.take_add_one,h]
  rfl
 have hj:j < l.length:=(List.getElem?_eq_some_iff.1 h).1
 rw [e,List.reverse_append,List.reverse_singleton,List.singleton_append]
 simp only [lookF,List.length_reverse,List.length_take]
 rw [Nat.min_eq_left (by omega)]
theorem frz3_tib (m:Nat) (H:Heap) (t:Tm) (e:Int) (b:Bool):frz3 m H (.tup [.agg t.cells,.int .i64 e,.bool b])=some (.tup [.agg t.cells,.int .i64 e,.bool b]):=by
 have h:frz2 m H (.agg t.cells)=some (.agg t.cells):=frz3_cells m H t
 show (match frz2L m H [.agg t.cells,.int .i64 e,.bool b] with | some vs'=>some (PV.tup vs') | none=>none)=_
 simp only [frz2L,h]
 rfl
theorem c74 {l:List Tm} (hok:∀ t,t∈l→t.Ok) (hs:∀ t,t∈l→t.size≤900) (hll:l.length≤40) {name:Bs} (b:Bool):∀ H,CallOk E0 Tryz.prog 74 [slV b 4 (cellsL l),.str name] H (.tup [.agg (lookF name l.reverse).1.cells,.int .i64 ((lookF name l.reverse).2.1:Int),.bool (lookF name l.reverse).2.2]) H:=by
 have hfr:=frz3_tib 0 hNil (lookF name l.reverse).1 (lookF name l.reverse).2.1 (lookF name l.reverse).2.2
 refine callOk_wp (own:=(fun d=>[29999,40272,40296].any (Nat.beq d))) tOk fe74.ok (by simp only [frzGL,frzG_slV];rfl) hfr ?_
 clear hfr
 refine Wp.seq ?_
 have b1:aBin E0 .sub 3 (.int .i64 ((cellsL l).length:Int)) (.int .i64 1)=some (.int .i64 ((l.length:Int) - 1)):=by
  show some (PV.int .i64 (IntKind.i64.wrap (((cellsL l).length:Int) - 1)))=_
  rw [cellsL_length,show IntKind.i64.wrap ((l.length:Int) - 1)=(l.length:Int) - 1 from IntWalk.i64_in _ (by omega)]
 repeat' first | refine κn ?_ | refine κi ?_ | refine κl ?_ | refine κt ?_ | refine κg ?_ | refine κa ?_ | fail
 clear b1
 refine Wp.while (fun m tm H=>∃ base:TM,m≤l.length∧lookF name l.reverse=lookF name (l.take m).reverse∧tm=ovr base [(0,slV b 4 (cellsL l)),(1,.str name),(4,.ptr 0 4 0 0),(7,.int .i64 ((m:Int) - 1))]∧H=⟨[.cells 4 [[.int .i64 0,.str [],.int .i64 0,.nils]]],0,[],0⟩)
  (fun m tm H hI=>Wp.drop ?_) l.length _ _ ⟨_,Nat.le_refl _,by rw [List.take_length],ovr_mk ⟨rfl,rfl,rfl,rfl,trivial⟩,rfl⟩
 obtain ⟨base,hm,hgo,rfl,rfl⟩:=hI
 cases m with
 | zero =>
   have b1:aBin E0 .geq 3 (.int .i64 (((0:Nat):Int) - 1)) (.int .i64 0)=some (.bool false):=rfl
   rw [hgo]
   rw [List.take_zero,List.reverse_nil,lookF]
   simp only [zero_cells]
   repeat' first | refine κn ?_ | refine κi ?_ | refine κt ?_ | refine κg ?_ | refine κa ?_ | refine κf ?_ | fail
   all_goals rfl
 | succ j =>
   obtain ⟨t,ht⟩:∃ t,l[j]? = some t:=⟨l[j],by simp⟩
   have e1:(((j+1:Nat):Int) - 1)=(j:Int):=by omega
   rw [e1]
   have hj:(cellsL l)[j]? = some t.cells:=by
    obtain ⟨k,nm,s,tb,kids⟩:=t
    exact cellsL_get ht
   have hmem:=List.mem_of_getElem? ht
   have hc:=c78 (hok t hmem) (by have:=hs t hmem;omega)
   have b1:aBin E0 .geq 3 (.int .i64 (j:Int)) (.int .i64 0)=some (.bool true):=by
    show some (PV.bool (decide ((0:Int)≤(j:Int))))=_
    simp
   have b2:aBin E0 .sub 3 (.int .i64 (j:Int)) (.int .i64 1)=some (.int .i64 ((j:Int) - 1)):=by
    show some (PV.int .i64 (IntKind.i64.wrap ((j:Int) - 1)))=_
    rw [show IntKind.i64.wrap ((j:Int) - 1)=(j:Int) - 1 from IntWalk.i64_in _ (by omega)]
   rw [lookF_end ht] at hgo
   generalize (readP t).2=e at hc hgo
   generalize (readP t).1=X at hc hgo
   clear hmem ht
   obtain ⟨k,nm,s,tb,kids⟩:=t
   obtain ⟨sub,⟨k4,m4,s4,t4,q4⟩,iss,pn,per,en,exc,ser,fr,till⟩:=X
   simp only [Cred.cells,Tm.cells,List.cons_append,List.nil_append] at hc hj
   have hco:[slV t4 4 (cellsL q4),slV pn 1 (strC per),slV en 1 (strC exc)].all cellOk=true:=by simp only [List.all_cons,List.all_nil,cellOk_slV,Bool.and_self]
   by_cases he:e=0
   · subst he
     have b3:aBin E0 .eql 31 (.int .i64 0) (.int .i64 0)=some (.bool true):=rfl
     by_cases hsn:sub=name
     · rw [if_pos ⟨rfl, hsn⟩] at hgo
       rw [hgo]
       subst hsn
       have b4:aBin E0 .eql 9 (.str sub) (.str sub)=some (.bool true):=by
        show some (PV.bool (sub == sub))=_
        simp
       have b5:aBin E0 .neq 3 (.int .i64 till) (.int .i64 0)=some (.bool (decide (till≠0))):=by
        show some (PV.bool (till != 0))=_
        congr 2
        rw [Bool.eq_iff_iff]
        simp
       simp only [Tm.cells]
       repeat' first | refine κn ?_ | refine κc (hc _) ?_ | refine κi ?_ | refine κx ?_ | refine κt ?_ | refine κg ?_ | refine κD ?_ | refine κh ?_ | refine κa ?_ | (apply Wp.drawS tOk follows;kernel_rfl;rfl) | refine κf ?_ | fail
       all_goals exact frz3_tib _ _ (.mk k4 m4 s4 t4 q4) _ _
     · rw [if_neg (fun h => hsn h.2)] at hgo
       have b4:aBin E0 .eql 9 (.str sub) (.str name)=some (.bool false):=by
        show some (PV.bool (sub == name))=_
        simp [hsn]
       repeat' first | refine κn ?_ | refine κc (hc _) ?_ | refine κi ?_ | refine κx ?_ | refine κt ?_ | refine κg ?_ | refine κa ?_ | fail
       exact DropQ.go [(0,slV b 4 (cellsL l)),(1,.str name),(4,.ptr 0 4 0 0),(7,.int .i64 ((j:Int) - 1))] ⟨rfl,rfl,rfl,rfl,trivial⟩ (by simp [under_slV,under]) rfl (by simp [boxU,underL,under]) (LoopI.go j (by omega) ⟨_,by omega,hgo,rfl,rfl⟩)
   · rw [if_neg (fun h => he h.1)] at hgo
     have b3:aBin E0 .eql 31 (.int .i64 e) (.int .i64 0)=some (.bool false):=by
      show some (PV.bool (e == 0))=_
      simp [he]
     repeat' first | refine κn ?_ | refine κk ?_ | refine κc (hc _) ?_ | refine κi ?_ | refine κx ?_ | refine κt ?_ | refine κg ?_ | refine κa ?_ | fail
     exact DropQ.go [(0,slV b 4 (cellsL l)),(1,.str name),(4,.ptr 0 4 0 0),(7,.int .i64 ((j:Int) - 1))] ⟨rfl,rfl,rfl,rfl,trivial⟩ (by simp [under_slV,under]) rfl (by simp [boxU,underL,under]) (LoopI.go j (by omega) ⟨_,by omega,hgo,rfl,rfl⟩)
end Go.Vm.Seat
