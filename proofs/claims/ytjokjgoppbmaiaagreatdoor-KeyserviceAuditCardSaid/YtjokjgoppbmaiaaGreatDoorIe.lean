/-
  Proofs of inclusion, as the document makes them. Answers to new readers, and the readers behind changes, as the document makes them.
-/
import Derived.Test.YtjokjgoppbmaiaaGreatDoorIc
import Derived.Test.YtjokjgoppbmaiaaGreatDoorFi
set_option maxHeartbeats 64000000
set_option maxRecDepth 100000
namespace Go.Vm.Seat
open Go.Proofs
noncomputable def E8:Env:={E0 with eff:=fun f=>E0.eff f || Nat.beq f 155}
theorem tOk8:TOk E8 Tryz.prog:=⟨fun _ _ h=>getT_ok h⟩
theorem to08 {f:FuncId} {args:List PV} {H H':Heap} {r:PV} (h:CallOk E0 Tryz.prog f args H r H'):CallOk E8 Tryz.prog f args H r H':=h.env rfl
theorem to80 {f:FuncId} {args:List PV} {H H':Heap} {r:PV} (h:CallOk E8 Tryz.prog f args H r H'):CallOk E0 Tryz.prog f args H r H':=h.env rfl
def incL:Nat→List Tm→Nat→List Tm
 | 0,_,_=>[]
 | f+1,l,i=>if l.length=1 then [] else if i < halfN l.length then incL f (l.take (halfN l.length)) i ++ [headT 33 (l.drop (halfN l.length))] else incL f (l.drop (halfN l.length)) (i - halfN l.length) ++ [headT 33 (l.take (halfN l.length))]
theorem incL_len:∀ (f:Nat) (l:List Tm) (i:Nat),(incL f l i).length≤f
 | 0,_,_=>by simp [incL]
 | f + 1, l, i => by
   have hz1:=incL_len f (l.take (halfN l.length)) i
   have h2:=incL_len f (l.drop (halfN l.length)) (i - halfN l.length)
   simp only [incL]
   split
   · simp
   · split <;> simp only [List.length_append,List.length_singleton] <;> omega
theorem incL_ok {S:Nat}:∀ (f:Nat) {l:List Tm} (i:Nat),l.length≤12→(∀ t,t∈l→t.Ok∧t.size≤S)→∀ t,t∈incL f l i→t.Ok∧t.size≤12 * (S+11)
 | 0,l,i,_,_,t,ht=>by simp [incL] at ht
 | f + 1, l, i, hl, h, t, ht => by
   have key:∀ m:List Tm,m.length≤12→(∀ t,t∈m→t.Ok∧t.size≤S)→(headT 33 m).Ok∧(headT 33 m).size≤12 * (S+11):=fun m hm hh=>by
    obtain ⟨a,b⟩:=head_ok (S:=S) 32 (l:=m) (by omega) hh
    have:=Nat.mul_le_mul_right (S+11) (show max m.length 1≤12 by omega)
    exact ⟨a,by show (headT (32+1) m).size≤_;omega⟩
   simp only [incL] at ht
   split at ht
   · simp at ht
   · split at ht
     · simp only [List.mem_append, List.mem_singleton] at ht
       rcases ht with ht | rfl
       · exact incL_ok f i (by rw [List.length_take];omega) (fun t ht=>h t (List.mem_of_mem_take ht)) t ht
       · exact key _ (by rw [List.length_drop];omega) fun t ht=>h t (List.mem_of_mem_drop ht)
     · simp only [List.mem_append, List.mem_singleton] at ht
       rcases ht with ht | rfl
       · exact incL_ok f _ (by rw [List.length_drop];omega) (fun t ht=>h t (List.mem_of_mem_drop ht)) t ht
       · exact key _ (by rw [List.length_take];omega) fun t ht=>h t (List.mem_of_mem_take ht)
theorem c155 : ∀ (f : Nat) {l : List Tm}, l.length ≤ f → f ≤ 32 → ∀ (b : Bool) {i : Nat}, i < l.length → ∀ (lv : List Nat) (nt : Nat), ∃ out lv' nt', ApV true 4 (cellsL (incL f l i)) out lv' nt' ∧
  CallOk E8 Tryz.prog 155 [slV b 4 (cellsL l),.int .i64 (i:Int)] ⟨[],0,lv,nt⟩ out ⟨[],0,lv',nt'⟩
 | 0,l,h,_,_,i,hi,_,_=>by omega
 | f + 1, l, h, hf, b, i, hi, lv, nt => by
   have hl:=cellsL_length l
   by_cases hz1:l.length=1
   · have b1 : aBin E0 .eql 3 (.int .i64 ((cellsL l).length : Int)) (.int .i64 1) = some (.bool true) := eql0_t (by rw [hl]; omega)
     have e:incL (f+1) l i= []:=by simp only [incL,if_pos hz1]
     rw [e]
     refine ⟨.nils,lv,nt,.nil _ _ rfl,?_⟩
     generalize cellsL l=L at b1 ⊢
     have b1:aBin E8 .eql 3 (.int .i64 (L.length:Int)) (.int .i64 1)=some (.bool true):=b1
     refine callOk_wpE (own:=fun _=>false) tOk8 fe155.ok ?_
     refine Wp.seq ?_
     repeat' first | refine κn ?_ | refine κi ?_ | refine κl ?_ | refine κg ?_ | refine κa ?_ | fail
     all_goals exact RetE.ret rfl rfl rfl
   · have hne : l ≠ [] := fun e => by rw [e] at hi; simp at hi
     have hp:=half_pos l.length
     have hh:=half_lt (n:=l.length) (by omega)
     have b1:aBin E8 .eql 3 (.int .i64 ((cellsL l).length:Int)) (.int .i64 1)=some (.bool false):=eql0_f (by rw [hl];omega)
     have hs:∀ H,CallOk E8 Tryz.prog 216 [.int .i64 ((cellsL l).length:Int)] H (.int .i64 (halfN l.length:Int)) H:=fun H=>by
      rw [hl]
      exact to08 (c216 (by omega) H)
     have t1:=preT b hne (k:=halfN l.length) (by omega)
     have t2:=sufT b hne (k:=halfN l.length) (by omega)
     have t1:aSlice E8 22 (slV b 4 (cellsL l)) none (some (.int .i64 (halfN l.length:Int))) none=some (.sl .none 4 (cellsL (l.take (halfN l.length)))):=t1
     have t2:aSlice E8 22 (slV b 4 (cellsL l)) (some (.int .i64 (halfN l.length:Int))) none none=some (.sl .none 4 (cellsL (l.drop (halfN l.length)))):=t2
     have l1:(l.take (halfN l.length)).length=halfN l.length:=by rw [List.length_take];omega
     have l2:(l.drop (halfN l.length)).length=l.length - halfN l.length:=List.length_drop ..
     by_cases hlt:i < halfN l.length
     · have b2 : aBin E8 .lss 3 (.int .i64 (i : Int)) (.int .i64 (halfN l.length : Int)) = some (.bool true) := lss_t (by omega)
       obtain ⟨o1,lv1,nt1,A1,hr⟩:=c155 f (l:=l.take (halfN l.length)) (by omega) (by omega) false (i:=i) (by omega) lv nt
       have hO:=c154 32 (l:=l.drop (halfN l.length)) (by omega) (by omega) false
       have e:incL (f+1) l i=incL f (l.take (halfN l.length)) i ++ [headT 33 (l.drop (halfN l.length))]:=by simp only [incL,if_neg hz1,if_pos hlt]
       rw [e]
       have hO:∀ H,CallOk E8 Tryz.prog 154 [.sl .none 4 (cellsL (l.drop (halfN l.length)))] H (.agg (headT 33 (l.drop (halfN l.length))).cells) H:=fun H=>by
        have:=to08 (hO H)
        rw [slV_false] at this
        exact this
       rw [slV_false] at hr
       have hil:=incL_len f (l.take (halfN l.length)) i
       generalize incL f (l.take (halfN l.length)) i=P at A1 hil ⊢
       generalize headT 33 (l.drop (halfN l.length))=X at hO ⊢
       obtain ⟨o2,lv2,nt2,a2,A2, -⟩:=A1.app (E:=E8) (t:=22) (u:=22) (by_:=56) ⟨_,_,_,_,_,rfl,rfl,rfl,rfl,rfl,rfl,rfl,by decide,rfl⟩ (.sl .full 4 (cellsL [X])) (cellsL_cellOk _) (fits_of (by simp only [cellsL_length,List.length_cons,List.length_nil];omega) (by decide)) (noB_cellsL _)
       rw [← cellsL_append] at A2
       refine ⟨o2,lv2,nt2,A2,?_⟩
       clear A1 A2 e
       rw [cellsL_mk1] at a2
       generalize cellsL (l.take (halfN l.length))=L1 at t1 hr
       generalize cellsL (l.drop (halfN l.length))=L2 at t2 hO
       generalize halfN l.length=k at b2 t1 t2 hs
       generalize cellsL l=L at b1 hs t1 t2 ⊢
       obtain ⟨k1,nm1,s1,tb1,kids1⟩:=X
       simp only [Tm.cells] at hO a2
       refine callOk_wpE (own:=(fun d=>[5019,5025].any (Nat.beq d))) tOk8 fe155.ok ?_
       refine Wp.seq ?_
       repeat' first | refine κn ?_ | refine κc (hs _) ?_ | refine κi ?_ | refine κl ?_ | refine κg ?_ | refine κd (hO _) ?_ | (apply dCt;rfl;rfl;rfl;rfl;rfl;exact hr) | refine κB ?_ | (apply dAq;rfl;rfl;rfl;rfl;rfl;rfl;(first | assumption | solve_by_elim)) | (apply dSl;rfl;rfl;rfl;rfl;rfl;rfl;assumption;exact IsV.any _;rfl) | refine κh ?_ | refine κa ?_ | (apply Wp.draw tOk8 follows;kernel_rfl) | fail
       all_goals exact RetE.ret rfl rfl rfl
     · have b2 : aBin E8 .lss 3 (.int .i64 (i : Int)) (.int .i64 (halfN l.length : Int)) = some (.bool false) := lss_f (by omega)
       have b3:aBin E8 .sub 3 (.int .i64 (i:Int)) (.int .i64 (halfN l.length:Int))=some (.int .i64 ((i - halfN l.length:Nat):Int)):=by
        show some (PV.int .i64 (IntKind.i64.wrap ((i:Int) - (halfN l.length:Int))))=_
        rw [IntWalk.i64_in _ (by omega)]
        congr 2
        omega
       obtain ⟨o1,lv1,nt1,A1,hr⟩:=c155 f (l:=l.drop (halfN l.length)) (by omega) (by omega) false (i:=i - halfN l.length) (by omega) lv nt
       have hO:=c154 32 (l:=l.take (halfN l.length)) (by omega) (by omega) false
       have e:incL (f+1) l i=incL f (l.drop (halfN l.length)) (i - halfN l.length) ++ [headT 33 (l.take (halfN l.length))]:=by simp only [incL,if_neg hz1,if_neg hlt]
       rw [e]
       have hO:∀ H,CallOk E8 Tryz.prog 154 [.sl .none 4 (cellsL (l.take (halfN l.length)))] H (.agg (headT 33 (l.take (halfN l.length))).cells) H:=fun H=>by
        have:=to08 (hO H)
        rw [slV_false] at this
        exact this
       rw [slV_false] at hr
       have hil:=incL_len f (l.drop (halfN l.length)) (i - halfN l.length)
       generalize incL f (l.drop (halfN l.length)) (i - halfN l.length)=P at A1 hil ⊢
       generalize headT 33 (l.take (halfN l.length))=X at hO ⊢
       obtain ⟨o2,lv2,nt2,a2,A2, -⟩:=A1.app (E:=E8) (t:=22) (u:=22) (by_:=56) ⟨_,_,_,_,_,rfl,rfl,rfl,rfl,rfl,rfl,rfl,by decide,rfl⟩ (.sl .full 4 (cellsL [X])) (cellsL_cellOk _) (fits_of (by simp only [cellsL_length,List.length_cons,List.length_nil];omega) (by decide)) (noB_cellsL _)
       rw [← cellsL_append] at A2
       refine ⟨o2,lv2,nt2,A2,?_⟩
       clear A1 A2 e
       rw [cellsL_mk1] at a2
       generalize cellsL (l.take (halfN l.length))=L1 at t1 hO
       generalize cellsL (l.drop (halfN l.length))=L2 at t2 hr
       generalize i - halfN l.length=j at b3 hr
       generalize halfN l.length=k at b2 b3 t1 t2 hs
       generalize cellsL l=L at b1 hs t1 t2 ⊢
       obtain ⟨k1,nm1,s1,tb1,kids1⟩:=X
       simp only [Tm.cells] at hO a2
       refine callOk_wpE (own:=(fun d=>[5032,5038].any (Nat.beq d))) tOk8 fe155.ok ?_
       refine Wp.seq ?_
       repeat' first | refine κn ?_ | refine κc (hs _) ?_ | refine κi ?_ | refine κl ?_ | refine κg ?_ | refine κd (hO _) ?_ | (apply dCt;rfl;rfl;rfl;rfl;rfl;exact hr) | refine κB ?_ | (apply dAq;rfl;rfl;rfl;rfl;rfl;rfl;(first | assumption | solve_by_elim)) | (apply dSl;rfl;rfl;rfl;rfl;rfl;rfl;assumption;exact IsV.any _;rfl) | refine κD ?_ | refine κh ?_ | refine κa ?_ | (apply Wp.draw tOk8 follows;kernel_rfl) | fail
       all_goals exact RetE.ret rfl rfl rfl
theorem c76 {l : List Tm} (hl : ∀ t, t ∈ l → t.Ok ∧ t.size ≤ 2000) (hent : entF l = 0) {i : Nat} (hi : i < l.length) (hv : (headT 33 l).valid = 0) (b : Bool) : ∀ H,
  CallOk E0 Tryz.prog 76 [slV b 4 (cellsL l),.int .i64 (i:Int)] H (.tup [slV true 4 (cellsL (incL 32 l i)),.int .i64 0]) H:=by
 have c1:=c152 (fun t ht=>⟨(hl t ht).1,by have:=(hl t ht).2;omega⟩) b
 rw [hent] at c1
 have hlen:=entF_len hent
 have c2:=c154 32 hlen hlen b
 obtain ⟨hz1,h2⟩:=head_ok (S:=2000) 32 hlen hl
 have h3:=Nat.mul_le_mul_right (2000+11) (show max l.length 1≤32 by omega)
 have c3:=c153 hz1 (by omega)
 have c3:∀ H,CallOk E0 Tryz.prog 153 [.agg (headT 33 l).cells] H (.int .i64 0) H:=fun H=>by
  have:=c3 H
  rw [if_neg (not_not_intro hv)] at this
  exact this
 obtain ⟨out,lv',nt',hA,hr⟩:=c155 32 (l:=l) hlen (by omega) b hi [] 0
 have hln:=cellsL_length l
 have gz1:aBin E0 .lss 3 (.int .i64 (i:Int)) (.int .i64 0)=some (.bool false):=lss_f (by omega)
 have g2:aBin E0 .geq 3 (.int .i64 (i:Int)) (.int .i64 ((cellsL l).length:Int))=some (.bool false):=by
  show some (PV.bool (decide (((cellsL l).length:Int)≤(i:Int))))=_
  rw [decide_eq_false (by omega)]
 have hfin:∀ m H,frz3 m H (.tup [out,.int .i64 0])=some (.tup [slV true 4 (cellsL (incL 32 l i)),.int .i64 0]):=fun m H=>by
  show (match frz2L m H [out,.int .i64 0] with | some vs'=>some (PV.tup vs') | none=>none)=_
  simp only [frz2L,hA.frz2]
  rfl
 clear hz1 h2 h3 hv hA
 generalize headT 33 l=X at c2 c3
 have hfr:frz3 0 hNil (.tup [slV true 4 (cellsL (incL 32 l i)),.int .i64 0])=some (.tup [slV true 4 (cellsL (incL 32 l i)),.int .i64 0]):=by
  rcases slV_or4 true 4 (cellsL (incL 32 l i)) with h | h <;> rw [h] <;> rfl
 generalize cellsL (incL 32 l i)=PL at hfin hfr ⊢
 generalize cellsL l=L at c1 c2 hr g2 ⊢
 obtain ⟨k1,nm1,s1,tb1,kids1⟩:=X
 simp only [Tm.cells] at c2 c3
 have hr0:CallOk E0 Tryz.prog 155 [slV b 4 L,.int .i64 (i:Int)] ⟨[],0,[],0⟩ out ⟨[],0,lv',nt'⟩:=to80 hr
 refine κw tOk fe76.ok hfr ?_
 repeat' first | refine κn ?_ | (apply qCl;rfl;rfl;rfl;rfl;first | exact c1 _ | exact c2 _ | exact c3 _ | exact hr0) | refine κi ?_ | refine κl ?_ | refine κt ?_ | refine κg ?_ | refine κa ?_ | refine κf ?_ | fail
 all_goals exact hfin _ _
end Go.Vm.Seat
namespace Go.Vm.Seat
open Go.Proofs
def An.zero:An:=⟨[],.zero,0,0,.zero,.zero,true,[],true,[]⟩
def anF (s:Sv) (name:Bs):An:=⟨name,(s.log[(lookF name s.log.reverse).2.1]?).getD .zero,((lookF name s.log.reverse).2.1:Int),(s.log.length:Int),(headV s.log s.key).1,(headV s.log s.key).2.1,true,incL 32 s.log (lookF name s.log.reverse).2.1,true,[]⟩
def ansF (s:Sv) (name:Bs):An×Int:=if svV s≠0 then (An.zero,svV s) else if (lookF name s.log.reverse).2.2=false then (An.zero,4) else (anF s name,0)
theorem look_lt {name:Bs}:∀ {l:List Tm},(lookF name l).2.2=true→(lookF name l).2.1 < l.length
 | [],h=>by simp [lookF] at h
 | t :: r, h => by
   simp only [lookF] at h ⊢
   split
   · simp
   · rename_i hn
     rw [if_neg hn] at h
     have:=look_lt h
     simp only [List.length_cons]
     omega
theorem sv_head {s:Sv} (h:svV s=0):(refHead s.log).2=0:=by
 unfold svV at h
 split at h; · cases h
 split at h; · cases h
 split at h; · cases h
 split at h; · cases h
 split at h; · cases h
 rename_i h5
 unfold headV at h5
 split at h5
 · simp at h5
 · rename_i h6
   exact Classical.not_not.1 h6
theorem refHead_of {l:List Tm} (h:(refHead l).2=0):entF l=0∧(headT 33 l).valid=0:=by
 unfold refHead at h
 split at h; · rename_i hz1;exact absurd h hz1
 split at h; · cases h
 rename_i hz1 h2
 exact ⟨Classical.not_not.1 hz1,Classical.not_not.1 h2⟩
theorem Mad.lg {n:Nat} {s:Sv} (h:Mad n s):∀ t,t∈s.log→t.Ok∧t.size≤150:=fun t ht=>⟨h.ok.l t ht,h.sz t ht⟩
theorem mad_head {s:Sv} (h:Mad 10 s):((headV s.log s.key).1.Ok∧(headV s.log s.key).1.size≤1900)∧(headV s.log s.key).2.1.Ok∧(headV s.log s.key).2.1.size≤2000:=by
 have hz:Tm.zero.Ok∧Tm.zero.size=1:=⟨Tm.ok_zero,rfl⟩
 have hr:(refHead s.log).1.Ok∧(refHead s.log).1.size≤1900:=by
  unfold refHead
  split; · exact ⟨hz.1,by show Tm.zero.size≤_;have:=hz.2;omega⟩
  split; · exact ⟨hz.1,by show Tm.zero.size≤_;have:=hz.2;omega⟩
  obtain ⟨a,b⟩:=head_ok (S:=150) 32 (l:=s.log) (by have:=h.len;omega) h.lg
  have:=Nat.mul_le_mul_right (150+11) (show max s.log.length 1≤10 by have:=h.len;omega)
  exact ⟨a,by show (headT (32+1) s.log).size≤_;omega⟩
 have hs:=sign_ok id (fun t ht=>⟨ht,rfl⟩) (s.log.length:Int) hr.1 h.ok.k
 have hk:=h.ks
 unfold headV
 split
 · exact ⟨⟨hz.1,by show Tm.zero.size≤_;have:=hz.2;omega⟩,hz.1,by show Tm.zero.size≤_;have:=hz.2;omega⟩
 · exact ⟨hr,hs.1,by have:=hs.2;have:=hr.2;show (signG id (refHead s.log).1 s.log.length s.key).1.size≤_;omega⟩
theorem anF_sm {s:Sv} (h:Mad 10 s) {name:Bs} (hn:name.length≤100):AnSm (anF s name) 2000:=by
 have hh:=mad_head h
 have hi:=incL_ok (S:=150) 32 (l:=s.log) (lookF name s.log.reverse).2.1 (by have:=h.len;omega) h.lg
 have hil:=incL_len 32 s.log (lookF name s.log.reverse).2.1
 have hlk:=(lookF_ok (name:=name) (S:=900) (by omega) (l:=s.log.reverse) fun u hu=>⟨h.ok.l u (List.mem_reverse.1 hu),h.ok.ls u (List.mem_reverse.1 hu)⟩).2.2
 rw [List.length_reverse] at hlk
 have hl:=h.len
 have he:((s.log[(lookF name s.log.reverse).2.1]?).getD .zero).Ok∧((s.log[(lookF name s.log.reverse).2.1]?).getD .zero).size≤2000:=by
  cases e:s.log[(lookF name s.log.reverse).2.1]? with
  | none=>exact ⟨Tm.ok_zero,by show Tm.zero.size≤_;have:Tm.zero.size=1:=rfl;omega⟩
  | some t=>exact ⟨h.ok.l t (List.mem_of_getElem? e),by have:=h.sz t (List.mem_of_getElem? e);show t.size≤_;omega⟩
 have wf:∀ k:Nat,k≤100→(Lit.int .i64 (k:Int)).wf=true:=fun k hk=>by
  have:∀ m:Fin 101,(Lit.int .i64 ((m:Nat):Int)).wf=true:=by decide
  exact this ⟨k,by omega⟩
 exact ⟨⟨he.1,hh.1.1,hh.2.1,fun t ht=>(hi t ht).1,fun t ht=>absurd ht (by simp [anF]),(by show (incL _ _ _).length≤maxLen;unfold maxLen;omega),(by show ([]:List Tm).length≤maxLen;unfold maxLen;simp)⟩,hn,he.2,by have:=hh.1.2;show (headV s.log s.key).1.size≤_;omega,hh.2.2,fun t ht=>by have:=(hi t ht).2;omega,(fun t ht=>absurd ht (by simp [anF])),wf _ (by omega),wf _ (by omega)⟩
theorem anz_cells:An.zero.cells= [.str [],.int .i64 0,.str [],.int .i64 0,.nils,.int .i64 0,.int .i64 0,.int .i64 0,.str [],.int .i64 0,.nils,.int .i64 0,.str [],.int .i64 0,.nils,.nils,.nils]:=by
 simp only [An.zero,An.cells,zero_cells,cellsL,slV_nil_true]
 rfl
theorem frzC_or (m:Nat) (H:Heap) (b:Bool) (n:Nat) (L:List (List PV)):frzC m H (slV b n L)=some (slV b n L):=by
 rcases slV_or4 b n L with h | h <;> rw [h] <;> rfl
theorem frz3_anI (m:Nat) (H:Heap) (a:An) (e:Int):frz3 m H (.tup [.agg a.cells,.int .i64 e])=some (.tup [.agg a.cells,.int .i64 e]):=by
 obtain ⟨nm,⟨k1,n1,s1,b1,l1⟩,x,y,⟨k2,n2,s2,b2,l2⟩,⟨k3,n3,s3,b3,l3⟩,ib,inc,eb,ext⟩:=a
 simp only [An.cells,Tm.cells,List.cons_append,List.nil_append]
 show (match frz2L m H _ with | some vs'=>some (PV.tup vs') | none=>none)=_
 simp only [frz2L,frz2,frzCL,frzC_or]
 rfl
theorem buildAn (name:Bs) (e:Tm) (i n:Int) (h s:Tm):aBuild E0 69 [(0,.str name),(1,.agg e.cells),(2,.int .i64 i),(3,.int .i64 n),(4,.agg h.cells),(5,.agg s.cells)]=some (.agg (An.mk name e i n h s true [] true []).cells):=by
 obtain ⟨k1,n1,s1,b1,l1⟩:=e
 obtain ⟨k2,n2,s2,b2,l2⟩:=h
 obtain ⟨k3,n3,s3,b3,l3⟩:=s
 simp only [An.cells,Tm.cells,cellsL,slV_nil_true]
 rfl
theorem frzSv2i (s:Sv) (name:Bs) (i:Int):frzGL [.agg s.cells,.str name,.int .i64 i]=some [.agg s.cells,.str name,.int .i64 i]:=by
 have h:=frzSv s
 simp only [frzGL] at h ⊢
 revert h
 generalize frzG (.agg s.cells)=F
 cases F <;> simp
 rintro rfl
 rfl
theorem c34 {s:Sv} (h:Mad 10 s) {name:Bs} (_hn:name.length≤100):∀ H,CallOk E0 Tryz.prog 34 [.agg s.cells,.str name,.int .i64 0] H (.tup [.agg (ansF s name).1.cells,.int .i64 (ansF s name).2]) H:=by
 have cv:=c73 h.ok
 have cf:=c74 h.ok.l h.ok.ls h.ok.ll (name:=name) s.lb
 have ch:=c75 (fun t ht=>⟨h.ok.l t ht,h.ok.ls t ht⟩) s.lb h.ok.k h.ok.ks
 have hfz:=frzSv2i s name 0
 have hfr:=fun m H=>frz3_anI m H
 have hln:=cellsL_length s.log
 have e1:=err_v (svV s)
 unfold ansF
 rcases e1 with ⟨hz1,e1⟩ | ⟨hz1,e1⟩
 · rw [if_neg (not_not_intro hz1)]
   rw [hz1] at cv e1
   have gz1:aBin E0 .gtr 3 (.int .i64 0) (.int .i64 ((cellsL s.log).length:Int))=some (.bool false):=gtr_f (by omega)
   cases hok:(lookF name s.log.reverse).2.2 with
   | false =>
     have hf:=fun m H=>hfr m H An.zero 4
     rw [if_pos rfl]
     rw [hok] at cf
     generalize lookF name s.log.reverse=F at cf
     obtain ⟨⟨k1,nm1,s1,b1,kids1⟩,n,ok⟩:=F
     obtain ⟨sn,⟨k,nm,z,b,kids⟩,lb,log,kb,keys⟩:=s
     simp only [anz_cells] at hf ⊢
     simp only [Sv.cells,Tm.cells,List.cons_append,List.nil_append] at cv cf hfz ⊢
     refine callOk_wp (own:=(fun d=>[30014].any (Nat.beq d))) tOk fe34.ok hfz (hf 0 hNil) ?_
     refine Wp.seq ?_
     repeat' first | refine κn ?_ | refine κc (cv _) ?_ | refine κc (cf _) ?_ | refine κi ?_ | refine κt ?_ | refine κg ?_ | refine κa ?_ | refine κf ?_ | fail
     all_goals exact hf _ _
   | true =>
     have hlt:=look_lt hok
     rw [List.length_reverse] at hlt
     obtain ⟨t,ht⟩:∃ t,s.log[(lookF name s.log.reverse).2.1]? = some t:=⟨s.log[(lookF name s.log.reverse).2.1],by simp⟩
     have hR:=refHead_of (sv_head hz1)
     have ci:=c76 (fun t ht=>⟨h.ok.l t ht,by have:=h.ok.ls t ht;omega⟩) hR.1 hlt hR.2 s.lb
     have hj:(cellsL s.log)[(lookF name s.log.reverse).2.1]? = some t.cells:=by
      obtain ⟨k,nm,s,b,kids⟩:=t
      exact cellsL_get ht
     have hf:=fun m H=>hfr m H (anF s name) 0
     rw [if_neg (by simp)]
     unfold anF at hf ⊢
     rw [hok] at cf
     rw [ht] at hf ⊢
     simp only [Option.getD_some] at hf ⊢
     have hbd:=buildAn name t (lookF name s.log.reverse).2.1 s.log.length (headV s.log s.key).1 (headV s.log s.key).2.1
     rw [← hln] at hbd hf ⊢
     clear h hR hlt hok hz1
     generalize headV s.log s.key=HV at ch hbd hf ⊢
     generalize incL 32 s.log (lookF name s.log.reverse).2.1=P at ci hf ⊢
     generalize lookF name s.log.reverse=F at cf ci hj hbd hf ht ⊢
     obtain ⟨⟨k1,nm1,s1,b1,kids1⟩,n,ok⟩:=F
     obtain ⟨⟨k2,nm2,s2,b2,kids2⟩,⟨k3,nm3,s3,b3,kids3⟩,hok⟩:=HV
     obtain ⟨sn,⟨k,nm,z,b,kids⟩,lb,log,kb,keys⟩:=s
     obtain ⟨k4,nm4,s4,b4,kids4⟩:=t
     simp only [An.cells,Sv.cells,Tm.cells,cellsL,slV_nil_true,List.cons_append,List.nil_append] at cv cf ch ci hj hbd hf hfz ⊢
     rcases slV_or4 true 4 (cellsL P) with hP | hP
     all_goals
      rw [hP] at ci ⊢
      simp only [hP] at hf
      refine callOk_wp (own:=(fun d=>[30014].any (Nat.beq d))) tOk fe34.ok hfz (hf 0 hNil) ?_
      refine Wp.seq ?_
      repeat' first | refine κn ?_ | (apply qCl;rfl;rfl;rfl;rfl;first | exact cv _ | exact cf _ | exact ch _ | exact ci _) | refine κi ?_ | refine κl ?_ | refine κt ?_ | refine κb ?_ ?_ | refine κg ?_ | (apply dAl;rfl;rfl;rfl;rfl;exact IsV.ptrM;exact IsH.mkN) | (apply dBd;rfl;rfl;rfl;assumption;exact IsV.aggN;rfl) | (apply dLn;rfl;rfl;rfl;rfl;rfl) | refine κI ?_ | refine κh ?_ | refine κa ?_ | (apply dWB tOk follows;rfl;kernel_rfl;rfl;exact IsH.mkN) | refine κf ?_ | intro hb
     all_goals exact hf _ _
 · have hf := fun m H => hfr m H An.zero (svV s)
   rw [if_pos hz1]
   generalize svV s=V at cv e1 hf ⊢
   obtain ⟨sn,⟨k,nm,z,b,kids⟩,lb,log,kb,keys⟩:=s
   simp only [anz_cells] at hf ⊢
   simp only [Sv.cells,Tm.cells,List.cons_append,List.nil_append] at cv hfz ⊢
   refine callOk_wp (own:=(fun d=>[30014].any (Nat.beq d))) tOk fe34.ok hfz (hf 0 hNil) ?_
   refine Wp.seq ?_
   repeat' first | refine κn ?_ | refine κc (cv _) ?_ | refine κi ?_ | refine κg ?_ | refine κa ?_ | refine κf ?_ | fail
   all_goals exact hf _ _
end Go.Vm.Seat
