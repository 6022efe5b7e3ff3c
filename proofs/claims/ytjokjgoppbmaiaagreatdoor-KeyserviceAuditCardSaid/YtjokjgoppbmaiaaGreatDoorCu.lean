/-
  Credentials: names, and what a credential must be, in the reference's text. Credentials: their terms. Credentials: tuples. Credentials: names and lists of names as terms.
-/
import Derived.Test.YtjokjgoppbmaiaaGreatDoorCv
import Derived.Test.YtjokjgoppbmaiaaGreatDoorFh
import Derived.Test.YtjokjgoppbmaiaaGreatDoorFg
set_option maxHeartbeats 64000000
set_option maxRecDepth 100000
namespace Go.Vm.Seat
open Go.Proofs
theorem c219 {s:Bs} (hs:s.length≤100000):∀ H,CallOk E0 Tryz.prog 219 [.str s] H (.bool (dottedB s)) H:=by
 have hc:=c258 hs
 unfold labels71 at hc
 unfold dottedB
 cases h:(splitD s).all labelB with
 | false =>
   rw [h] at hc
   rw [Bool.and_false]
   have hc:∀ H,CallOk E0 Tryz.prog 258 [.str s] H (.tup [.nils,.bool false]) H:=hc
   refine κw tOk fe219.ok rfl ?_
   repeat' first | refine κn ?_ | refine κc (hc _) ?_ | refine κt ?_ | refine κg ?_ | refine κa ?_ | refine κf ?_ | fail
   all_goals rfl
 | true =>
   rw [h] at hc
   rw [Bool.and_true]
   generalize decide ((splitD s).length≤4)=B at hc
   have hc:∀ H,CallOk E0 Tryz.prog 258 [.str s] H (.tup [.sl .none 1 (partsC (splitD s)),.bool B]) H:=hc
   refine κw tOk fe219.ok rfl ?_
   repeat' first | refine κn ?_ | refine κc (hc _) ?_ | refine κt ?_ | refine κb ?_ ?_ | refine κg ?_ | refine κa ?_ | refine κf ?_ | intro hb
   all_goals first | rfl | (rw [hb];rfl) | (cases B <;> first | rfl | cases hb)
theorem any_drop {l:List Bs} {i:Nat} {a:Bs} (h:l[i]? = some a):wrongB (l.drop i)=(!dottedB a || wrongB (l.drop (i+1))):=by
 rw [drop_cons h];rfl
theorem c220 {l:List Bs} (hl:∀ s,s∈l→s.length≤100000) (hlen:l.length≤100000) (b:Bool):∀ H,CallOk E0 Tryz.prog 220 [slV b 1 (strC l)] H (.bool (!wrongB l)) H:=by
 refine κw tOk fe220.ok rfl ?_
 repeat' first | refine κn ?_ | refine κt ?_ | refine κg ?_ | refine κa ?_ | fail
 refine Wp.while (fun m tm H=>∃ (i:Nat) (base:TM),i+m=l.length∧wrongB l=wrongB (l.drop i)∧tm=ovr base [(0,slV b 1 (strC l)),(3,.int .i64 (i:Int))]∧H=⟨[],0,[],0⟩)
  (fun m tm H hI=> ?_) l.length _ _ ⟨0,_,by omega,by simp,ovr_mk ⟨rfl,rfl,trivial⟩,rfl⟩
 obtain ⟨i,base,hi,hgo,rfl,rfl⟩:=hI
 rw [hgo]
 by_cases hlt:i < l.length
 · obtain ⟨a, ha⟩ : ∃ a, l[i]? = some a := ⟨l[i], by simp⟩
   have hj:=strC_get ha
   have hc:=c219 (hl a (List.mem_of_getElem? ha))
   rw [any_drop ha]
   generalize dottedB a=d at hc
   repeat' first | refine κn ?_ | refine κc (hc _) ?_ | refine κl ?_ | refine κx ?_ | refine κt ?_ | refine κb ?_ ?_ | refine κg ?_ | refine κa ?_ | refine κf ?_ | intro hb
   · have h1 : d = false := by simpa using hb
     rw [h1]
     rfl
   · have h1 : d = true := by simpa using hb
     rw [h1]
     exact LoopI.go (m - 1) (by omega) ⟨i+1,_,by omega,rfl,ovr_mk ⟨rfl,int_eq (wrap_nat (n:=i+1) (by omega)),trivial⟩,rfl⟩
   · exfalso;rw [strC_len] at hb;simp at hb;omega
 · have e : i = l.length := by omega
   subst e
   repeat' first | refine κn ?_ | refine κl ?_ | refine κt ?_ | refine κb ?_ ?_ | refine κg ?_ | refine κa ?_ | refine κf ?_ | intro hb
   · exfalso;rw [strC_len] at hb;simp at hb
   · rw [List.drop_length];rfl
theorem key_pk {k:Int} {nm:List UInt8} {s:Int} {b:Bool} {kids:List Tm} (h:(Tm.mk k nm s b kids).key=0):isF k nm [112,107]=(Tm.mk k nm s b kids).isB [112,107] 1:=by
 show isF k nm [112,107]=(decide (k=3) && ((nm == [112,107]) && decide (kids.length=1)))
 by_cases c1:k=3
 · by_cases c2 : nm = [112, 107]
   · subst c1 c2
     have hth:(Tm.mk 3 [112,107] s b kids).th=0:=by
      unfold Tm.key at h
      by_cases d1:(Tm.mk 3 [112,107] s b kids).valid≠0
      · rw [if_pos d1] at h;exact absurd h d1
      · rw [if_neg d1] at h
        by_cases d2:(Tm.mk 3 [112,107] s b kids).th≠0
        · rw [if_pos d2] at h;exact absurd h d2
        · simpa using d2
     simp only [Tm.th] at hth
     have hsy:symF [112,107]=⟨[112,107],1,1,1⟩:=rfl
     rw [hsy] at hth
     simp only [ne_eq,not_true_eq_false,if_false,show ¬ ((1:Int)=0) by omega] at hth
     have hl:kids.length=1:=by
      by_cases d3:(kids.length:Int) < 1∨1 < (kids.length:Int)
      · rw [if_pos d3] at hth;exact absurd hth (by omega)
      · omega
     rw [hl]
     rfl
   · have c3 : (nm == [112, 107]) = false := by simpa using c2
     simp only [isF,c3,Bool.false_and,Bool.and_false]
 · simp [isF,c1]
theorem c161 (x : Cred) (h1 : x.sub.length ≤ 100000) (hk : x.key.Ok) (hks : x.key.size ≤ 90000) (hp : ∀ s, s ∈ x.per → s.length ≤ 100000) (he : ∀ s, s ∈ x.exc → s.length ≤ 100000) (hpl : x.per.length ≤ 100000) (hel : x.exc.length ≤ 100000) :
  ∀ H,CallOk E0 Tryz.prog 161 [.agg x.cells] H (.int .i64 x.valid) H:=by
 obtain ⟨sub,key,iss,pn,per,en,exc,ser,fr,till⟩:=x
 simp only [] at h1 hk hks hp he hpl hel
 have c1:=c219 h1
 have c2:=c162 hk (by omega)
 have c4:=c220 hp hpl pn
 have c5:=c220 he hel en
 obtain ⟨V,hV⟩:∃ V,V=(Cred.mk sub key iss pn per en exc ser fr till).valid:=⟨_,rfl⟩
 rw [← hV]
 simp only [Cred.valid] at hV
 generalize dottedB sub=d at c1 hV
 generalize wrongB per=w1 at c4 hV
 generalize wrongB exc=w2 at c5 hV
 obtain ⟨l,hl⟩:∃ l,l= [ser,fr,till]:=⟨_,rfl⟩
 rw [← hl] at hV
 obtain ⟨k,nm,s,b,kids⟩:=key
 have hkey:=key_pk (k:=k) (nm:=nm) (s:=s) (b:=b) (kids:=kids)
 have c3:=c94 k nm s b kids [112,107]
 generalize (Tm.mk k nm s b kids).key=e at c2 hV hkey
 generalize (Tm.mk k nm s b kids).isB [112,107] 1=i3 at hV hkey
 generalize isF k nm [112,107]=i4 at c3 hkey
 simp only [Tm.cells] at c2 c3
 simp only [Cred.cells,Tm.cells,List.cons_append,List.nil_append]
 refine κw tOk fe161.ok rfl ?_
 repeat' first | refine κn ?_ | refine κk ?_ | (apply qCl;rfl;rfl;rfl;rfl;first | exact c1 _ | exact c2 _ | exact c3 _ | exact c4 _ | exact c5 _) | refine κs ?_ | refine κl ?_ | refine κt ?_ | refine κb ?_ ?_ | refine κg ?_ | refine κh ?_ | refine κa ?_ | (apply Wp.draw tOk follows;kernel_rfl) | refine κf ?_ | intro hb
 all_goals
  have hwr:IntKind.i64.wrap ((per.length:Int)+(exc.length:Int))=(per.length:Int)+(exc.length:Int):=IntWalk.i64_in _ (by omega)
  clear c1 c2 c3 c4 c5 h1 hp he hk hks
 all_goals first
  | (refine int_eq ?_
     simp only [strC_len,hwr,Bool.not_eq_true',Bool.not_eq_false',Bool.not_not,bne_iff_ne,bne_eq_false_iff_eq,decide_eq_true_eq,decide_eq_false_iff_not,ne_eq] at *
     subst hV
     (repeat' split) <;> first | rfl | omega | (exfalso;simp_all;done) | (simp_all;done) | (exfalso;simp_all;omega))
  | skip
 all_goals
  have hV:V=if l.any outB=true∨till < fr then 7 else 0:=by
   simp only [strC_len,hwr,Bool.not_eq_false',Bool.not_not,bne_eq_false_iff_eq,decide_eq_false_iff_not,ne_eq] at *
   rw [hV]
   (repeat' split) <;> first | rfl | omega | (exfalso;simp_all;done) | (simp_all;done) | (exfalso;simp_all;omega)
  subst hl
  clear hkey hwr
  rename_i hV0 _ _
  refine Wp.while (fun m tm H => ∃ (i : Nat) (base : TM), i + m = 3 ∧ [ser, fr, till].any outB = ([ser, fr, till].drop i).any outB ∧ tm = ovr base [(1, .ptr 0 11 0 0), (6, .sl .full 1 [[.int .i64 ser], [.int .i64 fr], [.int .i64 till]]), (7, .int .i64 (i : Int))] ∧
    H=⟨[.cells 11 [[.str sub,.int .i64 k,.str nm,.int .i64 s,slV b 4 (cellsL kids),.bool iss,slV pn 1 (strC per),slV en 1 (strC exc),.int .i64 ser,.int .i64 fr,.int .i64 till]]],0,[],0⟩)
   (fun m tm H hI=> ?_) 3 _ _ ⟨0,_,by omega,rfl,ovr_mk ⟨rfl,rfl,rfl,trivial⟩,rfl⟩
  obtain ⟨i,base,hi,hgo,rfl,rfl⟩:=hI
  rw [hgo] at hV
  clear hV0
  rcases (show i=0∨i=1∨i=2∨i=3 by omega) with rfl | rfl | rfl | rfl
  all_goals
   repeat' first | refine κn ?_ | refine κk ?_ | refine κt ?_ | refine κb ?_ ?_ | refine κg ?_ | refine κa ?_ | refine κf ?_ | intro hb
  all_goals first
   | (exfalso;simp at hb;done)
   | (refine int_eq ?_
      rw [hV,if_pos]
      clear hV hgo
      simp [outB] at hb ⊢
      omega)
   | (refine int_eq ?_
      rw [hV,if_neg]
      clear hV hgo
      simp at hb ⊢
      omega)
   | (refine LoopI.go (m - 1) (by omega) ⟨1, _, by omega, ?_, ovr_mk ⟨rfl, rfl, rfl, trivial⟩, rfl⟩
      rw [hgo]
      have h7:outB ser=false:=by
       have h8:= ‹decide (ser < 0)=false›
       have h9:= ‹decide (9999 < ser)=false›
       simp only [outB,h8,h9,Bool.or_self]
      show (outB ser || _)=_
      rw [h7]
      rfl)
   | (refine LoopI.go (m - 1) (by omega) ⟨2, _, by omega, ?_, ovr_mk ⟨rfl, rfl, rfl, trivial⟩, rfl⟩
      rw [hgo]
      have h7:outB fr=false:=by
       have h8:= ‹decide (fr < 0)=false›
       have h9:= ‹decide (9999 < fr)=false›
       simp only [outB,h8,h9,Bool.or_self]
      show (outB fr || _)=_
      rw [h7]
      rfl)
   | (refine LoopI.go (m - 1) (by omega) ⟨3, _, by omega, ?_, ovr_mk ⟨rfl, rfl, rfl, trivial⟩, rfl⟩
      rw [hgo]
      have h7:outB till=false:=by
       have h8:= ‹decide (till < 0)=false›
       have h9:= ‹decide (9999 < till)=false›
       simp only [outB,h8,h9,Bool.or_self]
      show (outB till || _)=_
      rw [h7]
      rfl)
   | trace_state
end Go.Vm.Seat
namespace Go.Vm.Seat
open Go.Proofs
theorem c103 (nm:Bs) (s:Int):∀ H,CallOk E0 Tryz.prog 103 [.str nm,.int .i64 s] H (.agg (atomT nm s).cells) H:=by
 rw [atomT_cells]
 refine κw tOk fe103.ok rfl ?_
 repeat' first | refine κn ?_ | refine κg ?_ | refine κa ?_ | refine κf ?_ | fail
 all_goals rfl
theorem c42 (nm:Bs) (s:Int):∀ H,CallOk E0 Tryz.prog 42 [.str nm,.int .i64 s] H (.agg (atomT nm s).cells) H:=by
 rw [atomT_cells]
 refine κw tOk fe42.ok rfl ?_
 repeat' first | refine κn ?_ | refine κg ?_ | refine κa ?_ | refine κf ?_ | fail
 all_goals rfl
theorem c223 (nm:Bs):∀ H,CallOk E0 Tryz.prog 223 [.str nm] H (.agg (atomT nm 4).cells) H:=by
 have hc:=c42 nm 4
 rw [atomT_cells] at hc ⊢
 refine κw tOk fe223.ok rfl ?_
 repeat' first | refine κn ?_ | refine κc (hc _) ?_ | refine κg ?_ | refine κa ?_ | refine κf ?_ | fail
 all_goals rfl
theorem c257:∀ H,CallOk E0 Tryz.prog 257 [] H (.agg (atomT [101,110,100] 5).cells) H:=by
 have hc:=c42 [101,110,100] 5
 rw [atomT_cells] at hc ⊢
 refine κw tOk fe257.ok rfl ?_
 repeat' first | refine κn ?_ | refine κc (hc _) ?_ | refine κg ?_ | refine κa ?_ | refine κf ?_ | fail
 all_goals rfl
end Go.Vm.Seat
namespace Go.Vm.Seat
open Go.Proofs
theorem frzC_of {p q:PV} {n:Nat} {H:Heap} (h:frz1 p=some q):frzC n H p=some q:=by
 cases p <;> first | exact h | cases h
theorem c102 {l:List Tm} (hne:l≠ []) (hlen:l.length≤100000) (b:Bool):∀ H,CallOk E0 Tryz.prog 102 [slV b 4 (cellsL l)] H (.agg (tupT l).cells) H:=by
 have hpos:0 < l.length:=List.length_pos_iff.2 hne
 obtain ⟨z,hz⟩:∃ z,l[l.length - 1]? = some z:=⟨l[l.length - 1]'(by omega),by simp⟩
 have hz0:tupT (l.drop (l.length - 1))=z:=by
  rw [drop_cons hz,show l.length - 1+1=l.length by omega,List.drop_length]
  rfl
 have hw1:IntKind.i64.wrap (((cellsL l).length:Int) - 1)=((l.length - 1:Nat):Int):=by
  rw [cellsL_length,show (l.length:Int) - 1=((l.length - 1:Nat):Int) by omega]
  exact IntWalk.i64_in _ (by omega)
 have hw2:IntKind.i64.wrap (((cellsL l).length:Int) - 2)=(l.length:Int) - 2:=by
  rw [cellsL_length];exact IntWalk.i64_in _ (by omega)
 have hi0:aIndexAddr E0 22 (slV b 4 (cellsL l)) (.int .i64 (IntKind.i64.wrap (((cellsL l).length:Int) - 1)))=some (.fptr z.cells 0):=by rw [hw1];exact idxT hz
 have hfr:frz3 0 hNil (.agg (tupT l).cells)=some (.agg (tupT l).cells):=by
  generalize tupT l=t
  obtain ⟨k,nm,s,tb,kids⟩:=t
  exact frz3_tm _ _ _ _ _ _ _
 refine κw tOk fe102.ok hfr ?_
 obtain ⟨k,nm,s,tb,kids⟩:=z
 simp only [Tm.cells] at hi0
 repeat' first | refine κn ?_ | refine κJ ?_ | refine κl ?_ | refine κg ?_ | refine κa ?_ | fail
 refine Wp.while (fun m tm H => ∃ (base : TM) (k : Int) (nm : List UInt8) (s : Int) (kv : PV) (b' : Bool) (kids : List Tm), m + 1 ≤ l.length ∧ tupT (l.drop m) = .mk k nm s b' kids ∧ frz1 kv = some (slV b' 4 (cellsL kids)) ∧ cellOk kv = true ∧
   tm=ovr base [(0,slV b 4 (cellsL l)),(2,.ptr 0 4 0 0),(3,.ptr 1 4 0 0),(4,.int .i64 ((m:Int) - 1))]∧H=⟨[.cells 4 [[.int .i64 0,.str [],.int .i64 0,.nils]],.cells 4 [[.int .i64 k,.str nm,.int .i64 s,kv]]],0,[],0⟩)
  (fun m tm H hI=> ?_) (l.length - 1) _ _ ⟨_,k,nm,s,_,tb,kids,by omega,hz0,frz1_slV _ _ _,cellOk_slV _ _ _,ovr_mk ⟨rfl,rfl,rfl,int_eq (by rw [hw2];omega),trivial⟩,rfl⟩
 clear hi0 hw1 hw2 hz hz0 hfr
 obtain ⟨base,k,nm,s,kv,b',kids,hm,htup,hkv,hkc,rfl,rfl⟩:=hI
 have hco:[PV.int .i64 k,.str nm,.int .i64 s,kv].all cellOk=true:=by simp only [List.all_cons,List.all_nil,hkc];rfl
 have hfz:frzL [PV.int .i64 k,.str nm,.int .i64 s,kv]=some [.int .i64 k,.str nm,.int .i64 s,slV b' 4 (cellsL kids)]:=by simp only [frzL,hkv];rfl
 cases m with
 | zero =>
   repeat' first | refine κn ?_ | refine κt ?_ | refine κg ?_ | refine κa ?_ | refine κf ?_ | fail
   rw [show tupT l=tupT (l.drop 0) from rfl,htup]
   show frz3 _ _ (.agg _)=_
   rw [frz3_agg]
   simp only [frzCL,frzC_of hkv]
   rfl
 | succ m =>
   obtain ⟨a,ha⟩:∃ a,l[m]? = some a:=⟨l[m]'(by omega),by simp⟩
   have hnext:=tupT_drop ha hm
   have hi1:aIndexAddr E0 22 (slV b 4 (cellsL l)) (.int .i64 (((m+1:Nat):Int) - 1))=some (.fptr a.cells 0):=by
    rw [show ((m+1:Nat):Int) - 1=(m:Int) by omega];exact idxT ha
   obtain ⟨k',nm',s',b2,kids'⟩:=a
   simp only [Tm.cells] at hi1
   repeat' first | refine κn ?_ | refine κb ?_ ?_ | refine κg ?_ | refine κK ?_ | refine κh ?_ | refine κa ?_ | (apply Wp.drawS tOk follows;kernel_rfl;rfl) | refine κf ?_ | intro hb
   · apply dBsF
     · rfl
     · rfl
     · rfl
     · rfl
     · show frzLL [[.int .i64 k', .str nm', .int .i64 s', slV b2 4 (cellsL kids')], [.int .i64 k, .str nm, .int .i64 s, kv]] = some [[.int .i64 k', .str nm', .int .i64 s', slV b2 4 (cellsL kids')], [.int .i64 k, .str nm, .int .i64 s, slV b' 4 (cellsL kids)]]
       simp only [frzLL,hfz,frz_tm]
     · rfl
     repeat' first | refine κn ?_ | refine κg ?_ | refine κh ?_ | refine κa ?_ | fail
     refine LoopI.go m (by omega) ⟨_,3,[112,97,105,114],0,.sl .full 4 [[.int .i64 k',.str nm',.int .i64 s',slV b2 4 (cellsL kids')],[.int .i64 k,.str nm,.int .i64 s,slV b' 4 (cellsL kids)]],true,[.mk k' nm' s' b2 kids',.mk k nm s b' kids],by omega,by rw [hnext,htup];rfl,?_,rfl,ovr_mk ⟨rfl,rfl,rfl,int_eq ?_,trivial⟩,rfl⟩
     · rw [show slV true 4 (cellsL [Tm.mk k' nm' s' b2 kids', Tm.mk k nm s b' kids]) = .sl .none 4 [[.int .i64 k', .str nm', .int .i64 s', slV b2 4 (cellsL kids')], [.int .i64 k, .str nm, .int .i64 s, slV b' 4 (cellsL kids)]] from slV_cons _ _ _ _]
       rfl
     · rw [show ((m + 1 : Nat) : Int) - 1 - 1 = (m : Int) - 1 by omega]
       exact IntWalk.i64_in _ (by omega)
   · exfalso;simp at hb <;> omega
end Go.Vm.Seat
namespace Go.Vm.Seat
open Go.Proofs
theorem under_tm (n:Nat) (t:Tm):under n (.agg t.cells)=true:=by
 obtain ⟨k,nm,s,b,kids⟩:=t
 simp [Tm.cells,under,underL,under_slV]
theorem frz3_cells (m:Nat) (H:Heap) (t:Tm):frz3 m H (.agg t.cells)=some (.agg t.cells):=by
 obtain ⟨k,nm,s,b,kids⟩:=t
 exact frz3_tm _ _ _ _ _ _ _
theorem c185 {l:List Tm} {out:PV} {lv:List Nat} {nt:Nat} (hA:ApV true 4 (cellsL l) out lv nt) (hlen:l.length≤10000):∃ lv' nt',∀ bx,CallOk E0 Tryz.prog 185 [out] ⟨bx,0,lv,nt⟩ (.agg (tupT (l ++ [endT])).cells) ⟨bx,0,lv',nt'⟩:=by
 obtain ⟨out',lv',nt',hap,hA', -⟩:=hA.app apT_tm (.sl .full 4 (cellsL [endT])) (cellsL_cellOk _) (fits_of (by simp only [cellsL_length,List.length_cons,List.length_nil];omega) (by decide)) (noB_cellsL _)
 rw [← cellsL_append] at hA'
 rw [cellsL_mk1,show endT=atomT [101,110,100] 5 from rfl,atomT_cells] at hap
 refine ⟨lv',nt',fun bx=> ?_⟩
 have hc:∀ H,CallOk E0 Tryz.prog 102 [out'] H (.agg (tupT (l ++ [endT])).cells) H:=fun H=>callOk_lift (c102 (l:=l ++ [endT]) (by simp) (by simp;omega) true hNil) (by simp only [frzGL,hA'.frzG]) (frz3_cells _ _ _) H
 have hat:=c103 [101,110,100] 5
 rw [atomT_cells] at hat
 refine CallOk.free (bx':=[.cells 4 [(tupT (l ++ [endT])).cells]]) ?_ (by simp [underL,hA.under]) (under_tm _ _) bx
 generalize tupT (l ++ [endT])=t at hc ⊢
 obtain ⟨k,nm,s,b,kids⟩:=t
 simp only [Tm.cells] at hc ⊢
 refine callOk_wpE (own:=fun _=>false) tOk fe185.ok ?_
 refine Wp.seq ?_
 repeat' first | refine κn ?_ | refine κc (hat _) ?_ | refine κc (hc _) ?_ | refine κs ?_ | refine κA ?_ | refine κg ?_ | refine κa ?_ | fail
 exact RetE.ret rfl rfl rfl
theorem c104 {s:Bs} (hs:s.length≤100000) (hd:dottedB s=true):∀ H,CallOk E0 Tryz.prog 104 [.str s] H (.agg (nameT s).cells) H:=by
 have hc:=c113 hs
 unfold labelsR at hc
 rw [hd] at hc
 have h4:(splitD s).length≤4:=by
  unfold dottedB at hd
  simp only [Bool.and_eq_true,decide_eq_true_eq] at hd
  exact hd.1
 unfold nameT
 generalize splitD s=l at hc h4 ⊢
 have hc:∀ H,CallOk E0 Tryz.prog 113 [.str s] H (.sl .none 1 (partsC l)) H:=hc
 have hpl:(partsC l).length=l.length:=by simp [partsC]
 refine κw tOk fe104.ok (frz3_cells _ _ _) ?_
 repeat' first | refine κn ?_ | refine κc (hc _) ?_ | refine κg ?_ | refine κa ?_ | fail
 refine Wp.while (fun m tm H => ∃ (i : Nat) (base : TM) (out : PV) (lv : List Nat) (nt : Nat), i + m = l.length ∧ ApV true 4 (cellsL ((l.take i).map fun x => atomT x 4)) out lv nt ∧
   tm=ovr base [(2,.ptr 0 4 0 0),(3,out),(7,.sl .none 1 (partsC l)),(8,.int .i64 (l.length:Int)),(9,.int .i64 (i:Int))]∧H=⟨[.cells 4 [[.int .i64 0,.str [],.int .i64 0,.nils]]],0,lv,nt⟩)
  (fun m tm H hI=> ?_) l.length _ _ ⟨0,_,_,_,_,by omega,.nil _ _ rfl,ovr_mk ⟨rfl,rfl,rfl,int_eq (by rw [← hpl];rfl),rfl,trivial⟩,rfl⟩
 obtain ⟨i,base,out,lv,nt,hi,hA,rfl,rfl⟩:=hI
 by_cases hlt:i < l.length
 · obtain ⟨x, hx⟩ : ∃ x, l[i]? = some x := ⟨l[i], by simp⟩
   have hia:=idxP hx
   have hat:=c103 x 4
   have hlen1:((l.take i).map fun x=>atomT x 4).length≤4:=by rw [List.length_map,List.length_take];omega
   obtain ⟨out',lv',nt',hap,hA', -⟩:=hA.app apT_tm (.sl .full 4 (cellsL [atomT x 4])) (cellsL_cellOk _) (fits_of (by simp only [cellsL_length,List.length_cons,List.length_nil];omega) (by decide)) (noB_cellsL _)
   rw [← cellsL_append] at hA'
   have hs:((l.take i).map fun x=>atomT x 4) ++ [atomT x 4]=(l.take (i+1)).map fun x=>atomT x 4:=by simp [List.take_add_one,hx]
   rw [hs] at hA'
   rw [cellsL_mk1,atomT_cells] at hap
   rw [atomT_cells] at hat
   repeat' first | refine κn ?_ | refine κc (hat _) ?_ | refine κs ?_ | refine κA ?_ | refine κJ ?_ | refine κz ?_ ?_ | refine κg ?_ | refine κa ?_ | intro hb
   · exact LoopI.go (m - 1) (by omega) ⟨i+1,_,out',lv',nt',by omega,hA',ovr_mk ⟨rfl,rfl,rfl,rfl,int_eq (wrap_nat (n:=i+1) (by omega)),trivial⟩,rfl⟩
   · exfalso;simp at hb;omega
 · have e : i = l.length := by omega
   subst e
   rw [List.take_length] at hA
   obtain ⟨lv',nt',he⟩:=c185 hA (by rw [List.length_map];omega)
   generalize tupT ((l.map fun x=>atomT x 4) ++ [endT])=t at he ⊢
   obtain ⟨k',nm',s',b',kids'⟩:=t
   simp only [Tm.cells] at he ⊢
   repeat' first | refine κn ?_ | refine κc (he _) ?_ | refine κz ?_ ?_ | refine κg ?_ | refine κa ?_ | refine κf ?_ | intro hb
   · exfalso;simp at hb
   · exact frz3_tm _ _ _ _ _ _ _
theorem c105 {l:List Bs} (hs:∀ s,s∈l→s.length≤100000) (hd:∀ s,s∈l→dottedB s=true) (hlen:l.length≤1000) (b:Bool):∀ H,CallOk E0 Tryz.prog 105 [slV b 1 (strC l)] H (.agg (namesT l).cells) H:=by
 unfold namesT
 refine κw tOk fe105.ok (frz3_cells _ _ _) ?_
 repeat' first | refine κn ?_ | refine κl ?_ | refine κg ?_ | refine κa ?_ | fail
 refine Wp.while (fun m tm H => ∃ (i : Nat) (base : TM) (out : PV) (lv : List Nat) (nt : Nat), i + m = l.length ∧ ApV true 4 (cellsL ((l.take i).map nameT)) out lv nt ∧
   tm=ovr base [(2,.ptr 0 4 0 0),(3,out),(6,slV b 1 (strC l)),(7,.int .i64 (l.length:Int)),(8,.int .i64 (i:Int))]∧H=⟨[.cells 4 [[.int .i64 0,.str [],.int .i64 0,.nils]]],0,lv,nt⟩)
  (fun m tm H hI=> ?_) l.length _ _ ⟨0,_,_,_,_,by omega,.nil _ _ rfl,ovr_mk ⟨rfl,rfl,rfl,int_eq (by rw [strC_len]),rfl,trivial⟩,rfl⟩
 obtain ⟨i,base,out,lv,nt,hi,hA,rfl,rfl⟩:=hI
 by_cases hlt:i < l.length
 · obtain ⟨x, hx⟩ : ∃ x, l[i]? = some x := ⟨l[i], by simp⟩
   have hj:=strC_get hx
   have hat:=c104 (hs x (List.mem_of_getElem? hx)) (hd x (List.mem_of_getElem? hx))
   have hlen1:((l.take i).map nameT).length≤1000:=by rw [List.length_map,List.length_take];omega
   obtain ⟨out',lv',nt',hap,hA', -⟩:=hA.app apT_tm (.sl .full 4 (cellsL [nameT x])) (cellsL_cellOk _) (fits_of (by simp only [cellsL_length,List.length_cons,List.length_nil];omega) (by decide)) (noB_cellsL _)
   rw [← cellsL_append] at hA'
   have hs:(l.take i).map nameT ++ [nameT x]=(l.take (i+1)).map nameT:=by simp [List.take_add_one,hx]
   rw [hs] at hA'
   rw [cellsL_mk1] at hap
   generalize nameT x=t at hap hat
   obtain ⟨k',nm',s',b',kids'⟩:=t
   simp only [Tm.cells] at hat hap
   repeat' first | refine κn ?_ | refine κc (hat _) ?_ | refine κs ?_ | refine κA ?_ | refine κx ?_ | refine κz ?_ ?_ | refine κg ?_ | refine κa ?_ | intro hb
   · exact LoopI.go (m - 1) (by omega) ⟨i+1,_,out',lv',nt',by omega,hA',ovr_mk ⟨rfl,rfl,rfl,rfl,int_eq (wrap_nat (n:=i+1) (by omega)),trivial⟩,rfl⟩
   · exfalso;simp at hb;omega
 · have e : i = l.length := by omega
   subst e
   rw [List.take_length] at hA
   obtain ⟨lv',nt',he⟩:=c185 hA (by rw [List.length_map];omega)
   generalize tupT (l.map nameT ++ [endT])=t at he ⊢
   obtain ⟨k',nm',s',b',kids'⟩:=t
   simp only [Tm.cells] at he ⊢
   repeat' first | refine κn ?_ | refine κc (he _) ?_ | refine κz ?_ ?_ | refine κg ?_ | refine κa ?_ | refine κf ?_ | intro hb
   · exfalso;simp at hb
   · exact frz3_tm _ _ _ _ _ _ _
end Go.Vm.Seat
