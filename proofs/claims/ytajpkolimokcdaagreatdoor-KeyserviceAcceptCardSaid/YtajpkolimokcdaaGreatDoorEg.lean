/-
  CredentialReads: the law's function returns true at any term. The key of a name in a log: keyservice.Current, and the reference's. The ledger of the program: copies, heads, the reading of proofs.
-/
import Derived.Test.YtajpkolimokcdaaGreatDoorDd
import Derived.Test.YtajpkolimokcdaaGreatDoorAw55
import Derived.Test.YtajpkolimokcdaaGreatDoorFi
set_option maxHeartbeats 64000000
set_option maxRecDepth 100000
namespace Go.Vm.Seat
open Go.Proofs
theorem c16 {t : Tm} (ht : t.Ok) (hsz : t.size ≤ 40000) : ∀ H, CallOk E0 Tryz.prog 16 [.agg t.cells] H (.tup [.agg (readP t).1.cells, .int .i64 (readP t).2]) H := by
 by_cases h : t.valid ≠ 0 ∨ t.isB [115, 105, 103, 110] 2 = false
 · exact read_bad ht hsz h
 · have h1 : t.valid = 0 := by
     by_cases e : t.valid = 0
     · exact e
     · exact absurd (.inl e) h
   have h2 : t.isB [115, 105, 103, 110] 2 = true := by
    cases e : t.isB [115, 105, 103, 110] 2 with
    | true => rfl
    | false => exact absurd (.inr e) h
   obtain ⟨s, b, u, key, rfl⟩ := sign_isB h2
   exact read_good ht h1
theorem c18 {t : Tm} (ht : t.Ok) (hsz : t.size ≤ 40000) : ∀ H, CallOk E0 Tryz.prog 18 [.agg t.cells] H (.tup [.agg (readP t).1.cells, .int .i64 (readP t).2]) H := by
 rw [read_same]
 by_cases h : t.valid ≠ 0 ∨ t.isB [115, 105, 103, 110] 2 = false
 · exact readR_bad ht hsz h
 · have h1 : t.valid = 0 := by
     by_cases e : t.valid = 0
     · exact e
     · exact absurd (.inl e) h
   have h2 : t.isB [115, 105, 103, 110] 2 = true := by
    cases e : t.isB [115, 105, 103, 110] 2 with
    | true => rfl
    | false => exact absurd (.inr e) h
   obtain ⟨s, b, u, key, rfl⟩ := sign_isB h2
   exact readR_good ht h1
theorem cells11 (x : Cred) : ∃ a b c d e f g h i j k, x.cells = [a, b, c, d, e, f, g, h, i, j, k] := by
 obtain ⟨sub, ⟨k, nm, s, b, kids⟩, iss, pn, per, en, exc, ser, fr, till⟩ := x
 exact ⟨_, _, _, _, _, _, _, _, _, _, _, rfl⟩
theorem c4 {t : Tm} (ht : t.Ok) : ∀ H, CallOk E0 Tryz.prog 4 [.agg t.cells] H (.bool true) H := by
 have haw : ∀ H, CallOk E0 Tryz.prog 8 [] H (.bool true) H := awakeOk5
 have c1 := c10 ht
 cases hF : fewF [t] 1 450 with
 | false =>
   rw [hF] at c1
   obtain ⟨k, nm, s, b, kids⟩ := t
   simp only [Tm.cells] at c1
   refine κw tOk fe4.ok rfl ?_
   repeat' first | refine κn ?_ | refine κc (haw _) ?_ | refine κc (c1 _) ?_ | refine κt ?_ | refine κg ?_ | refine κa ?_ | refine κf ?_ | fail
   all_goals rfl
 | true =>
   rw [hF] at c1
   have hsz := few_size hF
   have hsz : t.size ≤ 450 := by omega
   have c2 := c16 ht (by omega)
   have c3 := c18 ht (by omega)
   have hx0 : (readP t).1 = .zero ∨ (readP t).1.valid = 0 := by
    rcases readP_case t with e | e
    · left; rw [e]
    · right; exact e.2.1
   obtain ⟨x1, x2, x3, x4, x5⟩ := cred_small hx0
   have hkey : (readP t).1.key.Ok ∧ (readP t).1.key.size ≤ 450 := by
    rcases readP_case t with e | ⟨_, _, e, _⟩
    · rw [e]; exact ⟨Tm.ok_zero, by decide⟩
    · exact ⟨ht.part e, by have := e.1; omega⟩
   have c4 := cred_same (readP t).1 (k' := (readP t).1.key) (readP t).1.pn (readP t).1.en hkey.1 hkey.1 (by omega) (by omega) (cmp_of_cl _ _ rfl) (by omega) (by omega)
   have c4 : ∀ H, CallOk E0 Tryz.prog 17 [.agg (readP t).1.cells, .agg (readP t).1.cells] H (.bool true) H := c4
   have hxf : ∃ a b c d e f g h i j k, (readP t).1.cells = [a, b, c, d, e, f, g, h, i, j, k] := cells11 _
   have hxc := fun (w : Bool) => frz2_cred 0 hNil (readP t).1
   by_cases he : (readP t).2 = 0
   · have hcase := readP_case t
     rcases hcase with e | ⟨_, hval, hkw, s, b, u, key, rfl, i1, i2⟩
     · rw [e] at he; exact absurd he (by decide)
     have c5 := c11 (readP (.mk 3 [115, 105, 103, 110] s b [u, key])).1 (key := key) (by omega) (fun s hs => by have := x2 s hs; omega) (fun s hs => by have := x3 s hs; omega) (by omega) (by omega) hkey.1 (by omega) (ht.kid (by simp)) (by have := (within_kid (k := 3) (nm := [115, 105, 103, 110]) (s := s) (b := b) (l := [u, key]) (x := key) (by simp)).1; omega)
     have hsm := issue_small (x := (readP (.mk 3 [115, 105, 103, 110] s b [u, key])).1) (key := key) hkey.1 (ht.kid (by simp))
     have c6 := c13 ht hsm.1 (by omega) (by have := (within_kid (k := 3) (nm := [115, 105, 103, 110]) (s := s) (b := b) (l := [u, key]) (x := key) (by simp)).1; omega)
     rw [decide_eq_true (cmp_symm.1 i2)] at c6
     rw [he] at c2 c3
     rw [i1] at c5
     have hj1 : (cellsL [u, key])[1]? = some key.cells := rfl
     generalize ((readP (.mk 3 [115, 105, 103, 110] s b [u, key])).1.issue key).1 = I at c5 c6
     generalize (readP (.mk 3 [115, 105, 103, 110] s b [u, key])).1 = X at c2 c3 c4 c5
     clear x1 x2 x3 x4 x5 hkey hx0 hxf hxc hval hkw i1 i2 hsm he hsz hF
     simp only [Tm.cells] at c1 c2 c3 c6 ⊢
     generalize cellsL [u, key] = L at c1 c2 c3 c6 hj1 ⊢
     obtain ⟨k1, m1, s1, t1, q1⟩ := key
     obtain ⟨k2, m2, s2, t2, q2⟩ := I
     obtain ⟨sub, ⟨k4, m4, s4, b4, q4⟩, iss, pn, per, en, exc, ser, fr, till⟩ := X
     simp only [Cred.cells, Tm.cells, List.cons_append, List.nil_append] at c2 c3 c4 c5 c6 hj1
     have hco : [slV b4 4 (cellsL q4), slV pn 1 (strC per), slV en 1 (strC exc)].all cellOk = true := by simp only [List.all_cons, List.all_nil, cellOk_slV, Bool.and_self]
     refine callOk_wp (own := (fun d => [30010].any (Nat.beq d))) tOk fe4.ok (by simp only [frzGL, frzG, frzL, frz1_slV]; rfl) rfl ?_
     refine Wp.seq ?_
     repeat' first | refine κn ?_ | (apply qCl; rfl; rfl; rfl; rfl; first | exact haw _ | exact c1 _ | exact c2 _ | exact c3 _ | exact c4 _ | exact c6 _) | refine κt ?_ | refine κg ?_ | refine κd (c5 _) ?_ | (apply dAl; rfl; rfl; rfl; rfl; exact IsV.ptrM; exact IsH.mkN) | refine κI ?_ | refine κh ?_ | refine κa ?_ | (apply dWB tOk follows; rfl; kernel_rfl; rfl; exact IsH.mkN) | refine κf ?_ | fail
     all_goals rfl
   · have he2 := he
     generalize (readP t).2 = e at c2 c3 he2
     generalize (readP t).1 = X at c2 c3 c4
     clear x1 x2 x3 x4 x5 hkey hx0 hxf hxc he hsz hF
     have b1 : aBin E0 .neq 33 (.int .i64 e) (.int .i64 e) = some (.bool false) := by
      show some (PV.bool (e != e)) = _
      simp
     have b2 : aBin E0 .neq 33 (.int .i64 e) (.int .i64 0) = some (.bool true) := by
      show some (PV.bool (e != 0)) = _
      simp [he2]
     have b3 : aBin E0 .eql 33 (.int .i64 e) (.int .i64 e) = some (.bool true) := by
      show some (PV.bool (e == e)) = _
      simp
     obtain ⟨k, nm, s, b, kids⟩ := t
     obtain ⟨sub, ⟨k4, m4, s4, b4, q4⟩, iss, pn, per, en, exc, ser, fr, till⟩ := X
     simp only [Cred.cells, Tm.cells, List.cons_append, List.nil_append] at c1 c2 c3 c4
     refine κw tOk fe4.ok rfl ?_
     repeat' first | refine κn ?_ | (apply qCl; rfl; rfl; rfl; rfl; first | exact haw _ | exact c1 _ | exact c2 _ | exact c3 _ | exact c4 _) | refine κi ?_ | refine κt ?_ | refine κg ?_ | refine κa ?_ | refine κf ?_ | fail
     all_goals rfl
end Go.Vm.Seat
namespace Go.Vm.Seat
open Go.Proofs
def lookR (name : Bs) : List Tm → Option (Tm × Int)
 | [] => none
 | t :: r => if (readP t).2 = 0 ∧ (readP t).1.sub = name then some ((readP t).1.key, (readP t).1.till) else lookR name r
def curP (l : List Tm) (name : Bs) : Tm × Int :=
 if 32 < l.length then (.zero, 3) else if dottedB name = false then (.zero, 2) else match lookR name l.reverse with
  | none => (.zero, 4)
  | some (k, e) => if e = 0 then (.zero, 4) else (k, 0)
def curC (l : List Tm) (name : Bs) : Tm × Int := ((curP l name).1.cl, (curP l name).2)
theorem within_same {s : Bs} (hs : s.length ≤ 100000) : ∀ H, CallOk E0 Tryz.prog 39 [.str s, .str s] H (.bool (dottedB s)) H := by
 have hc := c50 hs
 have hb1 : aBin E0 .eql 9 (.str s) (.str s) = some (.bool true) := by
  show some (PV.bool (s == s)) = _
  simp
 generalize dottedB s = d at hc ⊢
 refine κw tOk fe39.ok rfl ?_
 cases d with
 | false =>
   repeat' first | refine κn ?_ | refine κk ?_ | refine κc (hc _) ?_ | refine κt ?_ | refine κg ?_ | refine κa ?_ | refine κf ?_ | fail
   all_goals rfl
 | true =>
   repeat' first | refine κn ?_ | refine κk ?_ | refine κc (hc _) ?_ | refine κi ?_ | refine κt ?_ | refine κg ?_ | refine κa ?_ | refine κf ?_ | fail
   all_goals rfl
theorem c139 {t : Tm} (ht : t.Ok) (hs : t.size ≤ 100000) : ∀ H, CallOk E0 Tryz.prog 139 [.agg t.cells, .nils] H (.tup [.agg t.cl.cells, .int .i64 0]) H := by
 have hc := c199 ht hs
 have hfr := frz3_te 0 hNil t.cl 0
 generalize t.cl = u at hc hfr ⊢
 obtain ⟨k, nm, s, b, kids⟩ := t
 obtain ⟨k', nm', s', b', kids'⟩ := u
 simp only [Tm.cells] at hc hfr ⊢
 refine κw tOk fe139.ok hfr ?_
 repeat' first | refine κn ?_ | refine κg ?_ | refine κa ?_ | fail
 refine Wp.while (fun m tm H => ∃ base : TM, tm = ovr base [(2, .ptr 0 4 0 0), (4, .ptr 1 4 0 0), (9, .int .i64 0), (10, .int .i64 0)] ∧ H = ⟨[.cells 4 [[.int .i64 k, .str nm, .int .i64 s, slV b 4 (cellsL kids)]], .cells 4 [[.int .i64 0, .str [], .int .i64 0, .nils]]], 0, [], 0⟩)
  (fun m tm H hI => ?_) 0 _ _ ⟨_, ovr_mk ⟨rfl, rfl, rfl, rfl, trivial⟩, rfl⟩
 obtain ⟨base, rfl, rfl⟩ := hI
 repeat' first | refine κn ?_ | refine κc (hc _) ?_ | (apply qF (ty := 0); rfl; rfl; rfl) | refine κg ?_ | refine κa ?_ | refine κf ?_ | fail
 all_goals exact frz3_te _ _ (.mk k' nm' s' b' kids') 0
theorem c71 {t : Tm} (ht : t.Ok) (hs : t.size ≤ 100000) : ∀ H, CallOk E0 Tryz.prog 71 [.agg t.cells] H (.agg t.cl.cells) H := by
 have hc := c139 ht hs
 generalize t.cl = u at hc ⊢
 obtain ⟨k, nm, s, b, kids⟩ := t
 obtain ⟨k', nm', s', b', kids'⟩ := u
 simp only [Tm.cells] at hc ⊢
 refine κw tOk fe71.ok (frz3_tm _ _ _ _ _ _ _) ?_
 repeat' first | refine κn ?_ | refine κc (hc _) ?_ | refine κg ?_ | refine κa ?_ | refine κf ?_ | fail
 all_goals exact frz3_tm _ _ _ _ _ _ _
end Go.Vm.Seat
namespace Go.Vm.Seat
open Go.Proofs
theorem c144 {t : Tm} (ht : t.Ok) : t.size ≤ 100000 → ∀ H, CallOk E0 Tryz.prog 144 [.agg t.cells] H (.agg t.cl.cells) H := by
 induction ht with
 | @mk k nm s b kids hk hs hn hl hok ih =>
 intro hsz
 simp only [Tm.size] at hsz
 have hkl : kids.length ≤ sizeL kids := by
  rw [← allL_len]
  have : ∀ l : List Tm, l.length ≤ (allL l).length := by
   intro l
   induction l with
   | nil => simp
   | cons a r ih =>
     have := a.all_len
     have := size_pos a
     simp only [allL, List.length_append, List.length_cons]
     omega
  exact this kids
 simp only [Tm.cl, Tm.cells]
 refine κw tOk fe144.ok (frz3_tm _ _ _ _ _ _ _) ?_
 repeat' first | refine κn ?_ | refine κl ?_ | refine κg ?_ | refine κa ?_ | fail
 refine Wp.while (fun m tm H => ∃ (i : Nat) (base : TM) (out : PV) (lv : List Nat) (nt : Nat), i + m = kids.length ∧ ApV true 4 (cellsL (clL (kids.take i))) out lv nt ∧
   tm = ovr base [(2, .ptr 1 4 0 0), (3, .ptr 2 4 0 0), (9, slV b 4 (cellsL kids)), (10, .int .i64 (kids.length : Int)), (11, .int .i64 (i : Int))] ∧ H = ⟨[.cells 4 [[.int .i64 k, .str nm, .int .i64 s, slV b 4 (cellsL kids)]], .cells 4 [[.int .i64 0, .str [], .int .i64 0, .nils]], .cells 4 [[.int .i64 k, .str nm, .int .i64 s, out]]], 0, lv, nt⟩)
  (fun m tm H hI => Wp.drop ?_) kids.length _ _ ⟨0, _, _, _, _, by omega, .nil _ _ rfl, ovr_mk ⟨rfl, rfl, rfl, int_eq (by rw [cellsL_length]), rfl, trivial⟩, rfl⟩
 obtain ⟨i, base, out, lv, nt, hi, hA, rfl, rfl⟩ := hI
 by_cases hlt : i < kids.length
 · obtain ⟨t', ht'⟩ : ∃ t', kids[i]? = some t' := ⟨kids[i], by simp⟩
   have hm : t' ∈ kids := List.mem_of_getElem? ht'
   have hle := size_le hm
   have hs := clL_snoc ht'
   have hc := ih t' hm (by omega)
   have hlen1 : (clL (kids.take i)).length ≤ kids.length := by
    rw [cl_len, List.length_take]; omega
   obtain ⟨out', lv', nt', hap, hA', -⟩ := hA.app apT_tm (.sl .full 4 (cellsL [t'.cl])) (cellsL_cellOk _) (fits_of (by simp only [cellsL_length, List.length_cons, List.length_nil]; omega) (by decide)) (noB_cellsL _)
   rw [← cellsL_append, ← hs] at hA'
   obtain ⟨kc, nc, sc, bc, lc, ec⟩ : ∃ kc nc sc bc lc, t'.cl = .mk kc nc sc bc lc := by
    obtain ⟨k', nm', s', b', kids'⟩ := t'
    exact ⟨_, _, _, _, _, rfl⟩
   rw [ec] at hc hap
   rw [cells_one] at hap
   obtain ⟨kt, rfl⟩ := apV_tok hA' (by rw [hs, cellsL_append, cellsL_mk1]; simp)
   obtain ⟨k', nm', s', b', kids'⟩ := t'
   have hj := cellsL_get ht'
   repeat' first | refine κn ?_ | refine κx ?_ | refine κz ?_ ?_ | refine κg ?_ | refine κd (hc _) ?_ | refine κB ?_ | (apply dAp; rfl; rfl; rfl; rfl; rfl; (first | assumption | solve_by_elim); rfl) | refine κh ?_ | refine κa ?_ | (apply Wp.drawS tOk follows; kernel_rfl; rfl) | intro hb
   · exact DropQ.go [(2, .ptr 1 4 0 0), (3, .ptr 2 4 0 0), (9, slV b 4 (cellsL kids)), (10, .int .i64 (kids.length : Int)), (11, .int .i64 ((i + 1 : Nat) : Int))] ⟨rfl, rfl, rfl, rfl, int_eq (wrap_nat (n := i + 1) (by omega)), trivial⟩
       (by simp [under_slV, under]) rfl (by simp [boxU, underL, under, under_slV]) (LoopI.go (m - 1) (by omega) ⟨i + 1, _, _, lv', nt', by omega, hA', rfl, rfl⟩)
   · exfalso; simp at hb; omega
 · have e : i = kids.length := by omega
   subst e
   rw [List.take_length] at hA
   have hco := apV_cells hA k nm s
   repeat' first | refine κn ?_ | refine κz ?_ ?_ | refine κg ?_ | refine κa ?_ | refine κf ?_ | intro hb
   · exfalso; simp at hb
   · exact apV_tm hA _ _ _ _ _
end Go.Vm.Seat
