/-
  The operations that compute, on: addresses, indexes, slices, arithmetic, texts.
-/
import Derived.Test.YthkpihmifojnoaaGreatDoorVmD
import Derived.Lib.Strings
namespace Go.Vm
section
variable {E : Env} {P : Program} {g : Gh} {H : Heap} {w : World}

theorem fieldAddr_ok (hE : TOk E P) {t : TypeId} {p : PV} {a : Value} (hp : V g p a) {f : Nat} {q : PV} (h : aFieldAddr E t p f = some q) :
    ∃ v, (Instr.fieldAt t a f).run P w = .ok v w ∧ V g q v := by
  unfold aFieldAddr at h
  split at h
  · rename_i ti ht
    obtain ⟨i, d, z, h1, h2, h3, rfl⟩ := hE.spec ht
    simp only at h
    split at h
    · rename_i fs hfs
      obtain ⟨fa, rfl, rfl⟩ := tk_struct hfs
      rw [nth_eq] at h
      split at h
      · rename_i o ft hf
        split at h
        · rename_i fi hfi
          obtain ⟨i', d', z', h1', h2', h3', rfl⟩ := hE.spec hfi
          simp only at h
          split at h
          · cases h
          · rename_i hsz
            obtain ⟨fld, hfld, e⟩ : ∃ fld, fa[f]? = some fld ∧ (fld.offset, fld.type) = (o, ft) := by
              simpa using hf
            cases e
            split at h
            · cases h
              obtain ⟨b, hσ, rfl⟩ := hp.ptr_inv
              refine ⟨.pointer (some ⟨b, _, none⟩), ?_, .ptr _ _ _ _ b hσ⟩
              simp [Instr.fieldAt, run_underlying h2, hfld, Instr.sureAddr, fieldPlace, run_sizeOf' h1', hsz, add_plain', Nat.add_assoc]
            · rename_i cs off
              cases h
              obtain ⟨b, o', vals, e2, e3, rfl⟩ := hp.fptr_inv
              refine ⟨.pointer (some ⟨b, o' + (off + fld.offset), none⟩), ?_, .pure _ _ (.fptr _ _ b o' vals e2 e3)⟩
              simp [Instr.fieldAt, run_underlying h2, hfld, Instr.sureAddr, fieldPlace, run_sizeOf' h1', hsz, add_plain', Nat.add_assoc]
            · cases h
        · cases h
      · cases h
    · cases h
  · cases h

theorem nat_inv {p : PV} {n : Nat} (h : nat? p = some n) : ∃ k, p = .int k (.ofNat n) := by
  unfold nat? at h
  split at h
  · cases h; exact ⟨_, rfl⟩
  · cases h

theorem get_lt {α : Type} {l : List α} {n : Nat} {a : α} (h : l[n]? = some a) : n < l.length := by
  rcases Nat.lt_or_ge n l.length with h' | h'
  · exact h'
  · simp [List.getElem?_eq_none h'] at h

theorem get_eq {α : Type} {l : List α} {n : Nat} {a : α} (h : l[n]? = some a) : l[n]'(get_lt h) = a := by
  simpa [List.getElem?_eq_getElem (get_lt h)] using h

theorem indexAddr_ok (hE : TOk E P) {t : TypeId} {p x : PV} {a i : Value} (hp : V g p a) (hx : V g x i) {q : PV} (h : aIndexAddr E t p x = some q) :
    ∃ v, (Instr.indexAt t a i).run P w = .ok v w ∧ V g q v := by
  unfold aIndexAddr at h
  split at h
  · rename_i ti n ht hn
    obtain ⟨i0, d, z, h1, h2, h3, rfl⟩ := hE.spec ht
    obtain ⟨k, rfl⟩ := nat_inv hn
    obtain rfl := hx.int_inv
    simp only at h
    split at h
    · rename_i e tl es el hd
      have hd := tk_slice hd
      subst hd
      split at h
      · rename_i ei hei
        obtain ⟨i', d', z', h1', h2', h3', rfl⟩ := hE.spec hei
        simp only at h
        split at h
        · rename_i hes
          rw [nth_eq] at h
          split at h
          · rename_i cs hcs
            cases h
            obtain ⟨b, o, cap, vals, a, rfl, hc, hw, hs, hv, -, ha⟩ := hp.sl_inv
            have hlt := get_lt hcs
            obtain rfl := ha (.inl (by omega))
            have hcl : cs.length = es := by have := hw n hlt; rwa [get_eq hcs] at this
            refine ⟨.pointer (some ⟨b, o + n * es, none⟩), ?_, .pure _ _ (.fptr cs 0 b (o + n * es) (vals n) (fun j hj => hs n j hlt (by omega)) fun j hj => ?_)⟩
            · have h0 : (0 : Int) ≤ Int.ofNat n ∧ Int.ofNat n < (el.length : Int) := ⟨Int.natCast_nonneg n, by simpa using hlt⟩
              simp [Instr.indexAt, asIntOf, run_underlying h2, hlt, run_sizeOf' h1', hes, add_plain']
            · have := hv n hlt j (by rw [get_eq hcs]; exact hj)
              simpa [get_eq hcs] using this
          · cases h
        · cases h
      · cases h
    · rename_i e id es ix len hd
      have hd := tk_slice hd
      subst hd
      split at h
      · rename_i ei hei
        obtain ⟨i', d', z', h1', h2', h3', rfl⟩ := hE.spec hei
        simp only at h
        split at h
        · rename_i hes
          split at h
          · rename_i hlt
            cases h
            obtain ⟨b, cap, a, hσ, hc, ha, hsp, rfl⟩ := hp.own_inv
            have := ha (by omega)
            subst this
            refine ⟨.pointer (some ⟨b, (ix + n) * es + 0, none⟩), ?_, .ptr _ _ _ _ b hσ⟩
            simp [Instr.indexAt, asIntOf, run_underlying h2, hlt, run_sizeOf' h1', hes, add_plain', Nat.add_mul]
          · cases h
        · cases h
      · cases h
    · rename_i len e id es ix off hd
      have hd := tk_array hd
      subst hd
      split at h
      · rename_i ei hei
        obtain ⟨i', d', z', h1', h2', h3', rfl⟩ := hE.spec hei
        simp only at h
        split at h
        · rename_i hlt
          cases h
          obtain ⟨b, hσ, rfl⟩ := hp.ptr_inv
          refine ⟨.pointer (some ⟨b, ix * es + (off + n * i'.size), none⟩), ?_, .ptr _ _ _ _ b hσ⟩
          simp [Instr.indexAt, asIntOf, run_underlying h2, Instr.sureAddr, hlt, run_sizeOf' h1', add_plain', Nat.add_assoc]
        · cases h
      · cases h
    · rename_i len e cs off hd
      have hd := tk_array hd
      subst hd
      split at h
      · rename_i ei hei
        obtain ⟨i', d', z', h1', h2', h3', rfl⟩ := hE.spec hei
        simp only at h
        split at h
        · rename_i hlt
          cases h
          obtain ⟨b, o', vals, e2, e3, rfl⟩ := hp.fptr_inv
          refine ⟨.pointer (some ⟨b, o' + (off + n * i'.size), none⟩), ?_, .pure _ _ (.fptr _ _ b o' vals e2 e3)⟩
          simp [Instr.indexAt, asIntOf, run_underlying h2, Instr.sureAddr, hlt, run_sizeOf' h1', add_plain', Nat.add_assoc]
        · cases h
      · cases h
    · cases h
  · cases h

theorem part_ok (hE : TOk E P) {t : TypeId} {cs : List PV} {vs : Array Value} (hl : vs.size = cs.length) (hv : ∀ i (hi : i < cs.length), V g (cs[i]) (vs[i]'(by omega))) {off : Nat} {q : PV} (h : aPart E t cs off = some q) :
    ∃ v, (part t vs off).run P w = .ok v w ∧ V g q v := by
  unfold aPart at h
  split at h
  · rename_i ti ht
    obtain ⟨i, d, z, h1, h2, h3, rfl⟩ := hE.spec ht
    simp only at h
    split at h
    · rename_i hA
      split at h
      · rename_i hle
        cases h
        refine ⟨.agg (vs.extract off (off + i.size)), ?_, .agg _ _ (by simp; omega) fun j hj => ?_⟩
        · simp [part, run_isAgg' h2, hA, run_sizeOf' h1]
        · have hj' : j < i.size := by simp at hj; omega
          have := hv (off + j) (by omega)
          simpa using this
      · cases h
    · rename_i hA
      rw [nth_eq] at h
      have hlt := get_lt h
      have hv' := hv off hlt
      rw [get_eq h] at hv'
      have hsz : off < vs.size := by omega
      exact ⟨_, by simp [part, run_isAgg' h2, hA, hsz], hv'⟩
  · cases h

theorem field_ok (hE : TOk E P) {t : TypeId} {p : PV} {a : Value} (hp : V g p a) {f : Nat} {q : PV} (h : aField E t p f = some q) :
    ∃ v, (Instr.field t a f).run P w = .ok v w ∧ V g q v := by
  unfold aField at h
  split at h
  · rename_i ti cs ht
    obtain ⟨i, d, z, h1, h2, h3, rfl⟩ := hE.spec ht
    simp only at h
    split at h
    · rename_i fs hfs
      obtain ⟨fa, rfl, rfl⟩ := tk_struct hfs
      rw [nth_eq] at h
      split at h
      · rename_i o ft hf
        obtain ⟨fld, hfld, e⟩ : ∃ fld, fa[f]? = some fld ∧ (fld.offset, fld.type) = (o, ft) := by simpa using hf
        cases e
        obtain ⟨vs, hl, rfl, hv⟩ := hp.agg_inv
        obtain ⟨v, hr, hq⟩ := part_ok (w := w) hE hl hv h
        exact ⟨v, by simp [Instr.field, run_underlying h2, hfld, asAgg, hr], hq⟩
      · cases h
    · cases h
  · cases h

theorem index_ok (hE : TOk E P) {t : TypeId} {p x : PV} {a i : Value} (hp : V g p a) (hx : V g x i) {q : PV} (h : aIndex E t p x = some q) :
    ∃ v, (Instr.index t a i).run P w = .ok v w ∧ V g q v := by
  unfold aIndex at h
  split at h
  · rename_i ti n ht hn
    obtain ⟨i0, d, z, h1, h2, h3, rfl⟩ := hE.spec ht
    obtain ⟨k, rfl⟩ := nat_inv hn
    obtain rfl := hx.int_inv
    simp only at h
    split at h
    · rename_i s hd
      have hd := tk_string hd
      subst hd
      rw [nth_eq] at h
      split at h
      · rename_i c hc
        cases h
        obtain ⟨b, rfl, hb⟩ := hp.str_inv
        subst hb
        have hlt := get_lt hc
        have hlt' : n < b.size := by simpa using hlt
        have hbc : b[n] = c := by have := get_eq hc; show b.data[n] = c; simpa using this
        refine ⟨.int .u8 (c.toNat), ?_, .pure _ _ (.int _ _)⟩
        simp [Instr.index, asIntOf, run_underlying h2, ByteArray.getElem?_lt' b n hlt', hbc]
      · cases h
    · rename_i len e cs hd
      have hd := tk_array hd
      subst hd
      split at h
      · rename_i ei hei
        obtain ⟨i', d', z', h1', h2', h3', rfl⟩ := hE.spec hei
        simp only at h
        split at h
        · rename_i hlt
          obtain ⟨vs, hl, rfl, hv⟩ := hp.agg_inv
          obtain ⟨v, hr, hq⟩ := part_ok (w := w) hE hl hv h
          exact ⟨v, by simp [Instr.index, asIntOf, run_underlying h2, hlt, run_sizeOf' h1', hr], hq⟩
        · cases h
      · cases h
    · cases h
  · cases h

end
end Go.Vm
