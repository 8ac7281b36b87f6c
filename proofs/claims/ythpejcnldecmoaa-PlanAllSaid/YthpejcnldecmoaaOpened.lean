import Derived.Test.YthpejcnldecmoaaKinds
import Derived.OpenShut
import Derived.SizedLaws
import Derived.DataReads
namespace Go.Proofs.Ythpejcnldecmoaa.H
open Go.RowKit Go.Proofs.YthpejcnldecmoaaW.PrintWords
set_option linter.unusedVariables false

/-- What an argument of a type holds, read as the kind kd. -/
structure Opens {α : Type} (P : Program) (t : TypeId) (kd : Kd α) : Prop where
  size : P.cellsOf t = kd.sz
  opened : ∀ {H : Type} {enc : TypeId × Value → H} {w : World} {base : Nat} {sp : Nat → Bool} {held : Bool} {fuel : Nat} {cs : List Value} {x : DataW H × List MemPlace},
    DataW.trod enc P w base sp held fuel t cs = some x → ∃ a, kd.K w a cs

theorem opens_bool {P : Program} {t : TypeId} (ht : P.underlying t = some .bool) (hs : P.cellsOf t = 1) : Opens P t Kd.bool :=
  ⟨hs, fun h => by obtain ⟨b, rfl, _⟩ := DataW.trod_bool ht h; exact ⟨b, rfl⟩⟩
theorem opens_int {P : Program} {t : TypeId} {k : IntKind} (ht : P.underlying t = some (.int k)) (hs : P.cellsOf t = 1) : Opens P t (Kd.int k) :=
  ⟨hs, fun h => by obtain ⟨b, rfl, _⟩ := DataW.trod_int ht h; exact ⟨b, rfl⟩⟩
theorem opens_string {P : Program} {t : TypeId} (ht : P.underlying t = some .string) (hs : P.cellsOf t = 1) : Opens P t Kd.string :=
  ⟨hs, fun h => by obtain ⟨b, rfl, _⟩ := DataW.trod_string ht h; exact ⟨b, rfl⟩⟩
theorem list_of {α : Type} (p : Nat → α → Prop) : ∀ n : Nat, (∀ i, i < n → ∃ y, p i y) → ∃ l : List α, l.length = n ∧ ∀ i y, l[i]? = some y → p i y
  | 0, _ => ⟨[], rfl, fun i y h => by simp at h⟩
  | n + 1, h => by
    obtain ⟨l, hl, hp⟩ := list_of p n (fun i hi => h i (by omega))
    obtain ⟨y, hy⟩ := h n (by omega)
    refine ⟨l ++ [y], by simp [hl], fun i z hz => ?_⟩
    rcases Nat.lt_trichotomy i n with hi | rfl | hi
    · rw [List.getElem?_append_left (by omega)] at hz
      exact hp i z hz
    · rw [List.getElem?_append_right (by omega), hl, Nat.sub_self] at hz
      simp at hz
      subst hz
      exact hy
    · rw [List.getElem?_eq_none (by simp [hl]; omega)] at hz
      simp at hz
theorem addr_add_add (a : Addr) (i j : Nat) : (a.add i).add j = a.add (i + j) := by
  unfold Addr.add
  by_cases hi : i = 0 <;> by_cases hj : j = 0 <;> simp [hi, hj, Nat.add_assoc]
theorem opens_slice {α : Type} {P : Program} {t e : TypeId} {kd : Kd α} (ht : P.underlying t = some (.slice e)) (hs : P.cellsOf t = 1) (he : Opens P e kd) (q : Nat) : Opens P t (Kd.slice q kd) := by
  refine ⟨hs, fun {H enc w base sp held fuel cs x} h => ?_⟩
  rcases DataW.trod_slice ht h with ⟨rfl, _⟩ | ⟨a, len, cap, elems, rest, n, _, rfl, _, _, hl, hm, hlen, hel, _⟩
  · exact ⟨[], none, 0, rfl, Nat.le_refl _, rfl, by simp, fun h => absurd h (by simp)⟩
  · obtain ⟨l, hll, hp⟩ := list_of (fun i y => ∃ c, c.length = kd.sz ∧ kd.K w y c ∧ ∀ j u, c[j]? = some u → w.cell? (a.add (i * kd.sz + j)) = some u) len (fun i hi => by
      have h1 := hel i hi
      rw [List.getElem?_eq_getElem (by omega)] at h1
      obtain ⟨cs', h2, h3⟩ := Option.bind_eq_some_iff.1 h1
      obtain ⟨y, hy⟩ := he.opened h3
      obtain ⟨_, h4, h5⟩ := World.cells?_some h2
      refine ⟨y, cs', by rw [h4, he.size], hy, fun j u hu => ?_⟩
      have hj : j < P.cellsOf e := by rw [← h4]; exact (List.getElem?_eq_some_iff.1 hu).1
      rw [← addr_add_add, ← he.size, h5 j hj, hu])
    subst hll
    refine ⟨l, some a, cap, rfl, hl, rfl, Nat.le_trans hl (Nat.le_trans hm (by decide)), fun _ => ⟨a, rfl, fun j p hj => hp j p hj⟩⟩
theorem opens_iso {α β : Type} {P : Program} {t : TypeId} {kd : Kd α} (h : Opens P t kd) (f : β → α) (hf : ∀ b, ∃ a, f a = b) : Opens P t (Kd.iso kd f) :=
  ⟨h.size, fun hx => by obtain ⟨a, ha⟩ := h.opened hx; obtain ⟨b, rfl⟩ := hf a; exact ⟨b, ha⟩⟩

/-- The fields of a struct from the offset o on. -/
structure OpensL {α : Type} (P : Program) (fs : List Field) (o : Nat) (kd : Kd α) : Prop where
  opened : ∀ {H : Type} {enc : TypeId × Value → H} {w : World} {base : Nat} {sp : Nat → Bool} {held : Bool} {fuel : Nat} (cs : List Value), cs.length = o + kd.sz →
    (∀ f ∈ fs, ∃ x, DataW.trod enc P w base sp held fuel f.type ((cs.drop f.offset).take (P.cellsOf f.type)) = some x) → ∃ a, kd.K w a (cs.drop o)
theorem opensL_one {α : Type} {P : Program} {f : Field} {o : Nat} {kd : Kd α} (ho : f.offset = o) (h : Opens P f.type kd) : OpensL P [f] o kd := by
  refine ⟨fun {H enc w base sp held fuel} cs hcs hf => ?_⟩
  obtain ⟨x, hx⟩ := hf f (by simp)
  obtain ⟨a, ha⟩ := h.opened hx
  rw [ho, h.size, List.take_of_length_le (by simp [hcs])] at ha
  exact ⟨a, ha⟩
theorem opensL_cons {α β : Type} {P : Program} {f : Field} {fs : List Field} {o : Nat} {kd : Kd α} {kd' : Kd β} (ho : f.offset = o) (h : Opens P f.type kd) (hr : OpensL P fs (o + kd.sz) kd') : OpensL P (f :: fs) o (Kd.pair kd kd') := by
  refine ⟨fun {H enc w base sp held fuel} cs hcs hf => ?_⟩
  obtain ⟨x, hx⟩ := hf f (by simp)
  obtain ⟨a, ha⟩ := h.opened hx
  have hcs' : cs.length = o + kd.sz + kd'.sz := by rw [hcs]; show o + (kd.sz + kd'.sz) = _; omega
  obtain ⟨b, hb⟩ := hr.opened cs hcs' (fun g hg => hf g (by simp [hg]))
  rw [ho, h.size] at ha
  refine ⟨(a, b), (cs.drop o).take kd.sz, (cs.drop (o + kd.sz)), ?_, ha, hb⟩
  rw [← List.drop_drop, List.take_append_drop]
theorem opens_struct {α : Type} {P : Program} {t : TypeId} {fs : List Field} {kd : Kd α} (ht : P.underlying t = some (.struct ⟨fs⟩)) (hs : P.cellsOf t = kd.sz) (h : OpensL P fs 0 kd) : Opens P t kd := by
  refine ⟨hs, fun {H enc w base sp held fuel cs x} hx => ?_⟩
  obtain ⟨xs, n, _, _, hl, hlen, hf⟩ := DataW.trod_struct ht hx
  obtain ⟨a, ha⟩ := h.opened (enc := enc) (w := w) (base := base) (sp := sp) (held := held) (fuel := n) cs (by rw [hl, hs]; omega) (fun f hfm => by
    obtain ⟨i, hi, rfl⟩ := List.mem_iff_getElem.1 hfm
    have h1 := hf i fs[i] (by simp [hi])
    exact ⟨xs[i]'(by rw [hlen]; simpa using hi), by rw [h1, List.getElem?_eq_getElem]⟩)
  exact ⟨a, by simpa using ha⟩
theorem opens_isoL {α β : Type} {P : Program} {fs : List Field} {o : Nat} {kd : Kd α} (h : OpensL P fs o kd) (f : β → α) (hf : ∀ b, ∃ a, f a = b) : OpensL P fs o (Kd.iso kd f) := by
  refine ⟨fun {H enc w base sp held fuel} cs hcs hx => ?_⟩
  obtain ⟨a, ha⟩ := h.opened cs hcs hx
  obtain ⟨b, rfl⟩ := hf a
  exact ⟨b, ha⟩
/-- an argument's value, opened -/
theorem Opens.arg {α : Type} {P : Program} {t : TypeId} {kd : Kd α} (h : Opens P t kd) {H : Type} {enc : TypeId × Value → H} {w : World} {base : Nat} {sp : Nat → Bool} {held : Bool} {v : Value} {d : DataW H} {ps : List MemPlace}
    (hv : DataW.Trod enc P w base sp held t v d ps) : ∃ a, kd.K w a v.cells.toList := by
  obtain ⟨fuel, hf⟩ := hv
  exact h.opened hf
/-- An argument's row is no longer than its weight allows. -/
theorem sized_row {H : Type} {enc : TypeId × Value → H} {P : Program} {W : World} {base : Nat} {spare : Nat → Bool} {held : Bool} {t e : TypeId} {a : Option Addr} {len cap : Nat} {d : DataW H} {ps : List MemPlace} {ts : List TypeId} {ds : List (DataW H)} {j : Nat}
    (hsz : (DataW.weightsEach P ts ds).all (· ≤ reachBytes) = true) (ht : ts[j]? = some t) (hd : ds[j]? = some d) (hu : P.underlying t = some (.slice e)) {B : Nat} (hB : P.bytesOf e = B)
    (h : DataW.Trod enc P W base spare held t (.slice a len cap) d ps) : len * B ≤ 140737488351232 := by
  obtain ⟨fuel, hf⟩ := h
  rcases DataW.trod_slice hu hf with ⟨hcs, _⟩ | ⟨x, l, c, elems, rest, n, _, hcs, hx, _, hl, _, hlen, _⟩
  · simp [Value.cells] at hcs
    obtain ⟨rfl, rfl, rfl⟩ := hcs
    simp
  · simp [Value.cells] at hcs
    obtain ⟨rfl, rfl, rfl⟩ := hcs
    obtain ⟨rfl, _⟩ := Prod.mk.inj hx
    have z := sized_slice hsz ht hd hu
    rw [hB, List.length_map, List.length_map, hlen] at z
    exact Nat.le_trans (Nat.mul_le_mul_right _ (Nat.le_add_right _ _)) z
theorem opens_Val : Opens Try.prog 43 kVal :=
  opens_struct Try.underlying43 (by kernel_rfl) (opens_isoL (opensL_cons rfl (opens_bool (by kernel_rfl) (by kernel_rfl)) (opensL_cons rfl (opens_string (by kernel_rfl) (by kernel_rfl)) (opensL_one rfl (opens_int (by kernel_rfl) (by kernel_rfl))))) _ (fun b => ⟨⟨b.1, b.2.1, b.2.2⟩, rfl⟩))
theorem opens_Term : Opens Try.prog 45 kTerm :=
  opens_struct Try.underlying45 (by kernel_rfl) (opens_isoL (opensL_cons rfl (opens_bool (by kernel_rfl) (by kernel_rfl)) (opensL_cons rfl (opens_string (by kernel_rfl) (by kernel_rfl)) (opensL_one rfl opens_Val))) _ (fun b => ⟨⟨b.1, b.2.1, b.2.2⟩, rfl⟩))
theorem opens_Atom : Opens Try.prog 24 kAtom :=
  opens_struct Try.underlying24 (by kernel_rfl) (opens_isoL (opensL_cons rfl (opens_string (by kernel_rfl) (by kernel_rfl)) (opensL_one rfl (opens_slice (by kernel_rfl) (by kernel_rfl) opens_Term 45))) _ (fun b => ⟨⟨b.1, b.2⟩, rfl⟩))
theorem opens_Liter : Opens Try.prog 47 kLiter :=
  opens_struct Try.underlying47 (by kernel_rfl) (opens_isoL (opensL_cons rfl (opens_int (by kernel_rfl) (by kernel_rfl)) (opensL_cons rfl opens_Atom (opensL_cons rfl (opens_string (by kernel_rfl) (by kernel_rfl)) (opensL_cons rfl opens_Term (opensL_one rfl opens_Term))))) _ (fun b => ⟨⟨b.1, b.2.1, b.2.2.1, b.2.2.2.1, b.2.2.2.2⟩, rfl⟩))
theorem opens_Rule : Opens Try.prog 27 kRule :=
  opens_struct Try.underlying27 (by kernel_rfl) (opens_isoL (opensL_cons rfl opens_Atom (opensL_one rfl (opens_slice (by kernel_rfl) (by kernel_rfl) opens_Liter 47))) _ (fun b => ⟨⟨b.1, b.2⟩, rfl⟩))
end Go.Proofs.Ythpejcnldecmoaa.H
