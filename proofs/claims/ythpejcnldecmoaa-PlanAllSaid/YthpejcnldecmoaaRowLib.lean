import Derived.Test.YthpejcnldecmoaaLib
import Derived.Test.YthpejcnldecmoaaWShare
import Derived.Lib.SliceRun
namespace Go.Proofs.Ythpejcnldecmoaa.H
open Go.RowKit Go.Proofs.YthpejcnldecmoaaW.PrintWords Go.Proofs.YthpejcnldecmoaaW.PrintLast Go.Proofs.YthpejcnldecmoaaW.PrintMore
set_option linter.unusedVariables false

theorem grown_set (w : World) (g j : Nat) (v : Value) : w.grownBy (w.setCell ⟨g, j, none⟩ v) (some g) :=
  ⟨rfl, rfl, rfl, by simp [World.setCell], fun k hk hne => Below.heap_setCell w ⟨g, j, none⟩ v k (fun e => hne (by rw [e]))⟩
theorem grown_trans {w w1 w2 : World} {r : Option Nat} (h : w.grownBy w1 r) (k : w1.grownBy w2 r) : w.grownBy w2 r :=
  ⟨k.os.trans h.os, k.tape.trans h.tape, k.output.trans h.output, Nat.le_trans h.size k.size, fun j hj hne => (k.block j (Nat.lt_of_lt_of_le hj h.size) hne).trans (h.block j hj hne)⟩
/-! ### what 'clear' and stores leave of a row -/
theorem setCells_row {g : Nat} {e : TypeId} : ∀ (vs : List Value) (o : Nat) (w : World) (cur : Array Value), w.heap[g]? = some (.cells cur e (0, 0)) →
    ∃ cur', (w.setCells g o vs).heap[g]? = some (.cells cur' e (0, 0)) ∧ cur'.size = cur.size ∧ (∀ j, j < o → cur'[j]? = cur[j]?) ∧ w.grownBy (w.setCells g o vs) (some g)
  | [], o, w, cur, h => ⟨cur, h, rfl, fun _ _ => rfl, World.grownBy.refl w _⟩
  | v :: r, o, w, cur, h => by
    have h1 := blk_set h o v
    obtain ⟨cur', h2, h3, h4, h5⟩ := setCells_row r (o + 1) _ _ h1
    refine ⟨cur', h2, by rw [h3]; simp, fun j hj => ?_, ?_⟩
    · rw [h4 j (by omega)]; simp [show ¬ o = j by omega]
    · exact grown_trans (grown_set w g o v) h5
theorem run_clear_row {P : Program} (w : World) (t e ty : TypeId) (z : Value) (ht : P.underlying t = some (.slice e)) (hv : ∀ w, (zeroValue e).run P w = .ok z w) (h1 : ∀ v ∈ z.cells, v.oneCell' = true) (g o n c : Nat) (cur : Array Value)
    (hh : w.heap[g]? = some (.cells cur e (0, 0))) (hn : o + n * z.cells.size ≤ cur.size) :
    ∃ vs, (Builtin.clear_ #[t] ty #[.slice (some ⟨g, o, none⟩) n c]).run P w = .ok (.tuple #[]) (w.setCells g o vs) := by
  cases n with
  | zero => exact ⟨[], by simp [Builtin.clear_, run_underlying ht]; rfl⟩
  | succ m =>
    have hst := run_storeCells_cells (P := P) g o (Builtin.zeroCells z.cells (m + 1)).toList 0 w
      (by intro j hj
          have hj' : j < (m + 1) * z.cells.size := by simpa [Builtin.zeroCells] using hj
          rw [Nat.add_zero, blk_cell hh, Array.getElem?_eq_getElem (by omega)]; rfl)
      (fun j _ => blk_frozen hh _)
      (by intro v hv'
          simp only [Builtin.zeroCells, Array.toList_map, List.mem_map] at hv'
          obtain ⟨i, hi, rfl⟩ := hv'
          have hi' : i < (m + 1) * z.cells.size := by simpa using hi
          have hz : 0 < z.cells.size := by
            rcases Nat.eq_zero_or_pos z.cells.size with h0 | h0
            · rw [h0] at hi'; omega
            · exact h0
          rw [getElem!_pos z.cells _ (Nat.mod_lt _ hz)]
          exact h1 _ (Array.getElem_mem _))
    simp only [Nat.add_zero] at hst
    exact ⟨(Builtin.zeroCells z.cells (m + 1)).toList, by simp [Builtin.clear_, run_underlying ht, hv, hst]⟩
/-- a row whose tail was written, cut before that tail -/
theorem R_cut {α : Type} {d : Kd α} {e : Nat} {w w1 : World} {base : Nat} {ok : Nat → Prop} {g n cap i : Nat} {xs : List α} (h : d.R e w base ok (.slice (some ⟨g, 0, none⟩) n cap) xs) (hi : i ≤ xs.length) (hg : w.grownBy w1 (some g)) {cur cur' : Array Value}
    (h0 : w.heap[g]? = some (.cells cur e (0, 0))) (h1 : w1.heap[g]? = some (.cells cur' e (0, 0))) (hs : cur'.size = cur.size) (hp : ∀ j, j < i * d.sz → cur'[j]? = cur[j]?) :
    d.R e w1 base ok (.slice (some ⟨g, 0, none⟩) i cap) (xs.take i) := by
  obtain ⟨hok, inner, ⟨hlen, ho⟩, hr⟩ := h
  rcases ho with ⟨he, _⟩ | ⟨g', cap', cur0, he, hb, hh, hnc, hcm, hcs, htk⟩
  · cases he
  · cases he
    have hcc : cur0 = cur := by rw [h0] at hh; injection hh with hh; injection hh with hh; exact hh.symm
    subst hcc
    have hle : i * d.sz ≤ xs.length * d.sz := Nat.mul_le_mul_right _ hi
    have hlt : (xs.take i).length = i := by rw [List.length_take]; omega
    have hll : inner.length = xs.length * d.sz := hlen
    refine ⟨hok, inner.take (i * d.sz), ⟨?_, .inr ⟨g, cap, cur', by rw [hlt], hb, h1, by omega, hcm, by rw [hs, hcs], ?_⟩⟩, ?_, ?_⟩
    · rw [List.length_take, hlt]; omega
    · rw [hlt, ← htk, List.take_take, Nat.min_eq_left hle]
      apply List.ext_getElem?
      intro j
      rw [List.getElem?_take, List.getElem?_take]
      split
      · have := hp j (by assumption)
        simpa using this
      · rfl
    · rw [List.length_take, hlt]; omega
    · intro j p hj
      rw [List.getElem?_take] at hj
      split at hj
      · rename_i hji
        have h3 := hr.2 j p hj
        have hjs : j * d.sz + d.sz ≤ i * d.sz := by rw [← Nat.succ_mul]; exact Nat.mul_le_mul_right _ hji
        have e1 : ((inner.take (i * d.sz)).drop (j * d.sz)).take d.sz = (inner.drop (j * d.sz)).take d.sz := by
          rw [List.drop_take, List.take_take, Nat.min_eq_left (by omega)]
        rw [e1]
        refine Kd.M_grown h3 hg (fun k hk => ?_)
        simpa [Value.ownBlock] using hk.2
      · cases hj

theorem R_blk {α : Type} {d : Kd α} {e : Nat} {w : World} {base : Nat} {ok : Nat → Prop} {g n cap : Nat} {xs : List α} (h : d.R e w base ok (.slice (some ⟨g, 0, none⟩) n cap) xs) : ∃ cells, w.heap[g]? = some (.cells cells e (0, 0)) := by
  obtain ⟨_, inner, ⟨_, ho⟩, _⟩ := h
  rcases ho with ⟨he, _⟩ | ⟨g', cap', cur0, he, hb, hh, _⟩
  · cases he
  · cases he; exact ⟨_, hh⟩
theorem R_size {α : Type} {d : Kd α} {e : Nat} {w : World} {base : Nat} {ok : Nat → Prop} {g n cap : Nat} {xs : List α} (h : d.R e w base ok (.slice (some ⟨g, 0, none⟩) n cap) xs) {cells : Array Value} (hc : w.heap[g]? = some (.cells cells e (0, 0))) : cells.size = cap * d.sz ∧ n ≤ cap := by
  obtain ⟨_, inner, ⟨_, ho⟩, _⟩ := h
  rcases ho with ⟨he, _⟩ | ⟨g', cap', cur0, he, hb, hh, h1, h2, h3, _⟩
  · cases he
  · cases he
    rw [hh] at hc; injection hc with hc; injection hc with hc; subst hc
    exact ⟨h3, h1⟩
theorem R_put1 {α : Type} {enc : α → Value} {h1 : ∀ x, (enc x).oneCell' = true} {e : Nat} {w : World} {base : Nat} {ok : Nat → Prop} {g n cap : Nat} {xs : List α} (h : (Kd.scalar enc h1).R e w base ok (.slice (some ⟨g, 0, none⟩) n cap) xs) (i : Nat) (x : α) :
    (Kd.scalar enc h1).R e (w.setCell ⟨g, i, none⟩ (enc x)) base ok (.slice (some ⟨g, 0, none⟩) n cap) (xs.set i x) ∧ w.grownBy (w.setCell ⟨g, i, none⟩ (enc x)) (some g) := by
  obtain ⟨rfl, _, _⟩ := Kd.R_reads' h
  have := Kd.R_put h (i : Int) x
  simpa using this

/-- a row that was made by a literal, read -/
theorem C_cells {α : Type} {d : Kd α} {w : World} {g e : Nat} {cs : Array Value} {xs : List α} (h : w.heap[g]? = some (.cells cs e (0, 0))) (hr : Reps (d.K w) d.sz xs cs.toList) (hl : xs.length ≤ 9223372036854775807) :
    d.C w (some ⟨g, 0, none⟩) xs.length xs := by
  refine ⟨rfl, hl, fun _ => ⟨⟨g, 0, none⟩, rfl, fun j p hj => ?_⟩⟩
  refine ⟨(cs.toList.drop (j * d.sz)).take d.sz, ?_, hr.2 j p hj, fun i u hu => ?_⟩
  · have hjl := (List.getElem?_eq_some_iff.1 hj).1
    have : j * d.sz + d.sz ≤ xs.length * d.sz := by rw [← Nat.succ_mul]; exact Nat.mul_le_mul_right _ hjl
    rw [List.length_take, List.length_drop, hr.1]; omega
  · rw [List.getElem?_take] at hu
    split at hu
    · rw [add_plain, blk_cell h]
      rw [List.getElem?_drop] at hu
      simpa using hu
    · cases hu

/-- a predicate that is handed to what rewrites the row as it goes -/
def PredG (P : Program) (g : Nat) (lb : Array Value) {α : Type} (enc : α → Value) (p : α → Bool) (w : World) (row : Option Nat) (l : List α) : Prop :=
  ∀ (W : World) (x : α), x ∈ l → w.grownBy W row → Calls P g (#[enc x] ++ lb) W fun e w' => e = .returned (.bool (p x)) ∧ Below W.heap.size W w'
theorem grown_below {w w1 : World} (h : Below w.heap.size w w1) (row : Option Nat) : w.grownBy w1 row := grown_of_below h row
theorem PredG.k {P : Program} {g : Nat} {lb : Array Value} {α : Type} {enc : α → Value} {p : α → Bool} {w : World} {row : Option Nat} {l : List α} (h : PredG P g lb enc p w row l) : PredK P g lb enc p w l :=
  fun W x hm hb => h W x hm (grown_of_below hb row)

/-! ### what is kept of a row as slices.DeleteFunc goes through it -/
structure KeptIv {α : Type} (q : α → Bool) (l : List α) (j i : Nat) (dk : List α) : Prop where
  len : dk.length = l.length
  lt : i < j
  le : j ≤ l.length
  low : dk.take i = (l.take j).filter q
  high : dk.drop j = l.drop j
theorem KeptIv.skip {α : Type} {q : α → Bool} {l dk : List α} {j i : Nat} {y : α} (h : KeptIv q l j i dk) (hy : l[j]? = some y) (hq : q y = false) : KeptIv q l (j + 1) i dk := by
  have hj : j < l.length := (List.getElem?_eq_some_iff.1 hy).1
  refine ⟨h.len, by have := h.lt; omega, by omega, ?_, ?_⟩
  · rw [List.take_add_one, hy, List.filter_append, h.low]; simp [hq]
  · have := congrArg (List.drop 1) h.high; simpa [List.drop_drop, Nat.add_comm] using this
theorem KeptIv.keep {α : Type} {q : α → Bool} {l dk : List α} {j i : Nat} {y : α} (h : KeptIv q l j i dk) (hy : l[j]? = some y) (hq : q y = true) : KeptIv q l (j + 1) (i + 1) (dk.set i y) := by
  have hj : j < l.length := (List.getElem?_eq_some_iff.1 hy).1
  have hlt := h.lt
  have hlen := h.len
  refine ⟨by simpa using h.len, by omega, by omega, ?_, ?_⟩
  · have e1 : (dk.set i y).take (i + 1) = dk.take i ++ [y] := by
      rw [List.take_add_one, List.getElem?_set_self (by omega)]
      simp [List.take_set_of_le (Nat.le_refl i)]
    rw [e1, h.low, List.take_add_one, hy, List.filter_append]; simp [hq]
  · rw [List.drop_set_of_lt (by omega)]
    have := congrArg (List.drop 1) h.high; simpa [List.drop_drop, Nat.add_comm] using this
theorem KeptIv.start {α : Type} {q : α → Bool} {l : List α} {k : Nat} {y : α} (h : ∀ x ∈ l.take k, q x = true) (hy : l[k]? = some y) (hq : q y = false) : KeptIv q l (k + 1) k l := by
  have hk : k < l.length := (List.getElem?_eq_some_iff.1 hy).1
  refine ⟨rfl, by omega, by omega, ?_, rfl⟩
  rw [List.take_add_one, hy, List.filter_append, List.filter_eq_self.2 h]; simp [hq]
theorem idxP_cases {α : Type} (p : α → Bool) : ∀ (l : List α) (i : Nat), (idxP p l i = -1 ∧ ∀ x ∈ l, p x = false) ∨ ∃ k y, idxP p l i = ((i + k : Nat) : Int) ∧ l[k]? = some y ∧ p y = true ∧ ∀ x ∈ l.take k, p x = false
  | [], i => .inl ⟨rfl, by simp⟩
  | x :: l, i => by
    cases h : p x with
    | true => exact .inr ⟨0, x, by simp [idxP, h], by simp, h, by simp⟩
    | false =>
      rcases idxP_cases p l (i + 1) with ⟨e, ha⟩ | ⟨k, y, e, hy, hp, ha⟩
      · exact .inl ⟨by simp [idxP, h, e], by simpa [h] using ha⟩
      · exact .inr ⟨k + 1, y, by rw [idxP, if_neg (by rw [h]; decide), e]; congr 1; omega, by simpa using hy, hp, by simpa [h] using ha⟩
end Go.Proofs.Ythpejcnldecmoaa.H
