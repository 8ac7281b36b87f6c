import Derived.Test.YthpejcnldecmoaaShown13
import Derived.Test.YthpejcnldecmoaaPlanLaw
namespace Go.Proofs.Ythpejcnldecmoaa.H
open Go.RowKit Go.Proofs.YthpejcnldecmoaaW.PrintWords Go.Proofs.YthpejcnldecmoaaW.PrintLast Go.Proofs.YthpejcnldecmoaaW.PrintMore
set_option linter.unusedVariables false

/-- an order's row, and the row of what is bound: in a world wr; S: where what is bound begins; g: a block apart -/
structure PR (w1 : World) (S g : Nat) (wr : World) (v6 vb : Value) (l : List Nat) (b : List ByteArray) : Prop where
  below : Below w1.heap.size w1 wr
  size : S ≤ wr.heap.size
  gS : g < S
  lrow : Kd.R (Kd.int .i64) 3 wr w1.heap.size (fun k => k ≠ g ∧ k < S) v6 (ints l)
  brow : Kd.R Kd.string 9 wr w1.heap.size (fun k => k ≠ g ∧ S ≤ k) vb b
section
variable {w1 : World} {S g : Nat} {wr W : World} {v6 vb vb' : Value} {l : List Nat} {b b' : List ByteArray}
theorem PR.then (h : PR w1 S g wr v6 vb l b) (hb : Below wr.heap.size wr W) : PR w1 S g W v6 vb l b :=
  ⟨Below.then h.below hb, Nat.le_trans h.size hb.size, h.gS, Kd.R_below h.lrow hb, Kd.R_below h.brow hb⟩
theorem PR.bind (h : PR w1 S g wr v6 vb l b) (hr : Kd.R Kd.string 9 W w1.heap.size (fun k => k ≠ g ∧ S ≤ k) vb' b') (hb : Below w1.heap.size w1 W) (hg : wr.grownBy W vb.ownBlock) : PR w1 S g W v6 vb' l b' :=
  ⟨hb, Nat.le_trans h.size hg.size, h.gS, Kd.R_grown h.lrow hg (fun k hk e => by have := (h.brow.1 k e.symm).2; omega), hr⟩
theorem PR.put (h : PR w1 S g wr v6 vb l b) (hg : w1.heap.size ≤ g) (j : Nat) (u : Value) : PR w1 S g (wr.setCell ⟨g, j, none⟩ u) v6 vb l b :=
  ⟨below_set h.below hg, by simpa [World.setCell] using h.size, h.gS, Kd.R_far (p := ⟨g, j, none⟩) h.lrow (fun k hk => hk.1) u, Kd.R_far (p := ⟨g, j, none⟩) h.brow (fun k hk => hk.1) u⟩
theorem PR.ne (h : PR w1 S g wr v6 vb l b) : some g ≠ vb.ownBlock := fun e => (h.brow.1 g e.symm).1 rfl
theorem PR.fresh (h : PR w1 S g wr v6 vb l b) : ∀ k, wr.heap.size ≤ k → k ≠ g ∧ S ≤ k := fun k hk => by have := h.size; have := h.gS; omega
end
/-- which places have been seen -/
def SeenAt (w : World) (g n : Nat) (done : List Nat) : Prop := ∃ cs, w.heap[g]? = some (.cells cs 4 (0, 0)) ∧ ∀ j, j < n → cs[j]? = some (.bool (decide (j ∈ done)))
section
variable {w W : World} {g n : Nat} {done : List Nat}
theorem SeenAt.then (h : SeenAt w g n done) (hb : Below w.heap.size w W) : SeenAt W g n done := by obtain ⟨cs, h1, h2⟩ := h; exact ⟨cs, blk_below h1 hb, h2⟩
theorem SeenAt.grown (h : SeenAt w g n done) {row : Option Nat} (hg : w.grownBy W row) (hne : some g ≠ row) : SeenAt W g n done := by obtain ⟨cs, h1, h2⟩ := h; exact ⟨cs, blk_grown h1 hg hne, h2⟩
theorem SeenAt.cell (h : SeenAt w g n done) {j : Nat} (hj : j < n) : w.cell? ⟨g, j, none⟩ = some (.bool (decide (j ∈ done))) := by obtain ⟨cs, h1, h2⟩ := h; rw [blk_cell h1]; exact h2 j hj
theorem SeenAt.fz (h : SeenAt w g n done) (j : Nat) : w.frozen? ⟨g, j, none⟩ = false := by obtain ⟨cs, h1, h2⟩ := h; exact blk_frozen h1 j
theorem SeenAt.put (h : SeenAt w g n done) {k : Nat} (hk : k < n) : SeenAt (w.setCell ⟨g, k, none⟩ (.bool true)) g n (done ++ [k]) := by
  obtain ⟨cs, h1, h2⟩ := h
  have hs : k < cs.size := by
    have := h2 k hk
    exact (Array.getElem?_eq_some_iff.1 this).1
  refine ⟨_, blk_set h1 k _, fun j hj => ?_⟩
  rw [Array.getElem?_setIfInBounds]
  by_cases e : k = j
  · subst e
    rw [if_pos rfl, if_pos hs]
    simp
  · rw [if_neg e, h2 j hj]
    simp [List.mem_append, show ¬ j = k from fun h => e h.symm]
theorem seen_made {n : Nat} {base : Nat} {ok : Nat → Prop} {v : Value} {g : Nat} (h : Kd.R Kd.bool 4 w base ok v (List.replicate n false)) (hv : v.ownBlock = some g) : (∃ c, v = .slice (some ⟨g, 0, none⟩) n c) ∧ SeenAt w g n [] := by
  obtain ⟨inner, ho⟩ := Kd.R_own h
  obtain ⟨A, c, rfl, -, hC⟩ := Kd.R_reads h
  rcases ho.2 with ⟨e, _⟩ | ⟨g', cap, cur, e, _, hh, _⟩
  · rw [e] at hv; simp [Value.ownBlock] at hv
  · injection e with e1 e2 e3
    subst e1
    have : g' = g := by simpa [Value.ownBlock] using hv
    subst this
    refine ⟨⟨c, by simp⟩, cur, hh, fun j hj => ?_⟩
    obtain ⟨ad, e, hx⟩ := at_bool hC (i := j) (y := false) (by simp [hj])
    cases e
    rw [show (Addr.add ⟨g', 0, none⟩ j) = ⟨g', j, none⟩ by simp [Addr.add]; omega, blk_cell hh] at hx
    simpa using hx
end
end Go.Proofs.Ythpejcnldecmoaa.H
