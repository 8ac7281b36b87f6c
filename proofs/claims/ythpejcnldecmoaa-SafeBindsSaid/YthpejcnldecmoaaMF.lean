/- Texts of this seat that its laws share, joined. -/
import Derived.Test.YthpejcnldecmoaaMA
import Derived.Test.YthpejcnldecmoaaWKept
import Derived.Test.YthpejcnldecmoaaWLast
import Derived.Test.YthpejcnldecmoaaWMore
import Derived.Sort.Grow
import Derived.Sort.EncStr
import Derived.Lib.SlicesCompact
import Derived.Shelf.Slices.CompactS
import Derived.Shelf.Slices.Cells
import Derived.Ground.SlgnProg
import Derived.Shelf.SlicesE.Compact
import Derived.Ground.SlgmProg
import Derived.Shelf.SortM.Plain
import Derived.Shelf.SortM.SortNone
import Derived.Test.YthpejcnldecmoaaProg
import Derived.Test.YthpejcnldecmoaaMD
import Derived.Test.YthpejcnldecmoaaMB
import Derived.Test.YthpejcnldecmoaaMC
namespace Go.Proofs.Ythpejcnldecmoaa.H
open Go.RowKit Go.Sort Go.Proofs.YthpejcnldecmoaaW.PrintWords Go.Proofs.YthpejcnldecmoaaW.PrintLast Go.Proofs.YthpejcnldecmoaaW.PrintMore
set_option linter.unusedVariables false
section
variable {α : Type} [Inhabited α] {enc : α → Value}
theorem so_heap {w : World} {g n : Nat} {os : Array Obj} {cur : Array Value} {e : TypeId} {fr : Nat × Nat} (d : Array α) (hb : w.heap[g]? = some (.cells cur e fr)) :
    (grow (putRow enc (Sort.ahead w n) g 0 d) os).heap[g]? = some (.cells (putCells enc 0 d cur) e fr) := by
  have hg : g < w.heap.size := (Array.getElem?_eq_some_iff.1 hb).1
  rw [heap_grow_old _ _ (by simpa using hg)]
  simp [putRow, mapBlock, Sort.ahead, Array.getElem?_modify, hb, onCells]
theorem so_grown {w : World} {g n : Nat} {os : Array Obj} (d : Array α) : w.grownBy (grow (putRow enc (Sort.ahead w n) g 0 d) os) (some g) := by
  refine ⟨rfl, rfl, rfl, by simp, fun k hk hne => ?_⟩
  rw [heap_grow_old _ _ (by simpa using hk)]
  have : g ≠ k := fun e => hne (by rw [e])
  simp [putRow, mapBlock, Sort.ahead, Array.getElem?_modify, this]
theorem so_take (cur : Array Value) (ts : List α) (m : Nat) (hm : m ≤ ts.length) (h : ts.length ≤ cur.size) : (putCells enc 0 ts.toArray cur).toList.take m = (ts.take m).map enc := by
  apply List.ext_getElem?
  intro j
  by_cases hj : j < m
  · rw [List.getElem?_take_of_lt hj, Array.getElem?_toList]
    simp [putCells, show j < ts.length by omega, show j < cur.size by omega, hj]
  · rw [List.getElem?_take_eq_none (by omega), List.getElem?_eq_none (by simp; omega)]
theorem so_holds {w : World} {g : Nat} {cur : Array Value} {e : TypeId} {ss : List α} (hb : w.heap[g]? = some (.cells cur e (0, 0))) (ht : cur.toList.take ss.length = ss.map enc) : Holds enc w g 0 ss.toArray := by
  intro j hj
  have hj' : j < ss.length := by simpa using hj
  refine ⟨?_, by simp [World.frozen?, hb]⟩
  have h1 : (cur.toList.take ss.length)[j]? = (ss.map enc)[j]? := by rw [ht]
  rw [List.getElem?_take_of_lt hj'] at h1
  simp only [World.cell?, hb, Nat.zero_add]
  simp only [Option.isSome_none, Bool.false_eq_true, if_false]
  rw [← Array.getElem?_toList, h1]
  simp [hj']
/-- behind a sort (or a compacting): the row owns the first elements of what was laid -/
theorem so_owns {w : World} {base g cap n m : Nat} {e : TypeId} {os : Array Obj} {cur : Array Value} {ss ts : List α} (hl : ts.length = ss.length) (hm : m ≤ ts.length) (hbase : base ≤ g) (hb : w.heap[g]? = some (.cells cur e (0, 0)))
    (h1 : ss.length ≤ cap) (h2 : cap ≤ maxLen) (h3 : cur.size = cap * 1) :
    (grow (putRow enc (Sort.ahead w n) g 0 ts.toArray) os).ownsRow base e 1 (.slice (some ⟨g, 0, none⟩) m cap) m ((ts.take m).map enc) :=
  ⟨by simp; omega, .inr ⟨g, cap, _, rfl, hbase, so_heap _ hb, by omega, h2, by simp [putCells, h3], by rw [Nat.mul_one]; exact so_take cur ts m hm (by omega)⟩⟩
end
/-- what a function that writes a row of the caller's leaves -/
theorem so_kept {w w' : World} {g : Nat} {P : Nat → Prop} (hg : w.grownBy w' (some g)) (hP : P g) : Kept w w' P :=
  ⟨hg.size, fun i hi hn => hg.block i hi (fun e => hn (by cases e; exact hP))⟩
theorem so_below {w0 w w' : World} {g : Nat} (hB : Below w0.heap.size w0 w) (hg : w.grownBy w' (some g)) (hb : w0.heap.size ≤ g) : Below w0.heap.size w0 w' :=
  pw_below_grown hB (some g) hB.size hg (fun k e => by cases e; exact hb)
/-! ### texts as lists of bytes -/
def toL (b : ByteArray) : List UInt8 := b.data.toList
def ofL (l : List UInt8) : ByteArray := ⟨l.toArray⟩
theorem ofL_toL (b : ByteArray) : ofL (toL b) = b := by simp [ofL, toL]
theorem toL_ofL (l : List UInt8) : toL (ofL l) = l := by simp [ofL, toL]
theorem encs_toL (xs : List ByteArray) : xs.map Value.string = (xs.map toL).map encStr := by
  rw [List.map_map]
  exact List.map_congr_left fun x _ => by simp [encStr, toL]
theorem encs_ofL (ls : List (List UInt8)) : ls.map encStr = (ls.map ofL).map Value.string := by
  rw [List.map_map]
  exact List.map_congr_left fun x _ => by simp [encStr, ofL]
def sortS (l : List ByteArray) : List ByteArray := ((l.map toL).mergeSort fun x y => decide (x ≤ y)).map ofL
def compactS (l : List ByteArray) : List ByteArray := (Go.Lib.compact (l.map toL)).map ofL
theorem sortS_len (l : List ByteArray) : (sortS l).length = l.length := by simp [sortS]
theorem compactS_len (l : List ByteArray) : (compactS l).length ≤ l.length := by
  unfold compactS Go.Lib.compact Go.Lib.compactUpTo
  simp only [List.length_map]
  exact Nat.le_trans (List.length_filter_le _ _) (by simp)
def sortI (l : List Int) : List Int := l.mergeSort fun x y => decide (x ≤ y)
def compactI (l : List Int) : List Int := Go.Lib.compact l
theorem sortI_len (l : List Int) : (sortI l).length = l.length := by simp [sortI]
theorem compactI_len (l : List Int) : (compactI l).length ≤ l.length := by
  unfold compactI Go.Lib.compact Go.Lib.compactUpTo
  simp only [List.length_map]
  exact Nat.le_trans (List.length_filter_le _ _) (by simp)
end Go.Proofs.Ythpejcnldecmoaa.H
namespace Go.Proofs.Ythpejcnldecmoaa.H
open Go.RowKit Go.Proofs.YthpejcnldecmoaaW.PrintWords
set_option linter.unusedVariables false
section
variable {α : Type} [Inhabited α] [DecidableEq α]
theorem cut_mem (d : Array α) : ∀ (m : Nat), ∀ x, x ∈ Go.Lib.compactUpTo d m ↔ ∃ j, j < m ∧ d[j]! = x
  | 0, x => by simp [Go.Lib.compactUpTo]
  | m + 1, x => by
    rw [Go.Lib.compactUpTo_succ, List.mem_append, cut_mem d m x]
    constructor
    · rintro (⟨j, h1, h2⟩ | h)
      · exact ⟨j, by omega, h2⟩
      · split at h
        · exact ⟨m, by omega, by simpa using (List.mem_singleton.1 h).symm⟩
        · simp at h
    · rintro ⟨j, h1, h2⟩
      rcases Nat.lt_or_ge j m with h | h
      · exact .inl ⟨j, h, h2⟩
      · obtain rfl : j = m := by omega
        by_cases hk : Go.Lib.keeps d j = true
        · exact .inr (by rw [if_pos hk]; simp [h2])
        · left
          have : 0 < j ∧ d[j]! = d[j - 1]! := by
            unfold Go.Lib.keeps at hk
            simp at hk
            refine ⟨by omega, ?_⟩
            simpa using hk.2
          exact ⟨j - 1, by omega, by rw [← this.2]; exact h2⟩
theorem cut_sorted (lt : α → α → Prop) (le : α → α → Prop) (hle : ∀ a b c, le a b → le b c → le a c) (hlt : ∀ a b, le a b → a ≠ b → lt a b) (hll : ∀ a b c, le a b → lt b c → lt a c) (d : Array α) (hd : ∀ i j, i ≤ j → j < d.size → le d[i]! d[j]!) : ∀ (m : Nat), m ≤ d.size → (Go.Lib.compactUpTo d m).Pairwise lt
  | 0, _ => by simp [Go.Lib.compactUpTo]
  | m + 1, hm => by
    rw [Go.Lib.compactUpTo_succ, List.pairwise_append]
    refine ⟨cut_sorted lt le hle hlt hll d hd m (by omega), by split <;> simp, fun x hx y hy => ?_⟩
    split at hy
    case isFalse => simp at hy
    rename_i hk
    obtain ⟨j, hj, rfl⟩ := (cut_mem d m x).1 hx
    rw [List.mem_singleton.1 hy]
    unfold Go.Lib.keeps at hk
    simp at hk
    have hne : d[m - 1]! ≠ d[m]! := by
      intro e
      rcases hk with h | h
      · omega
      · exact h (by simpa using e.symm)
    exact hll _ _ _ (hd j (m - 1) (by omega) (by omega)) (hlt _ _ (hd (m - 1) m (by omega) (by omega)) hne)
end
def setS (l : List ByteArray) : List ByteArray := compactS (sortS l)
theorem toL_inj {a b : ByteArray} (h : toL a = toL b) : a = b := by rw [← ofL_toL a, ← ofL_toL b, h]
theorem map_toL_setS (l : List ByteArray) : (setS l).map toL = Go.Lib.compact ((l.map toL).mergeSort fun x y => decide (x ≤ y)) := by
  unfold setS compactS sortS
  rw [List.map_map, List.map_map]
  have e1 : ((toL ∘ ofL) : List UInt8 → List UInt8) = id := by funext x; simp [toL_ofL]
  rw [e1, List.map_id, List.map_id]
theorem mem_setS {l : List ByteArray} {x : ByteArray} : x ∈ setS l ↔ x ∈ l := by
  have h1 : x ∈ setS l ↔ toL x ∈ (setS l).map toL := by
    rw [List.mem_map]
    exact ⟨fun h => ⟨x, h, rfl⟩, fun ⟨y, h, e⟩ => toL_inj e ▸ h⟩
  have h2 : x ∈ l ↔ toL x ∈ (l.map toL).mergeSort fun x y => decide (x ≤ y) := by
    rw [List.mem_mergeSort, List.mem_map]
    exact ⟨fun h => ⟨x, h, rfl⟩, fun ⟨y, h, e⟩ => toL_inj e ▸ h⟩
  rw [h1, h2, map_toL_setS]
  unfold Go.Lib.compact
  generalize ((l.map toL).mergeSort fun x y => decide (x ≤ y)) = s
  rw [cut_mem, List.mem_iff_getElem]
  constructor
  · rintro ⟨j, hj, e⟩
    exact ⟨j, hj, by simpa [hj] using e⟩
  · rintro ⟨j, hj, e⟩
    exact ⟨j, hj, by simpa [hj] using e⟩
theorem setS_sorted (l : List ByteArray) : ((setS l).map toL).Pairwise (· < ·) := by
  rw [map_toL_setS]
  have hs := List.pairwise_mergeSort (le := fun x y : List UInt8 => decide (x ≤ y)) (by intro a b c; simp; exact fun h1 h2 => List.le_trans h1 h2) (by intro a b; simp; exact List.le_total a b) (l.map toL)
  unfold Go.Lib.compact
  revert hs
  generalize ((l.map toL).mergeSort fun x y => decide (x ≤ y)) = s
  intro hs
  refine cut_sorted (· < ·) (· ≤ ·) (fun a b c => List.le_trans) (fun a b h hne => ?_) (fun a b c => List.lt_of_le_of_lt) s.toArray (fun i j hij hj => ?_) s.length (by simp)
  · rcases List.le_iff_lt_or_eq.1 h with h | h
    · exact h
    · exact absurd h hne
  · simp at hj
    rcases Nat.lt_or_ge i j with h | h
    · have := List.pairwise_iff_getElem.1 hs i j (by omega) hj h
      simpa [hj, show i < s.length by omega] using this
    · obtain rfl : i = j := by omega
      exact List.le_refl _
theorem setS_ext {l l' : List ByteArray} (h : ∀ x, x ∈ l ↔ x ∈ l') : setS l = setS l' := by
  have e : (setS l).map toL = (setS l').map toL := by
    have n1 : ((setS l).map toL).Nodup := List.Pairwise.imp (R := (· < ·)) (fun {a b} h => by rintro rfl; exact List.lt_irrefl a h) (setS_sorted l)
    have n2 : ((setS l').map toL).Nodup := List.Pairwise.imp (R := (· < ·)) (fun {a b} h => by rintro rfl; exact List.lt_irrefl a h) (setS_sorted l')
    refine List.Perm.eq_of_pairwise (le := (· < ·)) ?_ (setS_sorted l) (setS_sorted l') ((List.perm_ext_iff_of_nodup n1 n2).2 fun x => ?_)
    · intro a b _ _ h1 h2
      exact absurd (List.lt_trans h1 h2) (List.lt_irrefl a)
    · rw [List.mem_map, List.mem_map]
      constructor
      · rintro ⟨y, hy, rfl⟩; exact ⟨y, mem_setS.2 ((h y).1 (mem_setS.1 hy)), rfl⟩
      · rintro ⟨y, hy, rfl⟩; exact ⟨y, mem_setS.2 ((h y).2 (mem_setS.1 hy)), rfl⟩
  have := congrArg (List.map ofL) e
  rw [List.map_map, List.map_map] at this
  have e2 : (ofL ∘ toL) = (id : ByteArray → ByteArray) := by funext x; simp [ofL_toL]
  simpa [e2] using this
theorem setS_len (l : List ByteArray) : (setS l).length ≤ l.length := by
  have := compactS_len (sortS l)
  rw [sortS_len] at this
  exact this
end Go.Proofs.Ythpejcnldecmoaa.H
/-
  DERIVED: THE SHELF's CONTRACTS AT THIS DUMP, IN PLAIN WORDS (tools/lay-plain.mjs out of 'TryShelf.lean', which tools/lay-shelf.mjs wrote): THE SAME DECLARATIONS UNDER THE SAME NAMES: 'import', 'namespace', 'open', 'def', 'theorem' AND NOTHING ELSE: no command of the shelf's: FOR A HAND-IN. Each laying: the table of numbers ('.._ren') and one theorem, a field a fact of the dump's own or the kernel's comparison; each contract: ONE APPLICATION.
-/
namespace Go.Proofs
open Go.Shelf
def Try.lays194_ren : Go.Shelf.Ren := ⟨fun | 194 => 50 | n => n, fun | 31 => 28 | 9 => 9 | 3 => 3 | 4 => 4 | 0 => 0 | n => n, fun | n => n⟩
theorem Try.lays194 : Go.Proofs.Lays.n194 Try.prog Try.lays194_ren := {
  mixed := by kernel_rfl
  f194 := Try.func50.trans (congrArg some (by kernel_rfl))
  t0 := Try.underlying0
  a0 := Try.isAgg0
  z0 := Try.sizeOf0
  v0 := Try.zeroValue0
  t3 := Try.underlying3
  a3 := Try.isAgg3
  z3 := Try.sizeOf3
  v3 := Try.zeroValue3
  t4 := Try.underlying4
  a4 := Try.isAgg4
  z4 := Try.sizeOf4
  v4 := Try.zeroValue4
  t9 := Try.underlying9
  a9 := Try.isAgg9
  z9 := Try.sizeOf9
  v9 := Try.zeroValue9
  t31 := Try.underlying28
  a31 := Try.isAgg28
  z31 := Try.sizeOf28
  v31 := Try.zeroValue28 }
open Go.RowKit Go.Lib Go.Sort in
/-- slices.Compact at []string, over an array: the library's two loops are walked. (LAID: no walk: one application.) -/
theorem Try.slices_Compact_string_arr (blk off cap : Nat) (d : Array (List UInt8)) (w : World) (hH : Holds encStr w blk off d) (hsz : d.size ≤ 9223372036854775807) (hcap : d.size ≤ cap) :
    Calls Try.prog 50 #[.slice (some ⟨blk, off, none⟩) d.size cap] w fun e w' => e = .returned (.slice (some ⟨blk, off, none⟩) (compactUpTo d d.size).length cap) ∧ ∃ q, w' = putRow encStr (Sort.ahead w q) blk off (compactUpTo d d.size ++ List.replicate (d.size - (compactUpTo d d.size).length) []).toArray := Any.slices_Compact_string_arr Try.lays194 blk off cap d w hH hsz hcap
open Go.RowKit Go.Lib Go.Sort in
/-- slices.Compact at []string: "Compact replaces consecutive runs of equal elements with a single copy. This is like the uniq command found on Unix. Compact modifies the contents of the slice s and returns the modified slice, which may have a smaller length. Compact zeroes the elements between the new length and the original length. The result preserves the nilness of s.": IT RETURNS THE SLICE CUT TO 'Lib.compact zs'; ITS CELLS HOLD 'Lib.compact zs', THEN ZERO VALUES up to the old length; all else is as it was, but for the count of draws. IN THE WORDS OF slices.Sort's CONTRACT ('Holds', 'putRow'): so the everyday 'slices.Sort(xs); xs = slices.Compact(xs)' goes from the one contract to the other. It asks 'zs.length ≤ cap' (every slice's: the reslicing 's[:k]' looks at it). Length 0, nil: '.._empty'. (LAID: no walk: one application.) -/
theorem Try.slices_Compact_string (blk off cap : Nat) (zs : List (List UInt8)) (w : World) (hH : Holds encStr w blk off zs.toArray) (hsz : zs.length ≤ 9223372036854775807) (hcap : zs.length ≤ cap) :
    Calls Try.prog 50 #[.slice (some ⟨blk, off, none⟩) zs.length cap] w fun e w' => e = .returned (.slice (some ⟨blk, off, none⟩) (Lib.compact zs).length cap) ∧ ∃ q, w' = putRow encStr (Sort.ahead w q) blk off (Lib.compact zs ++ List.replicate (zs.length - (Lib.compact zs).length) []).toArray := Any.slices_Compact_string Try.lays194 blk off cap zs w hH hsz hcap
open Go.RowKit Go.Lib Go.Sort in
/-- The same at a slice of length 0, a nil one too: it comes back as it is. (LAID: no walk: one application.) -/
theorem Try.slices_Compact_string_empty (a : Option Addr) (cap : Nat) (w : World) :
    Calls Try.prog 50 #[.slice a 0 cap] w fun e w' => e = .returned (.slice a 0 cap) ∧ w' = w := Any.slices_Compact_string_empty Try.lays194 a cap w
open Go.RowKit Go.Lib Go.Sort in
/-- slices.Compact at []string, of an argument. (LAID: no walk: one application.) -/
theorem Try.slices_Compact_string_cells (b off n c : Nat) (Sx : Nat → ByteArray) (w : World) (hbig : n ≤ 9223372036854775807) (hcap : n ≤ c) (hc : ∀ i, i < n → w.cell? ⟨b, off + i, none⟩ = some (.string (Sx i))) (hf : ∀ j, j < n → w.frozen? ⟨b, off + j, none⟩ = false) :
    Calls Try.prog 50 #[.slice (some ⟨b, off, none⟩) n c] w fun e w' => e = .returned (.slice (some ⟨b, off, none⟩) (Lib.compact (Lib.strsOf Sx n)).length c) ∧ ∃ q, w' = (w.drewN q).setCells b off ((Lib.compact (Lib.strsOf Sx n) ++ List.replicate (n - (Lib.compact (Lib.strsOf Sx n)).length) []).map encStr) := Any.slices_Compact_string_cells Try.lays194 b off n c Sx w hbig hcap hc hf
def Try.laysSlE43_f50_ren : Go.Shelf.Ren := ⟨fun | 43 => 50 | n => n, fun | 22 => 28 | 23 => 9 | 3 => 3 | 4 => 4 | 0 => 0 | n => n, fun | n => n⟩
theorem Try.laysSlE43_f50 : Go.Proofs.SlLaysE.n43 Try.prog Try.laysSlE43_f50_ren := {
  mixed := by kernel_rfl
  f43 := ⟨Try.f50.name, by decide, Try.func50.trans (congrArg some (by kernel_rfl))⟩
  t0 := Try.underlying0
  a0 := Try.isAgg0
  z0 := Try.sizeOf0
  v0 := Try.zeroValue0
  t3 := Try.underlying3
  a3 := Try.isAgg3
  z3 := Try.sizeOf3
  v3 := Try.zeroValue3
  t4 := Try.underlying4
  a4 := Try.isAgg4
  z4 := Try.sizeOf4
  v4 := Try.zeroValue4
  t22 := Try.underlying28
  a22 := Try.isAgg28
  z22 := Try.sizeOf28
  v22 := Try.zeroValue28
  a23 := Try.isAgg9
  z23 := Try.sizeOf9 }
open Go.RowKit Go.Lib Go.Sort in
/-- slices.Compact: "Compact replaces consecutive runs of equal elements with a single copy. .. Compact zeroes the elements between the new length and the original length.": IT RETURNS THE SLICE CUT TO 'compactUpTo d d.size'; ITS CELLS HOLD THAT, THEN ZERO VALUES up to the old length; the library's two loops are walked. (LAID AT THE INSTANCE 'slices.Compact[[]string,string]': no walk: one application.) -/
theorem Try.slices_Compact {α : Type} [Inhabited α] [DecidableEq α] (enc : α → Value) (hO : OneCell enc) (heq : EqlAt Try.prog 9 enc (fun x y => decide (x = y))) (hne : NeqAt Try.prog 9 enc (fun x y => decide (x = y))) (zr : α) (v23 : ∀ w, (zeroValue 9).run Try.prog w = .ok (enc zr) w) (blk off cap : Nat) (d : Array α) (w : World) (hH : Holds enc w blk off d) (hsz : d.size ≤ 9223372036854775807) (hcap : d.size ≤ cap) :
    Calls Try.prog 50 #[.slice (some ⟨blk, off, none⟩) d.size cap] w fun e w' => e = .returned (.slice (some ⟨blk, off, none⟩) (compactUpTo d d.size).length cap) ∧ ∃ q, w' = putRow enc (Sort.ahead w q) blk off (compactUpTo d d.size ++ List.replicate (d.size - (compactUpTo d d.size).length) zr).toArray := AnyE.slices_Compact Try.laysSlE43_f50 enc hO heq hne zr v23 blk off cap d w hH hsz hcap
def Try.laysSlM6_f49_ren : Go.Shelf.Ren := ⟨fun | 6 => 49 | 8 => 62 | 9 => 61 | 19 => 74 | 20 => 75 | 21 => 65 | 22 => 66 | 23 => 67 | 24 => 68 | 25 => 69 | 26 => 70 | 27 => 71 | 28 => 72 | 29 => 73 | 36 => 76 | 31 => 77 | 32 => 78 | 37 => 79 | 38 => 80 | 39 => 81 | 41 => 82 | n => n, fun | 27 => 28 | 29 => 9 | 3 => 3 | 32 => 98 | 26 => 28 | 0 => 0 | 44 => 110 | 46 => 112 | 4 => 4 | 36 => 102 | 35 => 101 | 41 => 107 | 5 => 5 | 9 => 9 | 53 => 113 | 57 => 117 | 63 => 119 | 64 => 120 | n => n, fun | n => n⟩
theorem Try.laysSlM6_f49 : Go.Proofs.SlLaysM.n6 Try.prog Try.laysSlM6_f49_ren := {
  mixed := by kernel_rfl
  f6 := ⟨Try.f49.name, by decide, Try.func49.trans (congrArg some (by kernel_rfl))⟩
  f8 := Try.func62.trans (congrArg some (by kernel_rfl))
  f9 := ⟨Try.f61.name, by decide, Try.func61.trans (congrArg some (by kernel_rfl))⟩
  f19 := Try.func74.trans (congrArg some (by kernel_rfl))
  f20 := Try.func75.trans (congrArg some (by kernel_rfl))
  f21 := ⟨Try.f65.name, by decide, Try.func65.trans (congrArg some (by kernel_rfl))⟩
  f22 := ⟨Try.f66.name, by decide, Try.func66.trans (congrArg some (by kernel_rfl))⟩
  f23 := ⟨Try.f67.name, by decide, Try.func67.trans (congrArg some (by kernel_rfl))⟩
  f24 := ⟨Try.f68.name, by decide, Try.func68.trans (congrArg some (by kernel_rfl))⟩
  f25 := ⟨Try.f69.name, by decide, Try.func69.trans (congrArg some (by kernel_rfl))⟩
  f26 := ⟨Try.f70.name, by decide, Try.func70.trans (congrArg some (by kernel_rfl))⟩
  f27 := ⟨Try.f71.name, by decide, Try.func71.trans (congrArg some (by kernel_rfl))⟩
  f28 := ⟨Try.f72.name, by decide, Try.func72.trans (congrArg some (by kernel_rfl))⟩
  f29 := ⟨Try.f73.name, by decide, Try.func73.trans (congrArg some (by kernel_rfl))⟩
  f31 := Try.func77.trans (congrArg some (by kernel_rfl))
  f32 := Try.func78.trans (congrArg some (by kernel_rfl))
  f36 := ⟨Try.f76.name, by decide, Try.func76.trans (congrArg some (by kernel_rfl))⟩
  f37 := ⟨Try.f79.name, by decide, Try.func79.trans (congrArg some (by kernel_rfl))⟩
  f38 := ⟨Try.f80.name, by decide, Try.func80.trans (congrArg some (by kernel_rfl))⟩
  f39 := ⟨Try.f81.name, by decide, Try.func81.trans (congrArg some (by kernel_rfl))⟩
  f41 := ⟨Try.f82.name, by decide, Try.func82.trans (congrArg some (by kernel_rfl))⟩
  t0 := Try.underlying0
  a0 := Try.isAgg0
  z0 := Try.sizeOf0
  v0 := Try.zeroValue0
  t3 := Try.underlying3
  a3 := Try.isAgg3
  z3 := Try.sizeOf3
  v3 := Try.zeroValue3
  t4 := Try.underlying4
  a4 := Try.isAgg4
  z4 := Try.sizeOf4
  v4 := Try.zeroValue4
  t5 := Try.underlying5
  a5 := Try.isAgg5
  z5 := Try.sizeOf5
  v5 := Try.zeroValue5
  t9 := Try.underlying9
  a9 := Try.isAgg9
  z9 := Try.sizeOf9
  v9 := Try.zeroValue9
  t26 := Try.underlying28
  a26 := Try.isAgg28
  z26 := Try.sizeOf28
  v26 := Try.zeroValue28
  t27 := Try.underlying28
  a27 := Try.isAgg28
  z27 := Try.sizeOf28
  v27 := Try.zeroValue28
  t29 := Try.underlying9
  a29 := Try.isAgg9
  z29 := Try.sizeOf9
  v29 := Try.zeroValue9
  t32 := Try.underlying98
  a32 := Try.isAgg98
  z32 := Try.sizeOf98
  v32 := Try.zeroValue98
  t35 := Try.underlying101
  a35 := Try.isAgg101
  z35 := Try.sizeOf101
  v35 := Try.zeroValue101
  t36 := Try.underlying102
  a36 := Try.isAgg102
  z36 := Try.sizeOf102
  v36 := Try.zeroValue102
  t41 := Try.underlying107
  a41 := Try.isAgg107
  z41 := Try.sizeOf107
  v41 := Try.zeroValue107
  t44 := Try.underlying110
  a44 := Try.isAgg110
  z44 := Try.sizeOf110
  v44 := Try.zeroValue110
  t46 := Try.underlying112
  a46 := Try.isAgg112
  z46 := Try.sizeOf112
  v46 := Try.zeroValue112
  t53 := Try.underlying113
  a53 := Try.isAgg113
  z53 := Try.sizeOf113
  v53 := Try.zeroValue113
  t57 := Try.underlying117
  a57 := Try.isAgg117
  z57 := Try.sizeOf117
  v57 := Try.zeroValue117
  t63 := Try.underlying119
  a63 := Try.isAgg119
  z63 := Try.sizeOf119
  v63 := Try.zeroValue119
  t64 := Try.underlying120
  a64 := Try.isAgg120
  z64 := Try.sizeOf120
  v64 := Try.zeroValue120 }
open Go.Sort Go.RowKit in
theorem Try.slices_Sort_string (blk off cap : Nat) (ss : List (List UInt8)) (w : World) (hH : Holds encStr w blk off ss.toArray) (hblk : blk < w.heap.size) (hsz : ss.length < 4611686018427387904) :
    Calls Try.prog 49 #[.slice (some ⟨blk, off, none⟩) ss.length cap] w fun e w' =>
      e = .returned (.tuple #[]) ∧ ∃ n os, w' = grow (putRow encStr (Sort.ahead w n) blk off (ss.mergeSort fun x y => decide (x ≤ y)).toArray) os := AnyM.slices_Sort_string Try.laysSlM6_f49 blk off cap ss w hH hblk hsz
open Go.RowKit Go.Sort in
/-- .. and plain. (LAID AT THE INSTANCE 'slices.Sort[[]string,string]': no walk: one application.) -/
theorem Try.slices_Sort_string_none (p : Option Addr) (cap : Nat) (w : World) :
    Calls Try.prog 49 #[.slice p 0 cap] w fun e w' => e = .returned (.tuple #[]) ∧ w' = w := AnyM.slices_Sort_string_none Try.laysSlM6_f49 p cap w
open Go.RowKit Go.Sort in
/-- slices.Sort at []string. -/
theorem Try.slices_Sort_string_own (blk off cap : Nat) (ss : List (List UInt8)) (w : World) (hH : Holds encStr w blk off ss.toArray) (hblk : blk < w.heap.size) (hsz : ss.length < 4611686018427387904) :
    Calls Try.prog 49 #[.slice (some ⟨blk, off, none⟩) ss.length cap] w fun e w' => e = .returned (.tuple #[]) ∧ ∃ n os, w' = grow (putRow encStr (Sort.ahead w n) blk off (ss.mergeSort fun x y => decide (x ≤ y)).toArray) os := AnyM.slices_Sort_string Try.laysSlM6_f49 blk off cap ss w hH hblk hsz
end Go.Proofs
namespace Go.Proofs.Ythpejcnldecmoaa.H
open Go.RowKit Go.Sort Go.Proofs.YthpejcnldecmoaaW.PrintWords Go.Proofs.YthpejcnldecmoaaW.PrintLast Go.Proofs.YthpejcnldecmoaaW.PrintMore
set_option linter.unusedVariables false
def slices_Compact_string_string.f (l : List ByteArray) : Option (List ByteArray) := some (compactS l)
theorem slices_Compact_string_string.calls (P0_ : Nat → Prop) (u9000_ : Value) (l0 r : List ByteArray) (w0 w : World) (hB : Below w0.heap.size w0 w) (ho0 : Kd.R Kd.string 9 w w0.heap.size P0_ u9000_ l0) (h : slices_Compact_string_string.f l0 = some r) :
    Calls Try.prog 50 #[u9000_] w fun e w' => ∃ v0_ : Value, e = .returned v0_ ∧ Kd.R Kd.string 9 w' w0.heap.size (fun k_ => (P0_ k_ ∨ w.heap.size ≤ k_)) v0_ r ∧ Below w0.heap.size w0 w' ∧ Kept w w' (fun k_ => P0_ k_) := by
  cases h
  have ho := Kd.own_of_R ho0
  obtain ⟨hlen, ho⟩ := ho
  rcases ho with ⟨rfl, h0⟩ | ⟨g, cap, cur, rfl, hbase, hb, h1, h2, h3, h4⟩
  · obtain rfl := List.length_eq_zero_iff.1 h0
    refine (Try.slices_Compact_string_empty none 0 w).mono ?_
    rintro e w' ⟨rfl, rfl⟩
    exact ⟨_, rfl, by simpa [compactS, Go.Lib.compact, Go.Lib.compactUpTo] using Kd.R_mono ho0 (fun k hk => .inl hk), hB, Kept.refl _ _⟩
  · have e4 : cur.toList.take (l0.map toL).length = (l0.map toL).map encStr := by
      rw [← encs_toL, List.length_map]
      rw [Nat.mul_one] at h4
      exact h4
    have hP : P0_ g := ho0.1 g rfl
    have hz : (l0.map toL).length ≤ 9223372036854775807 := by rw [List.length_map]; unfold maxLen at h2; omega
    have c := Try.slices_Compact_string g 0 cap (l0.map toL) w (so_holds hb e4) hz (by simpa using h1)
    rw [List.length_map] at c
    refine c.mono ?_
    rintro e w' ⟨rfl, q, rfl⟩
    generalize ht : Go.Lib.compact (l0.map toL) ++ List.replicate (l0.length - (Go.Lib.compact (l0.map toL)).length) ([] : List UInt8) = ts
    have hcl : (Go.Lib.compact (l0.map toL)).length ≤ l0.length := by simpa [compactS] using compactS_len l0
    have hl : ts.length = (l0.map toL).length := by rw [← ht]; simp; omega
    have e0 : putRow encStr (Sort.ahead w q) g 0 ts.toArray = grow (putRow encStr (Sort.ahead w q) g 0 ts.toArray) #[] := by simp
    rw [e0]
    have hgr := so_grown (w := w) (g := g) (n := q) (os := #[]) (enc := encStr) ts.toArray
    refine ⟨_, rfl, ?_, so_below hB hgr hbase, so_kept hgr hP⟩
    have hr := so_owns (w := w) (n := q) (os := #[]) (enc := encStr) (m := (Go.Lib.compact (l0.map toL)).length) (ts := ts) (ss := l0.map toL) hl (by rw [hl]; simpa using hcl) hbase hb (by simpa using h1) h2 h3
    refine Kd.R_of_own ?_ (fun k hk => .inl (ho0.1 k (by simpa [Value.ownBlock] using hk)))
    rw [← ht, List.take_left' rfl, encs_ofL] at hr
    rw [show (compactS l0).length = (Go.Lib.compact (l0.map toL)).length by simp [compactS]]
    rw [ht] at hr
    exact hr
end Go.Proofs.Ythpejcnldecmoaa.H
namespace Go.Proofs.Ythpejcnldecmoaa.H
open Go.RowKit Go.Sort Go.Proofs.YthpejcnldecmoaaW.PrintWords Go.Proofs.YthpejcnldecmoaaW.PrintLast Go.Proofs.YthpejcnldecmoaaW.PrintMore
set_option linter.unusedVariables false
def slices_Sort_string_string.f (l : List ByteArray) : Option (List ByteArray) := if l.length < 4611686018427387904 then some (sortS l) else none
theorem slices_Sort_string_string.calls (P0_ : Nat → Prop) (u9000_ : Value) (l0 r : List ByteArray) (w0 w : World) (hB : Below w0.heap.size w0 w) (ho0 : Kd.R Kd.string 9 w w0.heap.size P0_ u9000_ l0) (h : slices_Sort_string_string.f l0 = some r) :
    Calls Try.prog 49 #[u9000_] w fun e w' => e = .returned (.tuple #[]) ∧ Kd.R Kd.string 9 w' w0.heap.size (fun k_ => (P0_ k_ ∨ w.heap.size ≤ k_)) u9000_ r ∧ Below w0.heap.size w0 w' ∧ Kept w w' (fun k_ => P0_ k_) := by
  unfold slices_Sort_string_string.f at h
  split at h
  case isFalse => cases h
  rename_i hz0
  cases h
  have ho := Kd.own_of_R ho0
  obtain ⟨hlen, ho⟩ := ho
  rcases ho with ⟨rfl, h0⟩ | ⟨g, cap, cur, rfl, hbase, hb, h1, h2, h3, h4⟩
  · obtain rfl := List.length_eq_zero_iff.1 h0
    refine (Try.slices_Sort_string_none none 0 w).mono ?_
    rintro e w' ⟨rfl, rfl⟩
    exact ⟨rfl, by simpa [sortS] using Kd.R_mono ho0 (fun k hk => .inl hk), hB, Kept.refl _ _⟩
  · have e4 : cur.toList.take (l0.map toL).length = (l0.map toL).map encStr := by
      rw [← encs_toL, List.length_map]
      rw [Nat.mul_one] at h4
      exact h4
    have hP : P0_ g := ho0.1 g rfl
    have hg : g < w.heap.size := (Array.getElem?_eq_some_iff.1 hb).1
    have hz : (l0.map toL).length < 4611686018427387904 := by rw [List.length_map]; exact hz0
    have c := Try.slices_Sort_string g 0 cap (l0.map toL) w (so_holds hb e4) hg hz
    rw [List.length_map] at c
    refine c.mono ?_
    rintro e w' ⟨rfl, n, os, rfl⟩
    have hgr := so_grown (w := w) (g := g) (n := n) (os := os) (enc := encStr) ((l0.map toL).mergeSort fun x y => decide (x ≤ y)).toArray
    refine ⟨rfl, ?_, so_below hB hgr hbase, so_kept hgr hP⟩
    have hr := so_owns (w := w) (n := n) (os := os) (enc := encStr) (m := l0.length) (ts := (l0.map toL).mergeSort fun x y => decide (x ≤ y)) (ss := l0.map toL) (by simp) (by simp) hbase hb (by simpa using h1) h2 h3
    refine Kd.R_of_own ?_ (fun k hk => .inl (ho0.1 k hk))
    rw [List.take_of_length_le (by simp), encs_ofL] at hr
    rw [sortS_len]
    simpa [sortS, encs] using hr
end Go.Proofs.Ythpejcnldecmoaa.H
-- made by a program of this session (wip/tools) out of the translation; Lean checks it.
namespace Go.Proofs.Ythpejcnldecmoaa.H
open Go.RowKit Go.Proofs.YthpejcnldecmoaaW.PrintWords Go.Proofs.YthpejcnldecmoaaW.PrintLast Go.Proofs.YthpejcnldecmoaaW.PrintMore
attribute [local go_sem] max2_int min2_int max_two min_two max_three min_three max_four min_four   -- for this text's walks alone
set_option linter.unusedVariables false
set_option linter.unusedSimpArgs false

/-! ### safe_Bound: function 30 -/
def safe_Bound.l0 : Nat → List ByteArray → List (Liter) → Int → Int → Option (List ByteArray)
 | 0, _, _, _, _ => none
 | k + 1, x3, x7, x8, x9 => if x9 < x8 then (if 0 ≤ x9 then (if x9 < (x7.length : Int) then (if ((rd_T47 x7 x9).kind) = 1 then ((safe_Vars.f k ((rd_T47 x7 x9).atom.pred) ((rd_T47 x7 x9).atom.args)).bind fun t104 => (if x3.length + t104.length < 8796093022208 then (safe_Bound.l0 k (x3 ++ t104) x7 x8 (wrap64 (x9 + 1))) else (none))) else (safe_Bound.l0 k x3 x7 x8 (wrap64 (x9 + 1)))) else (none)) else (none)) else ((slices_Sort_string_string.f x3).bind fun t110 => ((slices_Compact_string_string.f t110).bind fun t111 => (some t111)))
def safe_Bound.f (k : Nat) (a0_0 : ByteArray) (l0_1 : List (Term)) (l0_2 : List (Liter)) : Option (List ByteArray) := safe_Bound.l0 k ([] : List ByteArray) l0_2 (l0_2.length : Int) 0
theorem safe_Bound.mono_l : ∀ k, (∀ y0 y1 y2 y3, LeO (safe_Bound.l0 k y0 y1 y2 y3) (safe_Bound.l0 (k + 1) y0 y1 y2 y3))
 | 0 => fun _ _ _ _ r h => by simp [safe_Bound.l0] at h
 | k + 1 => by
  have ih0 := safe_Bound.mono_l k
  ·intro y0 y1 y2 y3
   unfold safe_Bound.l0
   repeat' first
   | (with_reducible exact ih0 _ _ _ _)
   | (with_reducible exact safe_Vars.mono _ _ _)
   | (with_reducible exact LeO.refl _)
   | (with_reducible exact LeO.none _)
   | (with_reducible refine LeO.ite ?_ ?_)
   | (with_reducible refine LeO.bind ?_ (fun _ => ?_))
   | exact ih0 _ _ _ _
   | exact safe_Vars.mono _ _ _
   | exact LeO.none _
   | refine LeO.ite ?_ ?_
   | refine LeO.bind ?_ (fun _ => ?_)
theorem safe_Bound.mono : ∀ a0 a1 a2 k, LeO (safe_Bound.f k a0 a1 a2) (safe_Bound.f (k + 1) a0 a1 a2) := by
 intro a0 a1 a2 k
 have ih0 := safe_Bound.mono_l k
 unfold safe_Bound.f
 repeat' first
   | (with_reducible exact ih0 _ _ _ _)
   | (with_reducible exact safe_Vars.mono _ _ _)
   | (with_reducible exact LeO.refl _)
   | (with_reducible exact LeO.none _)
   | (with_reducible refine LeO.ite ?_ ?_)
   | (with_reducible refine LeO.bind ?_ (fun _ => ?_))
   | exact ih0 _ _ _ _
   | exact safe_Vars.mono _ _ _
   | exact LeO.none _
   | refine LeO.ite ?_ ?_
   | refine LeO.bind ?_ (fun _ => ?_)
set_option maxHeartbeats 8000000 in
set_option maxRecDepth 100000 in
theorem safe_Bound.calls (k : Nat) (a0_0 : ByteArray) (A0_1 : Option Addr) (c0_1 : Nat) (l0_1 : List (Term)) (A0_2 : Option Addr) (c0_2 : Nat) (l0_2 : List (Liter)) (r : List ByteArray) (w : World) (hr0_1 : Kd.C k45 w A0_1 l0_1.length l0_1) (hc0_1 : l0_1.length ≤ c0_1) (hr0_2 : Kd.C k47 w A0_2 l0_2.length l0_2) (hc0_2 : l0_2.length ≤ c0_2) (h : safe_Bound.f k a0_0 l0_1 l0_2 = some r) :
  Calls Try.prog 30 #[.agg #[.string a0_0, .slice A0_1 l0_1.length c0_1, .slice A0_2 l0_2.length c0_2]] w fun e w' => ∃ v0_ : Value, e = .returned (v0_) ∧ Kd.R Kd.string 9 w' w.heap.size (fun _ => True) v0_ r ∧ Below w.heap.size w w' := by
 have hu27 := Try.underlying27
 have hu47 := Try.underlying47
 have hu24 := Try.underlying24
 have HR0_1 := Aside0.mk hr0_1
 have HC0_1 := Aside0.mk hc0_1
 clear hr0_1 hc0_1
 have HR0_2 := Aside0.mk hr0_2
 have HC0_2 := Aside0.mk hc0_2
 clear hr0_2 hc0_2
 have HB := Aside0.mk (Below.refl w.heap.size w)
 have H : (safe_Bound.l0 k ([] : List ByteArray) l0_2 (l0_2.length : Int) 0) = some r := h
 clear h
 have H' := Aside0.mk H
 clear H
 go_enter Try.func30, Try.ntmps30
 go_wp2_with (first | ((with_reducible refine gate_dst (N := 1) rfl ?_); refine box_event ?hg (N := 1) ?hd (cs := #[.string a0_0, .slice A0_1 l0_1.length c0_1, .slice A0_2 l0_2.length c0_2]) (t := 27) ?hr ?_; (case hd => rfl); (case hg => rfl); (case hr => first | (go_simp; done) | (go_simp; rfl)); intro gb101 hg w2 hbox hb; have n0_ := Aside0.mk (below_step (by repeat (first | (with_reducible first | exact HB.out | apply below_alloc | apply pw_below_drewN | apply below_drew1) | exact HB.out)) hb); have n1_ := Aside0.mk (hbox); have n2_ := Aside0.mk ((by rw [hg]; exact (below_size (by repeat (first | (with_reducible first | exact HB.out | apply below_alloc | apply pw_below_drewN | apply below_drew1) | exact HB.out))) : w.heap.size ≤ gb101)); have n3_ := Aside0.mk ((by rw [hg]; exact (below_size (by repeat (first | (with_reducible first | exact HB.out | apply below_alloc | apply pw_below_drewN | apply below_drew1) | exact HB.out))) : w.heap.size ≤ gb101)); clear HB; have HB := n0_; have BK101 := n1_; have GW101 := n2_; have GE101 := n3_; clear n0_ n1_ n2_ n3_; clear hb hbox hg; have hcz3_0 : w2.cell? ⟨gb101, 0, none⟩ = some (.string a0_0) := (blk_cell BK101.out 0).trans rfl; have hcz3_1 : w2.cell? ⟨gb101, 1, none⟩ = some (.slice A0_1 l0_1.length c0_1) := (blk_cell BK101.out 1).trans rfl; have hcz3_2 : w2.cell? ⟨gb101, 2, none⟩ = some (.slice A0_2 l0_2.length c0_2) := (blk_cell BK101.out 2).trans rfl; have hfz3_0 := blk_frozen BK101.out 0; have hfz3_1 := blk_frozen BK101.out 1; have hfz3_2 := blk_frozen BK101.out 2))
 go_loopg [3, 9] k (fun kq v3 v9 w' => ∃ (x3_1 : List ByteArray) (x9_1 : Int), v9 = .int .i64 x9_1 ∧ Aside0 (safe_Bound.l0 kq x3_1 l0_2 (l0_2.length : Int) x9_1 = some r) ∧ Aside0 (kq ≤ k) ∧ Aside0 (Kd.R Kd.string 9 w' w.heap.size (fun _ => True) v3 x3_1) ∧ Aside0 (w'.heap[gb101]? = some (.cells #[.string a0_0, (.slice A0_1 l0_1.length c0_1), (.slice A0_2 l0_2.length c0_2)] 27 (0, 0))) ∧ Aside0 (Below w.heap.size w w'))
 case atStart => exact ⟨(([] : List ByteArray)), (0), (by first | rfl | (simp; done) | (simp [*]; done)), H', ⟨Nat.le_refl _⟩, ⟨by first | exact Kd.R_nil _ _ _ _ _ | exact Kd.N_nil _ _ _ _ _ | exact Kd.V_nil _ _ _ _ _ | exact Kd.Q_nil _ _ _ _ _ | exact Kd.S_nil _ _ _ _ _⟩, ⟨by (with_reducible repeat (first | refine blk_drewN ?_ _ | refine blk_drew ?_ | refine blk_alloc ?_ _)); exact BK101.out⟩, ⟨by repeat (first | (with_reducible first | exact HB.out | apply below_alloc | apply pw_below_drewN | apply below_drew1 | refine below_set ?_ GE101.out) | exact HB.out)⟩⟩
 case round =>
  clear H'
  try clear p2
  try clear c3
  try clear hcz3_0
  try clear hcz3_1
  try clear hcz3_2
  try clear hfz3_0
  try clear hfz3_1
  try clear hfz3_2
  obtain ⟨x3_1, x9_1, rfl, HA, HK1, HO_3, BK101, HB⟩ := hrel
  cases gk with
  | zero => exact absurd HA.out (by simp [safe_Bound.l0])
  | succ k1 =>
   have H := HA.out
   clear HA
   simp only [safe_Bound.l0] at H
   by_cases c4 : x9_1 < (l0_2.length : Int)
   ·rw [if_pos c4] at H
    have c4b0 : decide (x9_1 < (l0_2.length : Int)) = true := decide_eq_true c4
    clear c4
    by_cases c5 : 0 ≤ x9_1
    ·rw [if_pos c5] at H
     have c5b0 : decide (0 ≤ x9_1) = true := decide_eq_true c5
     clear c5
     by_cases c6 : x9_1 < (l0_2.length : Int)
     ·rw [if_pos c6] at H
      have c6b0 : decide (x9_1 < (l0_2.length : Int)) = true := decide_eq_true c6
      clear c6
      by_cases c7 : ((rd_T47 l0_2 x9_1).kind) = 1
      ·rw [if_pos c7] at H
       have c7b0 : (((rd_T47 l0_2 x9_1).kind) == 1) = true := beq_iff_eq.mpr c7
       have c7b1 : (((rd_T47 l0_2 x9_1).kind) != 1) = false := bne_eq_false_iff_eq.mpr c7
       clear c7
       replace H := Option.bind_eq_some_iff.mp H
       obtain ⟨t104, A80, H⟩ := H
       replace H : (if x3_1.length + t104.length < 8796093022208 then (safe_Bound.l0 k1 (x3_1 ++ t104) l0_2 (l0_2.length : Int) (wrap64 (x9_1 + 1))) else (none)) = some r := H
       have A8 := Aside0.mk A80
       clear A80
       by_cases c9 : x3_1.length + t104.length < 8796093022208
       ·rw [if_pos c9] at H
        have LMc9 := Aside0.mk c9
        clear c9
        obtain ⟨y107, hy107⟩ : ∃ y_ : List ByteArray, y_ = (x3_1 ++ t104) := ⟨_, rfl⟩
        replace H : (safe_Bound.l0 k1 y107 l0_2 (l0_2.length : Int) (wrap64 (x9_1 + 1))) = some r := by first | (rw [hy107]; with_reducible exact H) | (have H2_ := (Option.bind_some _ _).symm.trans H; rw [hy107]; with_reducible exact H2_) | (have H2_ := (Option.bind_some _ _).symm.trans H; with_reducible exact H2_) | with_reducible exact H | (rw [hy107]; exact H) | exact H
        have Ny107 := Aside0.mk hy107
        clear hy107
        have H' := Aside0.mk H
        clear H
        have p102 : 0 ≤ (x9_1 : Int) := of_decide_eq_true (by first | (with_reducible assumption) | assumption)
        have q102 : x9_1 < (l0_2.length : Int) := of_decide_eq_true (by first | (with_reducible assumption) | assumption)
        obtain ⟨ad102, A102_2, c102_2, e102, hx102_0, hx102_1, hx102_2, hx102_3, hx102_4, hx102_5, hx102_6, hx102_7, hx102_8, hx102_9, hx102_10, hx102_11, hx102_12, hx102_13, hl102_2, hi102_2⟩ := at_T47 HR0_2.out x9_1 p102 q102
        cases e102
        replace hx102_0 := (HB.out.cell (blt_ hx102_0)).trans hx102_0
        replace hx102_1 := (HB.out.cell (blt_ hx102_1)).trans hx102_1
        replace hx102_2 := (HB.out.cell (blt_ hx102_2)).trans hx102_2
        replace hx102_3 := (HB.out.cell (blt_ hx102_3)).trans hx102_3
        replace hx102_4 := (HB.out.cell (blt_ hx102_4)).trans hx102_4
        replace hx102_5 := (HB.out.cell (blt_ hx102_5)).trans hx102_5
        replace hx102_6 := (HB.out.cell (blt_ hx102_6)).trans hx102_6
        replace hx102_7 := (HB.out.cell (blt_ hx102_7)).trans hx102_7
        replace hx102_8 := (HB.out.cell (blt_ hx102_8)).trans hx102_8
        replace hx102_9 := (HB.out.cell (blt_ hx102_9)).trans hx102_9
        replace hx102_10 := (HB.out.cell (blt_ hx102_10)).trans hx102_10
        replace hx102_11 := (HB.out.cell (blt_ hx102_11)).trans hx102_11
        replace hx102_12 := (HB.out.cell (blt_ hx102_12)).trans hx102_12
        replace hx102_13 := (HB.out.cell (blt_ hx102_13)).trans hx102_13
        have HR102_2 := Aside0.mk hi102_2
        have HC102_2 := Aside0.mk hl102_2
        clear hi102_2 hl102_2
        replace p102 := eq_true p102
        replace q102 := eq_true q102
        go_wp2_with (first | ((with_reducible refine gate_dst (N := 5) rfl ?_); refine box_event ?hg (N := 5) ?hd (cs := #[.int .i64 0, .string (⟨#[]⟩ : ByteArray), .slice none 0 0, .string (⟨#[]⟩ : ByteArray), .bool false, .string (⟨#[]⟩ : ByteArray), .bool false, .string (⟨#[]⟩ : ByteArray), .int .i64 0, .bool false, .string (⟨#[]⟩ : ByteArray), .bool false, .string (⟨#[]⟩ : ByteArray), .int .i64 0]) (t := 47) ?hr ?_; (case hd => rfl); (case hg => rfl); (case hr => first | (go_simp; done) | (go_simp; rfl)); intro gb103 hg w10 hbox hb; have n0_ := Aside0.mk (Kd.R_below (by (with_reducible repeat (first | apply Kd.R_alloc | apply Kd.R_drewN | apply Kd.R_drew)); exact HO_3.out) hb); have n1_ := Aside0.mk (blk_below (g := gb101) (o := .cells #[.string a0_0, .slice A0_1 l0_1.length c0_1, .slice (some ad102) l0_2.length c0_2] 27 (0, 0)) (by (with_reducible repeat (first | refine blk_drewN ?_ _ | refine blk_drew ?_ | refine blk_alloc ?_ _)); exact BK101.out) hb); have n2_ := Aside0.mk (below_step (by repeat (first | (with_reducible first | exact HB.out | apply below_alloc | apply pw_below_drewN | apply below_drew1 | refine below_set ?_ GE101.out) | exact HB.out)) hb); have n3_ := Aside0.mk (hbox); have n4_ := Aside0.mk ((by rw [hg]; exact (below_size (by repeat (first | (with_reducible first | exact HB.out | apply below_alloc | apply pw_below_drewN | apply below_drew1 | refine below_set ?_ GE101.out) | exact HB.out))) : w.heap.size ≤ gb103)); have n5_ := Aside0.mk ((by rw [hg]; exact (below_size (by repeat (first | (with_reducible first | exact HB.out | apply below_alloc | apply pw_below_drewN | apply below_drew1 | refine below_set ?_ GE101.out) | exact HB.out))) : w.heap.size ≤ gb103)); have n6_ := Aside0.mk ((by rw [hg]; exact Nat.ne_of_lt (blk_lt (g := gb101) (o := .cells #[.string a0_0, .slice A0_1 l0_1.length c0_1, .slice (some ad102) l0_2.length c0_2] 27 (0, 0)) (by (with_reducible repeat (first | refine blk_drewN ?_ _ | refine blk_drew ?_ | refine blk_alloc ?_ _)); exact BK101.out)) : gb101 ≠ gb103)); have n7_ := Aside0.mk ((by rw [hg]; exact Nat.ne_of_gt (blk_lt (g := gb101) (o := .cells #[.string a0_0, .slice A0_1 l0_1.length c0_1, .slice (some ad102) l0_2.length c0_2] 27 (0, 0)) (by (with_reducible repeat (first | refine blk_drewN ?_ _ | refine blk_drew ?_ | refine blk_alloc ?_ _)); exact BK101.out)) : gb103 ≠ gb101)); clear HO_3; clear BK101; clear HB; have HO_3 := n0_; have BK101 := n1_; have HB := n2_; have BK103 := n3_; have GW103 := n4_; have GE103 := n5_; have NB101_103 := n6_; have NB103_101 := n7_; clear n0_ n1_ n2_ n3_ n4_ n5_ n6_ n7_; clear hb hbox hg; have hnb11 := NB103_101.out; have hnc11 := NB101_103.out; have hcz12_0 : w10.cell? ⟨gb103, 0, none⟩ = some (.int .i64 0) := (blk_cell BK103.out 0).trans rfl; have hcz12_1 : w10.cell? ⟨gb103, 1, none⟩ = some (.string (⟨#[]⟩ : ByteArray)) := (blk_cell BK103.out 1).trans rfl; have hcz12_2 : w10.cell? ⟨gb103, 2, none⟩ = some (.slice none 0 0) := (blk_cell BK103.out 2).trans rfl; have hcz12_3 : w10.cell? ⟨gb103, 3, none⟩ = some (.string (⟨#[]⟩ : ByteArray)) := (blk_cell BK103.out 3).trans rfl; have hcz12_4 : w10.cell? ⟨gb103, 4, none⟩ = some (.bool false) := (blk_cell BK103.out 4).trans rfl; have hcz12_5 : w10.cell? ⟨gb103, 5, none⟩ = some (.string (⟨#[]⟩ : ByteArray)) := (blk_cell BK103.out 5).trans rfl; have hcz12_6 : w10.cell? ⟨gb103, 6, none⟩ = some (.bool false) := (blk_cell BK103.out 6).trans rfl; have hcz12_7 : w10.cell? ⟨gb103, 7, none⟩ = some (.string (⟨#[]⟩ : ByteArray)) := (blk_cell BK103.out 7).trans rfl; have hcz12_8 : w10.cell? ⟨gb103, 8, none⟩ = some (.int .i64 0) := (blk_cell BK103.out 8).trans rfl; have hcz12_9 : w10.cell? ⟨gb103, 9, none⟩ = some (.bool false) := (blk_cell BK103.out 9).trans rfl; have hcz12_10 : w10.cell? ⟨gb103, 10, none⟩ = some (.string (⟨#[]⟩ : ByteArray)) := (blk_cell BK103.out 10).trans rfl; have hcz12_11 : w10.cell? ⟨gb103, 11, none⟩ = some (.bool false) := (blk_cell BK103.out 11).trans rfl; have hcz12_12 : w10.cell? ⟨gb103, 12, none⟩ = some (.string (⟨#[]⟩ : ByteArray)) := (blk_cell BK103.out 12).trans rfl; have hcz12_13 : w10.cell? ⟨gb103, 13, none⟩ = some (.int .i64 0) := (blk_cell BK103.out 13).trans rfl; have hfz12_0 := blk_frozen BK103.out 0; have hfz12_1 := blk_frozen BK103.out 1; have hfz12_2 := blk_frozen BK103.out 2; have hfz12_3 := blk_frozen BK103.out 3; have hfz12_4 := blk_frozen BK103.out 4; have hfz12_5 := blk_frozen BK103.out 5; have hfz12_6 := blk_frozen BK103.out 6; have hfz12_7 := blk_frozen BK103.out 7; have hfz12_8 := blk_frozen BK103.out 8; have hfz12_9 := blk_frozen BK103.out 9; have hfz12_10 := blk_frozen BK103.out 10; have hfz12_11 := blk_frozen BK103.out 11; have hfz12_12 := blk_frozen BK103.out 12; have hfz12_13 := blk_frozen BK103.out 13) | ((with_reducible refine gate_callee (f := 31) rfl ?_); refine goesL_ (some 19) rfl rfl Try.func31 (by kernel_rfl) rfl #[.agg #[.string ((rd_T47 l0_2 x9_1).atom.pred), .slice A102_2 ((rd_T47 l0_2 x9_1).atom.args).length c102_2]] rfl (by (try simp only [List.map_toArray, List.map_cons, List.map_nil]); first | done | rfl | (simp only [List.length_drop, List.length_take]; rfl)) ?_; (with_reducible refine (safe_Vars.calls k1 ((rd_T47 l0_2 x9_1).atom.pred) _ _ ((rd_T47 l0_2 x9_1).atom.args) t104 _ ?side1 ?side2 A8.out).mono ?_); (case side1 => exact Kd.C_below HR102_2.out (by repeat (first | (with_reducible first | exact HB.out | apply below_alloc | apply pw_below_drewN | apply below_drew1 | refine below_set ?_ GE101.out | refine below_set ?_ GE103.out) | exact HB.out))); (case side2 => exact HC102_2.out); rintro e w13 ⟨v105, rfl, ho0, hb⟩; refine ⟨_, rfl, ?_⟩; have n0_ := Aside0.mk (Kd.R_elder' (by (with_reducible repeat (first | apply Kd.R_alloc | apply Kd.R_drewN | apply Kd.R_drew)); exact (Kd.R_mono (Kd.R_far (p := ⟨gb103, 13, none⟩) (Kd.R_far (p := ⟨gb103, 12, none⟩) (Kd.R_far (p := ⟨gb103, 11, none⟩) (Kd.R_far (p := ⟨gb103, 10, none⟩) (Kd.R_far (p := ⟨gb103, 9, none⟩) (Kd.R_far (p := ⟨gb103, 8, none⟩) (Kd.R_far (p := ⟨gb103, 7, none⟩) (Kd.R_far (p := ⟨gb103, 6, none⟩) (Kd.R_far (p := ⟨gb103, 5, none⟩) (Kd.R_far (p := ⟨gb103, 4, none⟩) (Kd.R_far (p := ⟨gb103, 3, none⟩) (Kd.R_far (p := ⟨gb103, 2, none⟩) (Kd.R_far (p := ⟨gb103, 1, none⟩) (Kd.R_far (p := ⟨gb103, 0, none⟩) (Kd.R_types HO_3.out BK103.out (by decide)) (fun _ hk => hk.2) _) (fun _ hk => hk.2) _) (fun _ hk => hk.2) _) (fun _ hk => hk.2) _) (fun _ hk => hk.2) _) (fun _ hk => hk.2) _) (fun _ hk => hk.2) _) (fun _ hk => hk.2) _) (fun _ hk => hk.2) _) (fun _ hk => hk.2) _) (fun _ hk => hk.2) _) (fun _ hk => hk.2) _) (fun _ hk => hk.2) _) (fun _ hk => hk.2) _) (fun _ h_ => h_.1))) (Kd.R_base ho0) hb); have n1_ := Aside0.mk (Kd.R_lower (Kd.R_new' ho0 (Kd.R_lt (by (with_reducible repeat (first | apply Kd.R_alloc | apply Kd.R_drewN | apply Kd.R_drew)); exact (Kd.R_mono (Kd.R_far (p := ⟨gb103, 13, none⟩) (Kd.R_far (p := ⟨gb103, 12, none⟩) (Kd.R_far (p := ⟨gb103, 11, none⟩) (Kd.R_far (p := ⟨gb103, 10, none⟩) (Kd.R_far (p := ⟨gb103, 9, none⟩) (Kd.R_far (p := ⟨gb103, 8, none⟩) (Kd.R_far (p := ⟨gb103, 7, none⟩) (Kd.R_far (p := ⟨gb103, 6, none⟩) (Kd.R_far (p := ⟨gb103, 5, none⟩) (Kd.R_far (p := ⟨gb103, 4, none⟩) (Kd.R_far (p := ⟨gb103, 3, none⟩) (Kd.R_far (p := ⟨gb103, 2, none⟩) (Kd.R_far (p := ⟨gb103, 1, none⟩) (Kd.R_far (p := ⟨gb103, 0, none⟩) (Kd.R_types HO_3.out BK103.out (by decide)) (fun _ hk => hk.2) _) (fun _ hk => hk.2) _) (fun _ hk => hk.2) _) (fun _ hk => hk.2) _) (fun _ hk => hk.2) _) (fun _ hk => hk.2) _) (fun _ hk => hk.2) _) (fun _ hk => hk.2) _) (fun _ hk => hk.2) _) (fun _ hk => hk.2) _) (fun _ hk => hk.2) _) (fun _ hk => hk.2) _) (fun _ hk => hk.2) _) (fun _ hk => hk.2) _) (fun _ h_ => h_.1))))) (below_size (by repeat (first | (with_reducible first | exact HB.out | apply below_alloc | apply pw_below_drewN | apply below_drew1 | refine below_set ?_ GE101.out | refine below_set ?_ GE103.out) | exact HB.out)))); have n2_ := Aside0.mk (blk_below (g := gb101) (o := .cells #[.string a0_0, .slice A0_1 l0_1.length c0_1, .slice (some ad102) l0_2.length c0_2] 27 (0, 0)) (by repeat (first | (with_reducible first | exact BK101.out | refine blk_drewN ?_ _ | refine blk_drew ?_ | refine blk_alloc ?_ _) | refine blk_far ?_ NB101_103.out _ | exact BK101.out)) hb); have n3_ := Aside0.mk (blk_below (g := gb103) (o := .cells #[.int .i64 ((rd_T47 l0_2 x9_1).kind), .string ((rd_T47 l0_2 x9_1).atom.pred), .slice A102_2 ((rd_T47 l0_2 x9_1).atom.args).length c102_2, .string ((rd_T47 l0_2 x9_1).op), .bool ((rd_T47 l0_2 x9_1).l.isVar), .string ((rd_T47 l0_2 x9_1).l.name), .bool ((rd_T47 l0_2 x9_1).l.val.isSym), .string ((rd_T47 l0_2 x9_1).l.val.sym), .int .i64 ((rd_T47 l0_2 x9_1).l.val.n), .bool ((rd_T47 l0_2 x9_1).r.isVar), .string ((rd_T47 l0_2 x9_1).r.name), .bool ((rd_T47 l0_2 x9_1).r.val.isSym), .string ((rd_T47 l0_2 x9_1).r.val.sym), .int .i64 ((rd_T47 l0_2 x9_1).r.val.n)] 47 (0, 0)) (by (with_reducible repeat (first | refine blk_drewN ?_ _ | refine blk_drew ?_ | refine blk_alloc ?_ _)); refine blk_put (cs := #[.int .i64 ((rd_T47 l0_2 x9_1).kind), .string ((rd_T47 l0_2 x9_1).atom.pred), .slice A102_2 ((rd_T47 l0_2 x9_1).atom.args).length c102_2, .string ((rd_T47 l0_2 x9_1).op), .bool ((rd_T47 l0_2 x9_1).l.isVar), .string ((rd_T47 l0_2 x9_1).l.name), .bool ((rd_T47 l0_2 x9_1).l.val.isSym), .string ((rd_T47 l0_2 x9_1).l.val.sym), .int .i64 ((rd_T47 l0_2 x9_1).l.val.n), .bool ((rd_T47 l0_2 x9_1).r.isVar), .string ((rd_T47 l0_2 x9_1).r.name), .bool ((rd_T47 l0_2 x9_1).r.val.isSym), .string ((rd_T47 l0_2 x9_1).r.val.sym), .int .i64 0]) ?_ 13 _ rfl; (with_reducible repeat (first | refine blk_drewN ?_ _ | refine blk_drew ?_ | refine blk_alloc ?_ _)); refine blk_put (cs := #[.int .i64 ((rd_T47 l0_2 x9_1).kind), .string ((rd_T47 l0_2 x9_1).atom.pred), .slice A102_2 ((rd_T47 l0_2 x9_1).atom.args).length c102_2, .string ((rd_T47 l0_2 x9_1).op), .bool ((rd_T47 l0_2 x9_1).l.isVar), .string ((rd_T47 l0_2 x9_1).l.name), .bool ((rd_T47 l0_2 x9_1).l.val.isSym), .string ((rd_T47 l0_2 x9_1).l.val.sym), .int .i64 ((rd_T47 l0_2 x9_1).l.val.n), .bool ((rd_T47 l0_2 x9_1).r.isVar), .string ((rd_T47 l0_2 x9_1).r.name), .bool ((rd_T47 l0_2 x9_1).r.val.isSym), .string (⟨#[]⟩ : ByteArray), .int .i64 0]) ?_ 12 _ rfl; (with_reducible repeat (first | refine blk_drewN ?_ _ | refine blk_drew ?_ | refine blk_alloc ?_ _)); refine blk_put (cs := #[.int .i64 ((rd_T47 l0_2 x9_1).kind), .string ((rd_T47 l0_2 x9_1).atom.pred), .slice A102_2 ((rd_T47 l0_2 x9_1).atom.args).length c102_2, .string ((rd_T47 l0_2 x9_1).op), .bool ((rd_T47 l0_2 x9_1).l.isVar), .string ((rd_T47 l0_2 x9_1).l.name), .bool ((rd_T47 l0_2 x9_1).l.val.isSym), .string ((rd_T47 l0_2 x9_1).l.val.sym), .int .i64 ((rd_T47 l0_2 x9_1).l.val.n), .bool ((rd_T47 l0_2 x9_1).r.isVar), .string ((rd_T47 l0_2 x9_1).r.name), .bool false, .string (⟨#[]⟩ : ByteArray), .int .i64 0]) ?_ 11 _ rfl; (with_reducible repeat (first | refine blk_drewN ?_ _ | refine blk_drew ?_ | refine blk_alloc ?_ _)); refine blk_put (cs := #[.int .i64 ((rd_T47 l0_2 x9_1).kind), .string ((rd_T47 l0_2 x9_1).atom.pred), .slice A102_2 ((rd_T47 l0_2 x9_1).atom.args).length c102_2, .string ((rd_T47 l0_2 x9_1).op), .bool ((rd_T47 l0_2 x9_1).l.isVar), .string ((rd_T47 l0_2 x9_1).l.name), .bool ((rd_T47 l0_2 x9_1).l.val.isSym), .string ((rd_T47 l0_2 x9_1).l.val.sym), .int .i64 ((rd_T47 l0_2 x9_1).l.val.n), .bool ((rd_T47 l0_2 x9_1).r.isVar), .string (⟨#[]⟩ : ByteArray), .bool false, .string (⟨#[]⟩ : ByteArray), .int .i64 0]) ?_ 10 _ rfl; (with_reducible repeat (first | refine blk_drewN ?_ _ | refine blk_drew ?_ | refine blk_alloc ?_ _)); refine blk_put (cs := #[.int .i64 ((rd_T47 l0_2 x9_1).kind), .string ((rd_T47 l0_2 x9_1).atom.pred), .slice A102_2 ((rd_T47 l0_2 x9_1).atom.args).length c102_2, .string ((rd_T47 l0_2 x9_1).op), .bool ((rd_T47 l0_2 x9_1).l.isVar), .string ((rd_T47 l0_2 x9_1).l.name), .bool ((rd_T47 l0_2 x9_1).l.val.isSym), .string ((rd_T47 l0_2 x9_1).l.val.sym), .int .i64 ((rd_T47 l0_2 x9_1).l.val.n), .bool false, .string (⟨#[]⟩ : ByteArray), .bool false, .string (⟨#[]⟩ : ByteArray), .int .i64 0]) ?_ 9 _ rfl; (with_reducible repeat (first | refine blk_drewN ?_ _ | refine blk_drew ?_ | refine blk_alloc ?_ _)); refine blk_put (cs := #[.int .i64 ((rd_T47 l0_2 x9_1).kind), .string ((rd_T47 l0_2 x9_1).atom.pred), .slice A102_2 ((rd_T47 l0_2 x9_1).atom.args).length c102_2, .string ((rd_T47 l0_2 x9_1).op), .bool ((rd_T47 l0_2 x9_1).l.isVar), .string ((rd_T47 l0_2 x9_1).l.name), .bool ((rd_T47 l0_2 x9_1).l.val.isSym), .string ((rd_T47 l0_2 x9_1).l.val.sym), .int .i64 0, .bool false, .string (⟨#[]⟩ : ByteArray), .bool false, .string (⟨#[]⟩ : ByteArray), .int .i64 0]) ?_ 8 _ rfl; (with_reducible repeat (first | refine blk_drewN ?_ _ | refine blk_drew ?_ | refine blk_alloc ?_ _)); refine blk_put (cs := #[.int .i64 ((rd_T47 l0_2 x9_1).kind), .string ((rd_T47 l0_2 x9_1).atom.pred), .slice A102_2 ((rd_T47 l0_2 x9_1).atom.args).length c102_2, .string ((rd_T47 l0_2 x9_1).op), .bool ((rd_T47 l0_2 x9_1).l.isVar), .string ((rd_T47 l0_2 x9_1).l.name), .bool ((rd_T47 l0_2 x9_1).l.val.isSym), .string (⟨#[]⟩ : ByteArray), .int .i64 0, .bool false, .string (⟨#[]⟩ : ByteArray), .bool false, .string (⟨#[]⟩ : ByteArray), .int .i64 0]) ?_ 7 _ rfl; (with_reducible repeat (first | refine blk_drewN ?_ _ | refine blk_drew ?_ | refine blk_alloc ?_ _)); refine blk_put (cs := #[.int .i64 ((rd_T47 l0_2 x9_1).kind), .string ((rd_T47 l0_2 x9_1).atom.pred), .slice A102_2 ((rd_T47 l0_2 x9_1).atom.args).length c102_2, .string ((rd_T47 l0_2 x9_1).op), .bool ((rd_T47 l0_2 x9_1).l.isVar), .string ((rd_T47 l0_2 x9_1).l.name), .bool false, .string (⟨#[]⟩ : ByteArray), .int .i64 0, .bool false, .string (⟨#[]⟩ : ByteArray), .bool false, .string (⟨#[]⟩ : ByteArray), .int .i64 0]) ?_ 6 _ rfl; (with_reducible repeat (first | refine blk_drewN ?_ _ | refine blk_drew ?_ | refine blk_alloc ?_ _)); refine blk_put (cs := #[.int .i64 ((rd_T47 l0_2 x9_1).kind), .string ((rd_T47 l0_2 x9_1).atom.pred), .slice A102_2 ((rd_T47 l0_2 x9_1).atom.args).length c102_2, .string ((rd_T47 l0_2 x9_1).op), .bool ((rd_T47 l0_2 x9_1).l.isVar), .string (⟨#[]⟩ : ByteArray), .bool false, .string (⟨#[]⟩ : ByteArray), .int .i64 0, .bool false, .string (⟨#[]⟩ : ByteArray), .bool false, .string (⟨#[]⟩ : ByteArray), .int .i64 0]) ?_ 5 _ rfl; (with_reducible repeat (first | refine blk_drewN ?_ _ | refine blk_drew ?_ | refine blk_alloc ?_ _)); refine blk_put (cs := #[.int .i64 ((rd_T47 l0_2 x9_1).kind), .string ((rd_T47 l0_2 x9_1).atom.pred), .slice A102_2 ((rd_T47 l0_2 x9_1).atom.args).length c102_2, .string ((rd_T47 l0_2 x9_1).op), .bool false, .string (⟨#[]⟩ : ByteArray), .bool false, .string (⟨#[]⟩ : ByteArray), .int .i64 0, .bool false, .string (⟨#[]⟩ : ByteArray), .bool false, .string (⟨#[]⟩ : ByteArray), .int .i64 0]) ?_ 4 _ rfl; (with_reducible repeat (first | refine blk_drewN ?_ _ | refine blk_drew ?_ | refine blk_alloc ?_ _)); refine blk_put (cs := #[.int .i64 ((rd_T47 l0_2 x9_1).kind), .string ((rd_T47 l0_2 x9_1).atom.pred), .slice A102_2 ((rd_T47 l0_2 x9_1).atom.args).length c102_2, .string (⟨#[]⟩ : ByteArray), .bool false, .string (⟨#[]⟩ : ByteArray), .bool false, .string (⟨#[]⟩ : ByteArray), .int .i64 0, .bool false, .string (⟨#[]⟩ : ByteArray), .bool false, .string (⟨#[]⟩ : ByteArray), .int .i64 0]) ?_ 3 _ rfl; (with_reducible repeat (first | refine blk_drewN ?_ _ | refine blk_drew ?_ | refine blk_alloc ?_ _)); refine blk_put (cs := #[.int .i64 ((rd_T47 l0_2 x9_1).kind), .string ((rd_T47 l0_2 x9_1).atom.pred), .slice none 0 0, .string (⟨#[]⟩ : ByteArray), .bool false, .string (⟨#[]⟩ : ByteArray), .bool false, .string (⟨#[]⟩ : ByteArray), .int .i64 0, .bool false, .string (⟨#[]⟩ : ByteArray), .bool false, .string (⟨#[]⟩ : ByteArray), .int .i64 0]) ?_ 2 _ rfl; (with_reducible repeat (first | refine blk_drewN ?_ _ | refine blk_drew ?_ | refine blk_alloc ?_ _)); refine blk_put (cs := #[.int .i64 ((rd_T47 l0_2 x9_1).kind), .string (⟨#[]⟩ : ByteArray), .slice none 0 0, .string (⟨#[]⟩ : ByteArray), .bool false, .string (⟨#[]⟩ : ByteArray), .bool false, .string (⟨#[]⟩ : ByteArray), .int .i64 0, .bool false, .string (⟨#[]⟩ : ByteArray), .bool false, .string (⟨#[]⟩ : ByteArray), .int .i64 0]) ?_ 1 _ rfl; (with_reducible repeat (first | refine blk_drewN ?_ _ | refine blk_drew ?_ | refine blk_alloc ?_ _)); refine blk_put (cs := #[.int .i64 0, .string (⟨#[]⟩ : ByteArray), .slice none 0 0, .string (⟨#[]⟩ : ByteArray), .bool false, .string (⟨#[]⟩ : ByteArray), .bool false, .string (⟨#[]⟩ : ByteArray), .int .i64 0, .bool false, .string (⟨#[]⟩ : ByteArray), .bool false, .string (⟨#[]⟩ : ByteArray), .int .i64 0]) ?_ 0 _ rfl; (with_reducible repeat (first | refine blk_drewN ?_ _ | refine blk_drew ?_ | refine blk_alloc ?_ _)); exact BK103.out) hb); have n4_ := Aside0.mk (below_step (by repeat (first | (with_reducible first | exact HB.out | apply below_alloc | apply pw_below_drewN | apply below_drew1 | refine below_set ?_ GE101.out | refine below_set ?_ GE103.out) | exact HB.out)) hb); clear HO_3; clear BK101; clear BK103; clear HB; have HO_3 := n0_; have HO106 := n1_; have BK101 := n2_; have BK103 := n3_; have HB := n4_; clear n0_ n1_ n2_ n3_ n4_; (try clear hb); (try clear hb2); (try clear hk); (try clear hi); (try clear ho0); obtain ⟨Ao15, co15, eo15⟩ := Kd.R_slice HO106.out; subst eo15) | ((with_reducible refine gate_builtin (b := .append) (xs := #[.tmp 16, .tmp 19]) rfl ?_); at_builtin; refine Kd.R_append_rows Kd.string (w0 := w) w.heap.size rfl (.tmp 16) (.tmp 19) 28 9 (.string ⟨#[]⟩) 16 rfl Try.underlying28 info9 rfl (by decide) (by omega) u3 x3_1 t104 _ _ _ (fun k_ => some k_ ≠ (.slice Ao15 t104.length co15 : Value).ownBlock) (fun _ => False) rfl rfl ?aO ?aR (fun _ _ h => h) (fun _ h => h.elim) ?aF ?aB ?aS ?aL ?_; (case aR => repeat (first | exact (Kd.R_reads' HO106.out).2.2 | (with_reducible refine Kd.C_alloc ?_ _) | (with_reducible refine Kd.C_drewN ?_ _) | (with_reducible refine Kd.C_drew ?_))); (case aB => exact (by repeat (first | (with_reducible first | exact HB.out | apply below_alloc | apply pw_below_drewN | apply below_drew1 | refine below_set ?_ GE101.out | refine below_set ?_ GE103.out) | exact HB.out))); (case aF => exact (fun k_ hk => Kd.fresh' (Kd.R_lt (by (with_reducible repeat (first | apply Kd.R_alloc | apply Kd.R_drewN | apply Kd.R_drew)); exact HO106.out)) k_ hk)); (case aO => exact (by (with_reducible repeat (first | apply Kd.R_alloc | apply Kd.R_drewN | apply Kd.R_drew)); exact Kd.R_mono HO_3.out (fun _ hk => hk.2))); (case aS => exact (below_size (by repeat (first | (with_reducible first | exact HB.out | apply below_alloc | apply pw_below_drewN | apply below_drew1 | refine below_set ?_ GE101.out | refine below_set ?_ GE103.out) | exact HB.out)))); (case aL => have := LMc9.out; omega); intro v108 w14 ho hb hg hat; rw [← Ny107.out] at ho; have n0_ := Aside0.mk (blk_grown (g := gb101) (o := .cells #[.string a0_0, .slice A0_1 l0_1.length c0_1, .slice (some ad102) l0_2.length c0_2] 27 (0, 0)) (by (with_reducible repeat (first | refine blk_drewN ?_ _ | refine blk_drew ?_ | refine blk_alloc ?_ _)); exact BK101.out) hg (Kd.R_ne HO_3.out BK101.out (by decide))); have n1_ := Aside0.mk (blk_grown (g := gb103) (o := .cells #[.int .i64 ((rd_T47 l0_2 x9_1).kind), .string ((rd_T47 l0_2 x9_1).atom.pred), .slice A102_2 ((rd_T47 l0_2 x9_1).atom.args).length c102_2, .string ((rd_T47 l0_2 x9_1).op), .bool ((rd_T47 l0_2 x9_1).l.isVar), .string ((rd_T47 l0_2 x9_1).l.name), .bool ((rd_T47 l0_2 x9_1).l.val.isSym), .string ((rd_T47 l0_2 x9_1).l.val.sym), .int .i64 ((rd_T47 l0_2 x9_1).l.val.n), .bool ((rd_T47 l0_2 x9_1).r.isVar), .string ((rd_T47 l0_2 x9_1).r.name), .bool ((rd_T47 l0_2 x9_1).r.val.isSym), .string ((rd_T47 l0_2 x9_1).r.val.sym), .int .i64 ((rd_T47 l0_2 x9_1).r.val.n)] 47 (0, 0)) (by (with_reducible repeat (first | refine blk_drewN ?_ _ | refine blk_drew ?_ | refine blk_alloc ?_ _)); exact BK103.out) hg (Kd.R_ne HO_3.out BK103.out (by decide))); have n2_ := Aside0.mk (Kd.R_after (ok := (fun _ => True)) (by (with_reducible repeat (first | apply Kd.R_alloc | apply Kd.R_drewN | apply Kd.R_drew)); exact HO106.out) hg hat); have n3_ := Aside0.mk (hb); have n4_ := Aside0.mk (ho); clear BK101; clear BK103; clear HO106; clear HB; clear HO_3; have BK101 := n0_; have BK103 := n1_; have HO106 := n2_; have HB := n3_; have HO109 := n4_; clear n0_ n1_ n2_ n3_ n4_; clear ho hb hg hat))
        go_roundg k1
        case measure => have := HK1.out; omega
        case rel => exact ⟨(y107), (wrap64 (x9_1 + 1)), (by first | rfl | (simp; done) | (simp [*]; done)), H', ⟨by have := HK1.out; omega⟩, ⟨by (with_reducible repeat (first | apply Kd.R_alloc | apply Kd.R_drewN | apply Kd.R_drew)); exact Kd.R_mono HO109.out (fun _ hk => trivial)⟩, ⟨by (with_reducible repeat (first | refine blk_drewN ?_ _ | refine blk_drew ?_ | refine blk_alloc ?_ _)); exact BK101.out⟩, ⟨by repeat (first | (with_reducible first | exact HB.out | apply below_alloc | apply pw_below_drewN | apply below_drew1 | refine below_set ?_ GE101.out | refine below_set ?_ GE103.out) | exact HB.out)⟩⟩
       ·rw [if_neg c9] at H
        exact absurd H (by simp)
      ·rw [if_neg c7] at H
       have c7b0 : (((rd_T47 l0_2 x9_1).kind) == 1) = false := beq_eq_false_iff_ne.mpr c7
       have c7b1 : (((rd_T47 l0_2 x9_1).kind) != 1) = true := bne_iff_ne.mpr c7
       have H' := Aside0.mk H
       clear H
       have p102 : 0 ≤ (x9_1 : Int) := of_decide_eq_true (by first | (with_reducible assumption) | assumption)
       have q102 : x9_1 < (l0_2.length : Int) := of_decide_eq_true (by first | (with_reducible assumption) | assumption)
       obtain ⟨ad102, A102_2, c102_2, e102, hx102_0, hx102_1, hx102_2, hx102_3, hx102_4, hx102_5, hx102_6, hx102_7, hx102_8, hx102_9, hx102_10, hx102_11, hx102_12, hx102_13, hl102_2, hi102_2⟩ := at_T47 HR0_2.out x9_1 p102 q102
       cases e102
       replace hx102_0 := (HB.out.cell (blt_ hx102_0)).trans hx102_0
       replace hx102_1 := (HB.out.cell (blt_ hx102_1)).trans hx102_1
       replace hx102_2 := (HB.out.cell (blt_ hx102_2)).trans hx102_2
       replace hx102_3 := (HB.out.cell (blt_ hx102_3)).trans hx102_3
       replace hx102_4 := (HB.out.cell (blt_ hx102_4)).trans hx102_4
       replace hx102_5 := (HB.out.cell (blt_ hx102_5)).trans hx102_5
       replace hx102_6 := (HB.out.cell (blt_ hx102_6)).trans hx102_6
       replace hx102_7 := (HB.out.cell (blt_ hx102_7)).trans hx102_7
       replace hx102_8 := (HB.out.cell (blt_ hx102_8)).trans hx102_8
       replace hx102_9 := (HB.out.cell (blt_ hx102_9)).trans hx102_9
       replace hx102_10 := (HB.out.cell (blt_ hx102_10)).trans hx102_10
       replace hx102_11 := (HB.out.cell (blt_ hx102_11)).trans hx102_11
       replace hx102_12 := (HB.out.cell (blt_ hx102_12)).trans hx102_12
       replace hx102_13 := (HB.out.cell (blt_ hx102_13)).trans hx102_13
       have HR102_2 := Aside0.mk hi102_2
       have HC102_2 := Aside0.mk hl102_2
       clear hi102_2 hl102_2
       replace p102 := eq_true p102
       replace q102 := eq_true q102
       go_wp2_with (first | ((with_reducible refine gate_dst (N := 5) rfl ?_); refine box_event ?hg (N := 5) ?hd (cs := #[.int .i64 0, .string (⟨#[]⟩ : ByteArray), .slice none 0 0, .string (⟨#[]⟩ : ByteArray), .bool false, .string (⟨#[]⟩ : ByteArray), .bool false, .string (⟨#[]⟩ : ByteArray), .int .i64 0, .bool false, .string (⟨#[]⟩ : ByteArray), .bool false, .string (⟨#[]⟩ : ByteArray), .int .i64 0]) (t := 47) ?hr ?_; (case hd => rfl); (case hg => rfl); (case hr => first | (go_simp; done) | (go_simp; rfl)); intro gb103 hg w16 hbox hb; have n0_ := Aside0.mk (Kd.R_below (by (with_reducible repeat (first | apply Kd.R_alloc | apply Kd.R_drewN | apply Kd.R_drew)); exact HO_3.out) hb); have n1_ := Aside0.mk (blk_below (g := gb101) (o := .cells #[.string a0_0, .slice A0_1 l0_1.length c0_1, .slice (some ad102) l0_2.length c0_2] 27 (0, 0)) (by (with_reducible repeat (first | refine blk_drewN ?_ _ | refine blk_drew ?_ | refine blk_alloc ?_ _)); exact BK101.out) hb); have n2_ := Aside0.mk (below_step (by repeat (first | (with_reducible first | exact HB.out | apply below_alloc | apply pw_below_drewN | apply below_drew1 | refine below_set ?_ GE101.out) | exact HB.out)) hb); have n3_ := Aside0.mk (hbox); have n4_ := Aside0.mk ((by rw [hg]; exact (below_size (by repeat (first | (with_reducible first | exact HB.out | apply below_alloc | apply pw_below_drewN | apply below_drew1 | refine below_set ?_ GE101.out) | exact HB.out))) : w.heap.size ≤ gb103)); have n5_ := Aside0.mk ((by rw [hg]; exact (below_size (by repeat (first | (with_reducible first | exact HB.out | apply below_alloc | apply pw_below_drewN | apply below_drew1 | refine below_set ?_ GE101.out) | exact HB.out))) : w.heap.size ≤ gb103)); have n6_ := Aside0.mk ((by rw [hg]; exact Nat.ne_of_lt (blk_lt (g := gb101) (o := .cells #[.string a0_0, .slice A0_1 l0_1.length c0_1, .slice (some ad102) l0_2.length c0_2] 27 (0, 0)) (by (with_reducible repeat (first | refine blk_drewN ?_ _ | refine blk_drew ?_ | refine blk_alloc ?_ _)); exact BK101.out)) : gb101 ≠ gb103)); have n7_ := Aside0.mk ((by rw [hg]; exact Nat.ne_of_gt (blk_lt (g := gb101) (o := .cells #[.string a0_0, .slice A0_1 l0_1.length c0_1, .slice (some ad102) l0_2.length c0_2] 27 (0, 0)) (by (with_reducible repeat (first | refine blk_drewN ?_ _ | refine blk_drew ?_ | refine blk_alloc ?_ _)); exact BK101.out)) : gb103 ≠ gb101)); clear HO_3; clear BK101; clear HB; have HO_3 := n0_; have BK101 := n1_; have HB := n2_; have BK103 := n3_; have GW103 := n4_; have GE103 := n5_; have NB101_103 := n6_; have NB103_101 := n7_; clear n0_ n1_ n2_ n3_ n4_ n5_ n6_ n7_; clear hb hbox hg; have hnb17 := NB103_101.out; have hnc17 := NB101_103.out; have hcz18_0 : w16.cell? ⟨gb103, 0, none⟩ = some (.int .i64 0) := (blk_cell BK103.out 0).trans rfl; have hcz18_1 : w16.cell? ⟨gb103, 1, none⟩ = some (.string (⟨#[]⟩ : ByteArray)) := (blk_cell BK103.out 1).trans rfl; have hcz18_2 : w16.cell? ⟨gb103, 2, none⟩ = some (.slice none 0 0) := (blk_cell BK103.out 2).trans rfl; have hcz18_3 : w16.cell? ⟨gb103, 3, none⟩ = some (.string (⟨#[]⟩ : ByteArray)) := (blk_cell BK103.out 3).trans rfl; have hcz18_4 : w16.cell? ⟨gb103, 4, none⟩ = some (.bool false) := (blk_cell BK103.out 4).trans rfl; have hcz18_5 : w16.cell? ⟨gb103, 5, none⟩ = some (.string (⟨#[]⟩ : ByteArray)) := (blk_cell BK103.out 5).trans rfl; have hcz18_6 : w16.cell? ⟨gb103, 6, none⟩ = some (.bool false) := (blk_cell BK103.out 6).trans rfl; have hcz18_7 : w16.cell? ⟨gb103, 7, none⟩ = some (.string (⟨#[]⟩ : ByteArray)) := (blk_cell BK103.out 7).trans rfl; have hcz18_8 : w16.cell? ⟨gb103, 8, none⟩ = some (.int .i64 0) := (blk_cell BK103.out 8).trans rfl; have hcz18_9 : w16.cell? ⟨gb103, 9, none⟩ = some (.bool false) := (blk_cell BK103.out 9).trans rfl; have hcz18_10 : w16.cell? ⟨gb103, 10, none⟩ = some (.string (⟨#[]⟩ : ByteArray)) := (blk_cell BK103.out 10).trans rfl; have hcz18_11 : w16.cell? ⟨gb103, 11, none⟩ = some (.bool false) := (blk_cell BK103.out 11).trans rfl; have hcz18_12 : w16.cell? ⟨gb103, 12, none⟩ = some (.string (⟨#[]⟩ : ByteArray)) := (blk_cell BK103.out 12).trans rfl; have hcz18_13 : w16.cell? ⟨gb103, 13, none⟩ = some (.int .i64 0) := (blk_cell BK103.out 13).trans rfl; have hfz18_0 := blk_frozen BK103.out 0; have hfz18_1 := blk_frozen BK103.out 1; have hfz18_2 := blk_frozen BK103.out 2; have hfz18_3 := blk_frozen BK103.out 3; have hfz18_4 := blk_frozen BK103.out 4; have hfz18_5 := blk_frozen BK103.out 5; have hfz18_6 := blk_frozen BK103.out 6; have hfz18_7 := blk_frozen BK103.out 7; have hfz18_8 := blk_frozen BK103.out 8; have hfz18_9 := blk_frozen BK103.out 9; have hfz18_10 := blk_frozen BK103.out 10; have hfz18_11 := blk_frozen BK103.out 11; have hfz18_12 := blk_frozen BK103.out 12; have hfz18_13 := blk_frozen BK103.out 13))
       go_roundg k1
       case measure => have := HK1.out; omega
       case rel => exact ⟨(x3_1), (wrap64 (x9_1 + 1)), (by first | rfl | (simp; done) | (simp [*]; done)), H', ⟨by have := HK1.out; omega⟩, ⟨by (with_reducible repeat (first | apply Kd.R_alloc | apply Kd.R_drewN | apply Kd.R_drew)); exact Kd.R_mono (Kd.R_far (p := ⟨gb103, 13, none⟩) (Kd.R_far (p := ⟨gb103, 12, none⟩) (Kd.R_far (p := ⟨gb103, 11, none⟩) (Kd.R_far (p := ⟨gb103, 10, none⟩) (Kd.R_far (p := ⟨gb103, 9, none⟩) (Kd.R_far (p := ⟨gb103, 8, none⟩) (Kd.R_far (p := ⟨gb103, 7, none⟩) (Kd.R_far (p := ⟨gb103, 6, none⟩) (Kd.R_far (p := ⟨gb103, 5, none⟩) (Kd.R_far (p := ⟨gb103, 4, none⟩) (Kd.R_far (p := ⟨gb103, 3, none⟩) (Kd.R_far (p := ⟨gb103, 2, none⟩) (Kd.R_far (p := ⟨gb103, 1, none⟩) (Kd.R_far (p := ⟨gb103, 0, none⟩) (Kd.R_types HO_3.out BK103.out (by decide)) (fun _ hk => hk.2) _) (fun _ hk => hk.2) _) (fun _ hk => hk.2) _) (fun _ hk => hk.2) _) (fun _ hk => hk.2) _) (fun _ hk => hk.2) _) (fun _ hk => hk.2) _) (fun _ hk => hk.2) _) (fun _ hk => hk.2) _) (fun _ hk => hk.2) _) (fun _ hk => hk.2) _) (fun _ hk => hk.2) _) (fun _ hk => hk.2) _) (fun _ hk => hk.2) _) (fun _ hk => trivial)⟩, ⟨by repeat (first | (with_reducible first | exact BK101.out | refine blk_drewN ?_ _ | refine blk_drew ?_ | refine blk_alloc ?_ _) | refine blk_far ?_ NB101_103.out _ | exact BK101.out)⟩, ⟨by repeat (first | (with_reducible first | exact HB.out | apply below_alloc | apply pw_below_drewN | apply below_drew1 | refine below_set ?_ GE101.out | refine below_set ?_ GE103.out) | exact HB.out)⟩⟩
     ·rw [if_neg c6] at H
      exact absurd H (by simp)
    ·rw [if_neg c5] at H
     exact absurd H (by simp)
   ·rw [if_neg c4] at H
    have c4b0 : decide (x9_1 < (l0_2.length : Int)) = false := decide_eq_false c4
    clear c4
    replace H := Option.bind_eq_some_iff.mp H
    obtain ⟨t110, A190, H⟩ := H
    replace H : ((slices_Compact_string_string.f t110).bind fun t111 => (some t111)) = some r := H
    have A19 := Aside0.mk A190
    clear A190
    replace H := Option.bind_eq_some_iff.mp H
    obtain ⟨t111, A200, H⟩ := H
    replace H : (some t111) = some r := H
    have A20 := Aside0.mk A200
    clear A200
    obtain rfl := Option.some.inj H
    obtain ⟨Ao21, co21, eo21⟩ := Kd.R_slice HO_3.out
    subst eo21
    go_wp2_with (first | ((with_reducible refine gate_callee (f := 49) rfl ?_); refine goesL_ (some 23) rfl rfl Try.func49 (by kernel_rfl) rfl #[.slice Ao21 x3_1.length co21] rfl (by (try simp only [List.map_toArray, List.map_cons, List.map_nil]); first | done | rfl | (simp only [List.length_drop, List.length_take]; rfl)) ?_; (with_reducible refine (slices_Sort_string_string.calls (fun k_ => some k_ = (.slice Ao21 x3_1.length co21 : Value).ownBlock) (.slice Ao21 x3_1.length co21) x3_1 t110 w _ ?side1 ?side2 A19.out).mono ?_); (case side1 => repeat (first | (with_reducible first | exact HB.out | apply below_alloc | apply pw_below_drewN | apply below_drew1 | refine below_set ?_ GE101.out) | exact HB.out)); (case side2 => exact Kd.R_tight rfl HO_3.out); rintro e w22 ⟨rfl, hy0, hb, hkp⟩; refine ⟨_, rfl, ?_⟩; have n0_ := Aside0.mk (Kd.R_reok rfl hy0 (fun k_ e_ => HO_3.out.1 k_ e_)); have n1_ := Aside0.mk (blk_kept (by (with_reducible repeat (first | refine blk_drewN ?_ _ | refine blk_drew ?_ | refine blk_alloc ?_ _)); exact BK101.out) hkp (fun hs_ => (fun e_ => (Kd.R_ne HO_3.out BK101.out (by decide)) e_) hs_)); have n2_ := Aside0.mk (hb); clear HO_3; clear BK101; clear HB; have HO_3 := n0_; have BK101 := n1_; have HB := n2_; clear n0_ n1_ n2_; (try clear hb); (try clear hkp); (try clear hy0)) | ((with_reducible refine gate_callee (f := 50) rfl ?_); refine goesL_ (some 25) rfl rfl Try.func50 (by kernel_rfl) rfl #[.slice Ao21 x3_1.length co21] rfl (by (try simp only [List.map_toArray, List.map_cons, List.map_nil]); first | done | rfl | (simp only [List.length_drop, List.length_take]; rfl)) ?_; (with_reducible refine (slices_Compact_string_string.calls (fun k_ => some k_ = (.slice Ao21 x3_1.length co21 : Value).ownBlock) (.slice Ao21 x3_1.length co21) t110 t111 w _ ?side1 ?side2 A20.out).mono ?_); (case side1 => repeat (first | (with_reducible first | exact HB.out | apply below_alloc | apply pw_below_drewN | apply below_drew1 | refine below_set ?_ GE101.out) | exact HB.out)); (case side2 => exact Kd.R_tight rfl HO_3.out); rintro e w23 ⟨v112, rfl, ho0, hb, hkp⟩; refine ⟨_, rfl, ?_⟩; have n0_ := Aside0.mk (blk_kept (by (with_reducible repeat (first | refine blk_drewN ?_ _ | refine blk_drew ?_ | refine blk_alloc ?_ _)); exact BK101.out) hkp (fun hs_ => (fun e_ => (Kd.R_ne HO_3.out BK101.out (by decide)) e_) hs_)); have n1_ := Aside0.mk (Kd.R_mono (ok' := fun k_ => True) ho0 (fun k_ hk_ => trivial)); have n2_ := Aside0.mk (hb); clear BK101; clear HB; clear HO_3; have BK101 := n0_; have HO113 := n1_; have HB := n2_; clear n0_ n1_ n2_; (try clear hb); (try clear hkp); (try clear ho0)))
    go_ret
    exact ⟨_, by first | rfl | (simp [errW_none, errW_some] <;> rfl) | (simp [*, errW_none, errW_some] <;> rfl), by (with_reducible repeat (first | apply Kd.R_alloc | apply Kd.R_drewN | apply Kd.R_drew)); exact HO113.out, by repeat (first | (with_reducible first | exact HB.out | apply below_alloc | apply pw_below_drewN | apply below_drew1 | refine below_set ?_ GE101.out) | exact HB.out)⟩

end Go.Proofs.Ythpejcnldecmoaa.H
-- made by a program of this session (wip/tools) out of the translation; Lean checks it.
namespace Go.Proofs.Ythpejcnldecmoaa.H
open Go.RowKit Go.Proofs.YthpejcnldecmoaaW.PrintWords Go.Proofs.YthpejcnldecmoaaW.PrintLast Go.Proofs.YthpejcnldecmoaaW.PrintMore
attribute [local go_sem] max2_int min2_int max_two min_two max_three min_three max_four min_four   -- for this text's walks alone
set_option linter.unusedVariables false
set_option linter.unusedSimpArgs false

/-! ### safe_used: function 47 -/
def safe_used.f (k : Nat) (a0_0 : Int) (a0_1 : ByteArray) (l0_2 : List (Term)) (a0_3 : ByteArray) (a0_4 : Bool) (a0_5 : ByteArray) (a0_6 : Bool) (a0_7 : ByteArray) (a0_8 : Int) (a0_9 : Bool) (a0_10 : ByteArray) (a0_11 : Bool) (a0_12 : ByteArray) (a0_13 : Int) : Option (List ByteArray) := if a0_0 = 2 then ((safe_Vars.f k a0_1 l0_2).bind fun t102 => (some t102)) else (if a0_0 = 3 then ((safe_names.f k (([(⟨a0_4, a0_5, (⟨a0_6, a0_7, a0_8⟩ : Val)⟩ : Term), (⟨a0_9, a0_10, (⟨a0_11, a0_12, a0_13⟩ : Val)⟩ : Term)] : List (Term)))).bind fun t108 => (some t108)) else (some ([] : List ByteArray)))
theorem safe_used.mono : ∀ a0 a1 a2 a3 a4 a5 a6 a7 a8 a9 a10 a11 a12 a13 k, LeO (safe_used.f k a0 a1 a2 a3 a4 a5 a6 a7 a8 a9 a10 a11 a12 a13) (safe_used.f (k + 1) a0 a1 a2 a3 a4 a5 a6 a7 a8 a9 a10 a11 a12 a13) := by
 intro a0 a1 a2 a3 a4 a5 a6 a7 a8 a9 a10 a11 a12 a13 k
 unfold safe_used.f
 repeat' first
   | (with_reducible exact safe_Vars.mono _ _ _)
   | (with_reducible exact safe_names.mono _ _)
   | (with_reducible exact LeO.refl _)
   | (with_reducible exact LeO.none _)
   | (with_reducible refine LeO.ite ?_ ?_)
   | (with_reducible refine LeO.bind ?_ (fun _ => ?_))
   | exact safe_Vars.mono _ _ _
   | exact safe_names.mono _ _
   | exact LeO.none _
   | refine LeO.ite ?_ ?_
   | refine LeO.bind ?_ (fun _ => ?_)
set_option maxHeartbeats 8000000 in
set_option maxRecDepth 100000 in
theorem safe_used.calls (k : Nat) (a0_0 : Int) (a0_1 : ByteArray) (A0_2 : Option Addr) (c0_2 : Nat) (l0_2 : List (Term)) (a0_3 : ByteArray) (a0_4 : Bool) (a0_5 : ByteArray) (a0_6 : Bool) (a0_7 : ByteArray) (a0_8 : Int) (a0_9 : Bool) (a0_10 : ByteArray) (a0_11 : Bool) (a0_12 : ByteArray) (a0_13 : Int) (r : List ByteArray) (w : World) (hr0_2 : Kd.C k45 w A0_2 l0_2.length l0_2) (hc0_2 : l0_2.length ≤ c0_2) (h : safe_used.f k a0_0 a0_1 l0_2 a0_3 a0_4 a0_5 a0_6 a0_7 a0_8 a0_9 a0_10 a0_11 a0_12 a0_13 = some r) :
  Calls Try.prog 47 #[.agg #[.int .i64 a0_0, .string a0_1, .slice A0_2 l0_2.length c0_2, .string a0_3, .bool a0_4, .string a0_5, .bool a0_6, .string a0_7, .int .i64 a0_8, .bool a0_9, .string a0_10, .bool a0_11, .string a0_12, .int .i64 a0_13]] w fun e w' => ∃ v0_ : Value, e = .returned (v0_) ∧ Kd.R Kd.string 9 w' w.heap.size (fun _ => True) v0_ r ∧ Below w.heap.size w w' := by
 have hu47 := Try.underlying47
 have hu24 := Try.underlying24
 have hu45 := Try.underlying45
 have HR0_2 := Aside0.mk hr0_2
 have HC0_2 := Aside0.mk hc0_2
 clear hr0_2 hc0_2
 have HB := Aside0.mk (Below.refl w.heap.size w)
 have H : (if a0_0 = 2 then ((safe_Vars.f k a0_1 l0_2).bind fun t102 => (some t102)) else (if a0_0 = 3 then ((safe_names.f k (([(⟨a0_4, a0_5, (⟨a0_6, a0_7, a0_8⟩ : Val)⟩ : Term), (⟨a0_9, a0_10, (⟨a0_11, a0_12, a0_13⟩ : Val)⟩ : Term)] : List (Term)))).bind fun t108 => (some t108)) else (some ([] : List ByteArray)))) = some r := h
 clear h
 by_cases c2 : a0_0 = 2
 ·rw [if_pos c2] at H
  have c2b0 : (a0_0 == 2) = true := beq_iff_eq.mpr c2
  have c2b1 : (a0_0 != 2) = false := bne_eq_false_iff_eq.mpr c2
  clear c2
  replace H := Option.bind_eq_some_iff.mp H
  obtain ⟨t102, A30, H⟩ := H
  replace H : (some t102) = some r := H
  have A3 := Aside0.mk A30
  clear A30
  obtain rfl := Option.some.inj H
  go_enter Try.func47, Try.ntmps47
  go_wp2_with (first | ((with_reducible refine gate_dst (N := 1) rfl ?_); refine box_event ?hg (N := 1) ?hd (cs := #[.int .i64 a0_0, .string a0_1, .slice A0_2 l0_2.length c0_2, .string a0_3, .bool a0_4, .string a0_5, .bool a0_6, .string a0_7, .int .i64 a0_8, .bool a0_9, .string a0_10, .bool a0_11, .string a0_12, .int .i64 a0_13]) (t := 47) ?hr ?_; (case hd => rfl); (case hg => rfl); (case hr => first | (go_simp; done) | (go_simp; rfl)); intro gb101 hg w4 hbox hb; have n0_ := Aside0.mk (below_step (by repeat (first | (with_reducible first | exact HB.out | apply below_alloc | apply pw_below_drewN | apply below_drew1) | exact HB.out)) hb); have n1_ := Aside0.mk (hbox); have n2_ := Aside0.mk ((by rw [hg]; exact (below_size (by repeat (first | (with_reducible first | exact HB.out | apply below_alloc | apply pw_below_drewN | apply below_drew1) | exact HB.out))) : w.heap.size ≤ gb101)); have n3_ := Aside0.mk ((by rw [hg]; exact (below_size (by repeat (first | (with_reducible first | exact HB.out | apply below_alloc | apply pw_below_drewN | apply below_drew1) | exact HB.out))) : w.heap.size ≤ gb101)); clear HB; have HB := n0_; have BK101 := n1_; have GW101 := n2_; have GE101 := n3_; clear n0_ n1_ n2_ n3_; clear hb hbox hg; have hcz5_0 : w4.cell? ⟨gb101, 0, none⟩ = some (.int .i64 a0_0) := (blk_cell BK101.out 0).trans rfl; have hcz5_1 : w4.cell? ⟨gb101, 1, none⟩ = some (.string a0_1) := (blk_cell BK101.out 1).trans rfl; have hcz5_2 : w4.cell? ⟨gb101, 2, none⟩ = some (.slice A0_2 l0_2.length c0_2) := (blk_cell BK101.out 2).trans rfl; have hcz5_3 : w4.cell? ⟨gb101, 3, none⟩ = some (.string a0_3) := (blk_cell BK101.out 3).trans rfl; have hcz5_4 : w4.cell? ⟨gb101, 4, none⟩ = some (.bool a0_4) := (blk_cell BK101.out 4).trans rfl; have hcz5_5 : w4.cell? ⟨gb101, 5, none⟩ = some (.string a0_5) := (blk_cell BK101.out 5).trans rfl; have hcz5_6 : w4.cell? ⟨gb101, 6, none⟩ = some (.bool a0_6) := (blk_cell BK101.out 6).trans rfl; have hcz5_7 : w4.cell? ⟨gb101, 7, none⟩ = some (.string a0_7) := (blk_cell BK101.out 7).trans rfl; have hcz5_8 : w4.cell? ⟨gb101, 8, none⟩ = some (.int .i64 a0_8) := (blk_cell BK101.out 8).trans rfl; have hcz5_9 : w4.cell? ⟨gb101, 9, none⟩ = some (.bool a0_9) := (blk_cell BK101.out 9).trans rfl; have hcz5_10 : w4.cell? ⟨gb101, 10, none⟩ = some (.string a0_10) := (blk_cell BK101.out 10).trans rfl; have hcz5_11 : w4.cell? ⟨gb101, 11, none⟩ = some (.bool a0_11) := (blk_cell BK101.out 11).trans rfl; have hcz5_12 : w4.cell? ⟨gb101, 12, none⟩ = some (.string a0_12) := (blk_cell BK101.out 12).trans rfl; have hcz5_13 : w4.cell? ⟨gb101, 13, none⟩ = some (.int .i64 a0_13) := (blk_cell BK101.out 13).trans rfl; have hfz5_0 := blk_frozen BK101.out 0; have hfz5_1 := blk_frozen BK101.out 1; have hfz5_2 := blk_frozen BK101.out 2; have hfz5_3 := blk_frozen BK101.out 3; have hfz5_4 := blk_frozen BK101.out 4; have hfz5_5 := blk_frozen BK101.out 5; have hfz5_6 := blk_frozen BK101.out 6; have hfz5_7 := blk_frozen BK101.out 7; have hfz5_8 := blk_frozen BK101.out 8; have hfz5_9 := blk_frozen BK101.out 9; have hfz5_10 := blk_frozen BK101.out 10; have hfz5_11 := blk_frozen BK101.out 11; have hfz5_12 := blk_frozen BK101.out 12; have hfz5_13 := blk_frozen BK101.out 13) | ((with_reducible refine gate_callee (f := 31) rfl ?_); refine goesL_ (some 9) rfl rfl Try.func31 (by kernel_rfl) rfl #[.agg #[.string a0_1, .slice A0_2 l0_2.length c0_2]] rfl (by (try simp only [List.map_toArray, List.map_cons, List.map_nil]); first | done | rfl | (simp only [List.length_drop, List.length_take]; rfl)) ?_; (with_reducible refine (safe_Vars.calls k a0_1 _ _ l0_2 t102 _ ?side1 ?side2 A3.out).mono ?_); (case side1 => repeat (first | exact (Kd.C_below HR0_2.out HB.out) | (with_reducible refine Kd.C_alloc ?_ _) | (with_reducible refine Kd.C_drewN ?_ _) | (with_reducible refine Kd.C_drew ?_))); (case side2 => exact HC0_2.out); rintro e w6 ⟨v103, rfl, ho0, hb⟩; refine ⟨_, rfl, ?_⟩; have n0_ := Aside0.mk (Kd.R_lower ho0 (below_size (by repeat (first | (with_reducible first | exact HB.out | apply below_alloc | apply pw_below_drewN | apply below_drew1 | refine below_set ?_ GE101.out) | exact HB.out)))); have n1_ := Aside0.mk (blk_below (g := gb101) (o := .cells #[.int .i64 a0_0, .string a0_1, .slice A0_2 l0_2.length c0_2, .string a0_3, .bool a0_4, .string a0_5, .bool a0_6, .string a0_7, .int .i64 a0_8, .bool a0_9, .string a0_10, .bool a0_11, .string a0_12, .int .i64 a0_13] 47 (0, 0)) (by (with_reducible repeat (first | refine blk_drewN ?_ _ | refine blk_drew ?_ | refine blk_alloc ?_ _)); exact BK101.out) hb); have n2_ := Aside0.mk (below_step (by repeat (first | (with_reducible first | exact HB.out | apply below_alloc | apply pw_below_drewN | apply below_drew1 | refine below_set ?_ GE101.out) | exact HB.out)) hb); clear BK101; clear HB; have HO104 := n0_; have BK101 := n1_; have HB := n2_; clear n0_ n1_ n2_; (try clear hb); (try clear hb2); (try clear hk); (try clear hi); (try clear ho0)))
  go_ret
  exact ⟨_, by first | rfl | (simp [errW_none, errW_some] <;> rfl) | (simp [*, errW_none, errW_some] <;> rfl), by (with_reducible repeat (first | apply Kd.R_alloc | apply Kd.R_drewN | apply Kd.R_drew)); exact HO104.out, by repeat (first | (with_reducible first | exact HB.out | apply below_alloc | apply pw_below_drewN | apply below_drew1 | refine below_set ?_ GE101.out) | exact HB.out)⟩
 ·rw [if_neg c2] at H
  have c2b0 : (a0_0 == 2) = false := beq_eq_false_iff_ne.mpr c2
  have c2b1 : (a0_0 != 2) = true := bne_iff_ne.mpr c2
  by_cases c7 : a0_0 = 3
  ·rw [if_pos c7] at H
   have c7b0 : (a0_0 == 3) = true := beq_iff_eq.mpr c7
   have c7b1 : (a0_0 != 3) = false := bne_eq_false_iff_eq.mpr c7
   clear c7
   obtain ⟨y105, hy105⟩ : ∃ y_ : List (Term), y_ = (([(⟨a0_4, a0_5, (⟨a0_6, a0_7, a0_8⟩ : Val)⟩ : Term), (⟨a0_9, a0_10, (⟨a0_11, a0_12, a0_13⟩ : Val)⟩ : Term)] : List (Term))) := ⟨_, rfl⟩
   replace H : ((safe_names.f k y105).bind fun t108 => (some t108)) = some r := by first | (rw [hy105]; with_reducible exact H) | (have H2_ := (Option.bind_some _ _).symm.trans H; rw [hy105]; with_reducible exact H2_) | (have H2_ := (Option.bind_some _ _).symm.trans H; with_reducible exact H2_) | with_reducible exact H | (rw [hy105]; exact H) | exact H
   have Ny105 := Aside0.mk hy105
   clear hy105
   replace H := Option.bind_eq_some_iff.mp H
   obtain ⟨t108, A80, H⟩ := H
   replace H : (some t108) = some r := H
   have A8 := Aside0.mk A80
   clear A80
   obtain rfl := Option.some.inj H
   go_enter Try.func47, Try.ntmps47
   go_wp2_with (first | ((with_reducible refine gate_dst (N := 1) rfl ?_); refine box_event ?hg (N := 1) ?hd (cs := #[.int .i64 a0_0, .string a0_1, .slice A0_2 l0_2.length c0_2, .string a0_3, .bool a0_4, .string a0_5, .bool a0_6, .string a0_7, .int .i64 a0_8, .bool a0_9, .string a0_10, .bool a0_11, .string a0_12, .int .i64 a0_13]) (t := 47) ?hr ?_; (case hd => rfl); (case hg => rfl); (case hr => first | (go_simp; done) | (go_simp; rfl)); intro gb101 hg w9 hbox hb; have n0_ := Aside0.mk (below_step (by repeat (first | (with_reducible first | exact HB.out | apply below_alloc | apply pw_below_drewN | apply below_drew1) | exact HB.out)) hb); have n1_ := Aside0.mk (hbox); have n2_ := Aside0.mk ((by rw [hg]; exact (below_size (by repeat (first | (with_reducible first | exact HB.out | apply below_alloc | apply pw_below_drewN | apply below_drew1) | exact HB.out))) : w.heap.size ≤ gb101)); have n3_ := Aside0.mk ((by rw [hg]; exact (below_size (by repeat (first | (with_reducible first | exact HB.out | apply below_alloc | apply pw_below_drewN | apply below_drew1) | exact HB.out))) : w.heap.size ≤ gb101)); clear HB; have HB := n0_; have BK101 := n1_; have GW101 := n2_; have GE101 := n3_; clear n0_ n1_ n2_ n3_; clear hb hbox hg; have hcz10_0 : w9.cell? ⟨gb101, 0, none⟩ = some (.int .i64 a0_0) := (blk_cell BK101.out 0).trans rfl; have hcz10_1 : w9.cell? ⟨gb101, 1, none⟩ = some (.string a0_1) := (blk_cell BK101.out 1).trans rfl; have hcz10_2 : w9.cell? ⟨gb101, 2, none⟩ = some (.slice A0_2 l0_2.length c0_2) := (blk_cell BK101.out 2).trans rfl; have hcz10_3 : w9.cell? ⟨gb101, 3, none⟩ = some (.string a0_3) := (blk_cell BK101.out 3).trans rfl; have hcz10_4 : w9.cell? ⟨gb101, 4, none⟩ = some (.bool a0_4) := (blk_cell BK101.out 4).trans rfl; have hcz10_5 : w9.cell? ⟨gb101, 5, none⟩ = some (.string a0_5) := (blk_cell BK101.out 5).trans rfl; have hcz10_6 : w9.cell? ⟨gb101, 6, none⟩ = some (.bool a0_6) := (blk_cell BK101.out 6).trans rfl; have hcz10_7 : w9.cell? ⟨gb101, 7, none⟩ = some (.string a0_7) := (blk_cell BK101.out 7).trans rfl; have hcz10_8 : w9.cell? ⟨gb101, 8, none⟩ = some (.int .i64 a0_8) := (blk_cell BK101.out 8).trans rfl; have hcz10_9 : w9.cell? ⟨gb101, 9, none⟩ = some (.bool a0_9) := (blk_cell BK101.out 9).trans rfl; have hcz10_10 : w9.cell? ⟨gb101, 10, none⟩ = some (.string a0_10) := (blk_cell BK101.out 10).trans rfl; have hcz10_11 : w9.cell? ⟨gb101, 11, none⟩ = some (.bool a0_11) := (blk_cell BK101.out 11).trans rfl; have hcz10_12 : w9.cell? ⟨gb101, 12, none⟩ = some (.string a0_12) := (blk_cell BK101.out 12).trans rfl; have hcz10_13 : w9.cell? ⟨gb101, 13, none⟩ = some (.int .i64 a0_13) := (blk_cell BK101.out 13).trans rfl; have hfz10_0 := blk_frozen BK101.out 0; have hfz10_1 := blk_frozen BK101.out 1; have hfz10_2 := blk_frozen BK101.out 2; have hfz10_3 := blk_frozen BK101.out 3; have hfz10_4 := blk_frozen BK101.out 4; have hfz10_5 := blk_frozen BK101.out 5; have hfz10_6 := blk_frozen BK101.out 6; have hfz10_7 := blk_frozen BK101.out 7; have hfz10_8 := blk_frozen BK101.out 8; have hfz10_9 := blk_frozen BK101.out 9; have hfz10_10 := blk_frozen BK101.out 10; have hfz10_11 := blk_frozen BK101.out 11; have hfz10_12 := blk_frozen BK101.out 12; have hfz10_13 := blk_frozen BK101.out 13) | ((with_reducible refine gate_dst (N := 16) rfl ?_); refine Kd.R_lit k45 _ 45 ?hg (N := 16) ?hd (xs := ([(⟨a0_4, a0_5, (⟨a0_6, a0_7, a0_8⟩ : Val)⟩ : Term), (⟨a0_9, a0_10, (⟨a0_11, a0_12, a0_13⟩ : Val)⟩ : Term)] : List (Term))) (inner := [.bool a0_4, .string a0_5, .bool a0_6, .string a0_7, .int .i64 a0_8, .bool a0_9, .string a0_10, .bool a0_11, .string a0_12, .int .i64 a0_13]) (ok := fun _ => True) (okp := fun _ => True) ?hr ?hp (fun _ hk => hk) trivial (Below.refl _ _) (Nat.le_refl _) (by simp) ?_; (case hd => rfl); (case hg => rfl); (case hr => first | (go_simp; done) | (go_simp; rfl)); (case hp => exact (Reps.c5 (show Kd.M k45 _ _ _ (⟨a0_4, a0_5, (⟨a0_6, a0_7, a0_8⟩ : Val)⟩ : Term) [.bool a0_4, .string a0_5, .bool a0_6, .string a0_7, .int .i64 a0_8] from (k45_mkM _ _ _ (⟨a0_4, a0_5, (⟨a0_6, a0_7, a0_8⟩ : Val)⟩ : Term) )) (Reps.c5 (show Kd.M k45 _ _ _ (⟨a0_9, a0_10, (⟨a0_11, a0_12, a0_13⟩ : Val)⟩ : Term) [.bool a0_9, .string a0_10, .bool a0_11, .string a0_12, .int .i64 a0_13] from (k45_mkM _ _ _ (⟨a0_9, a0_10, (⟨a0_11, a0_12, a0_13⟩ : Val)⟩ : Term) )) (Reps.none _ _)))); intro v106 w11 ho12 hb hg_ hnew_; clear hg_ hnew_; (first | rw [← Ny105.out] at ho12 | (simp only [Int.reduceToNat] at ho12; rw [← Ny105.out] at ho12)); have n0_ := Aside0.mk (Kd.R_lower ho12 (below_size (by repeat (first | (with_reducible first | exact HB.out | apply below_alloc | apply pw_below_drewN | apply below_drew1 | refine below_set ?_ GE101.out) | exact HB.out)))); have n1_ := Aside0.mk (blk_below (g := gb101) (o := .cells #[.int .i64 a0_0, .string a0_1, .slice A0_2 l0_2.length c0_2, .string a0_3, .bool a0_4, .string a0_5, .bool a0_6, .string a0_7, .int .i64 a0_8, .bool a0_9, .string a0_10, .bool a0_11, .string a0_12, .int .i64 a0_13] 47 (0, 0)) (by (with_reducible repeat (first | refine blk_drewN ?_ _ | refine blk_drew ?_ | refine blk_alloc ?_ _)); exact BK101.out) hb); have n2_ := Aside0.mk (below_step (by repeat (first | (with_reducible first | exact HB.out | apply below_alloc | apply pw_below_drewN | apply below_drew1 | refine below_set ?_ GE101.out) | exact HB.out)) hb); clear BK101; clear HB; have HO107 := n0_; have BK101 := n1_; have HB := n2_; clear n0_ n1_ n2_; clear hb ho12; obtain ⟨Ao13, co13, eo13⟩ := Kd.R_slice HO107.out; subst eo13) | ((with_reducible refine gate_callee (f := 51) rfl ?_); refine goesL_ (some 17) rfl rfl Try.func51 (by kernel_rfl) rfl #[.slice Ao13 y105.length co13] rfl (by (try simp only [List.map_toArray, List.map_cons, List.map_nil]); first | done | rfl | (simp only [List.length_drop, List.length_take]; rfl)) ?_; (with_reducible refine (safe_names.calls k _ _ y105 t108 _ ?side1 ?side2 A8.out).mono ?_); (case side1 => repeat (first | exact (Kd.R_reads' HO107.out).2.2 | (with_reducible refine Kd.C_alloc ?_ _) | (with_reducible refine Kd.C_drewN ?_ _) | (with_reducible refine Kd.C_drew ?_))); (case side2 => exact (Kd.R_reads' HO107.out).2.1); rintro e w14 ⟨v109, rfl, ho0, hb⟩; refine ⟨_, rfl, ?_⟩; have n0_ := Aside0.mk (Kd.R_below (by (with_reducible repeat (first | apply Kd.R_alloc | apply Kd.R_drewN | apply Kd.R_drew)); exact HO107.out) hb); have n1_ := Aside0.mk (Kd.R_lower ho0 (below_size (by repeat (first | (with_reducible first | exact HB.out | apply below_alloc | apply pw_below_drewN | apply below_drew1 | refine below_set ?_ GE101.out) | exact HB.out)))); have n2_ := Aside0.mk (blk_below (g := gb101) (o := .cells #[.int .i64 a0_0, .string a0_1, .slice A0_2 l0_2.length c0_2, .string a0_3, .bool a0_4, .string a0_5, .bool a0_6, .string a0_7, .int .i64 a0_8, .bool a0_9, .string a0_10, .bool a0_11, .string a0_12, .int .i64 a0_13] 47 (0, 0)) (by (with_reducible repeat (first | refine blk_drewN ?_ _ | refine blk_drew ?_ | refine blk_alloc ?_ _)); exact BK101.out) hb); have n3_ := Aside0.mk (below_step (by repeat (first | (with_reducible first | exact HB.out | apply below_alloc | apply pw_below_drewN | apply below_drew1 | refine below_set ?_ GE101.out) | exact HB.out)) hb); clear HO107; clear BK101; clear HB; have HO107 := n0_; have HO110 := n1_; have BK101 := n2_; have HB := n3_; clear n0_ n1_ n2_ n3_; (try clear hb); (try clear hb2); (try clear hk); (try clear hi); (try clear ho0)))
   go_ret
   exact ⟨_, by first | rfl | (simp [errW_none, errW_some] <;> rfl) | (simp [*, errW_none, errW_some] <;> rfl), by (with_reducible repeat (first | apply Kd.R_alloc | apply Kd.R_drewN | apply Kd.R_drew)); exact HO110.out, by repeat (first | (with_reducible first | exact HB.out | apply below_alloc | apply pw_below_drewN | apply below_drew1 | refine below_set ?_ GE101.out) | exact HB.out)⟩
  ·rw [if_neg c7] at H
   have c7b0 : (a0_0 == 3) = false := beq_eq_false_iff_ne.mpr c7
   have c7b1 : (a0_0 != 3) = true := bne_iff_ne.mpr c7
   obtain rfl := Option.some.inj H
   go_enter Try.func47, Try.ntmps47
   go_wp2_with (first | ((with_reducible refine gate_dst (N := 1) rfl ?_); refine box_event ?hg (N := 1) ?hd (cs := #[.int .i64 a0_0, .string a0_1, .slice A0_2 l0_2.length c0_2, .string a0_3, .bool a0_4, .string a0_5, .bool a0_6, .string a0_7, .int .i64 a0_8, .bool a0_9, .string a0_10, .bool a0_11, .string a0_12, .int .i64 a0_13]) (t := 47) ?hr ?_; (case hd => rfl); (case hg => rfl); (case hr => first | (go_simp; done) | (go_simp; rfl)); intro gb101 hg w15 hbox hb; have n0_ := Aside0.mk (below_step (by repeat (first | (with_reducible first | exact HB.out | apply below_alloc | apply pw_below_drewN | apply below_drew1) | exact HB.out)) hb); have n1_ := Aside0.mk (hbox); have n2_ := Aside0.mk ((by rw [hg]; exact (below_size (by repeat (first | (with_reducible first | exact HB.out | apply below_alloc | apply pw_below_drewN | apply below_drew1) | exact HB.out))) : w.heap.size ≤ gb101)); have n3_ := Aside0.mk ((by rw [hg]; exact (below_size (by repeat (first | (with_reducible first | exact HB.out | apply below_alloc | apply pw_below_drewN | apply below_drew1) | exact HB.out))) : w.heap.size ≤ gb101)); clear HB; have HB := n0_; have BK101 := n1_; have GW101 := n2_; have GE101 := n3_; clear n0_ n1_ n2_ n3_; clear hb hbox hg; have hcz16_0 : w15.cell? ⟨gb101, 0, none⟩ = some (.int .i64 a0_0) := (blk_cell BK101.out 0).trans rfl; have hcz16_1 : w15.cell? ⟨gb101, 1, none⟩ = some (.string a0_1) := (blk_cell BK101.out 1).trans rfl; have hcz16_2 : w15.cell? ⟨gb101, 2, none⟩ = some (.slice A0_2 l0_2.length c0_2) := (blk_cell BK101.out 2).trans rfl; have hcz16_3 : w15.cell? ⟨gb101, 3, none⟩ = some (.string a0_3) := (blk_cell BK101.out 3).trans rfl; have hcz16_4 : w15.cell? ⟨gb101, 4, none⟩ = some (.bool a0_4) := (blk_cell BK101.out 4).trans rfl; have hcz16_5 : w15.cell? ⟨gb101, 5, none⟩ = some (.string a0_5) := (blk_cell BK101.out 5).trans rfl; have hcz16_6 : w15.cell? ⟨gb101, 6, none⟩ = some (.bool a0_6) := (blk_cell BK101.out 6).trans rfl; have hcz16_7 : w15.cell? ⟨gb101, 7, none⟩ = some (.string a0_7) := (blk_cell BK101.out 7).trans rfl; have hcz16_8 : w15.cell? ⟨gb101, 8, none⟩ = some (.int .i64 a0_8) := (blk_cell BK101.out 8).trans rfl; have hcz16_9 : w15.cell? ⟨gb101, 9, none⟩ = some (.bool a0_9) := (blk_cell BK101.out 9).trans rfl; have hcz16_10 : w15.cell? ⟨gb101, 10, none⟩ = some (.string a0_10) := (blk_cell BK101.out 10).trans rfl; have hcz16_11 : w15.cell? ⟨gb101, 11, none⟩ = some (.bool a0_11) := (blk_cell BK101.out 11).trans rfl; have hcz16_12 : w15.cell? ⟨gb101, 12, none⟩ = some (.string a0_12) := (blk_cell BK101.out 12).trans rfl; have hcz16_13 : w15.cell? ⟨gb101, 13, none⟩ = some (.int .i64 a0_13) := (blk_cell BK101.out 13).trans rfl; have hfz16_0 := blk_frozen BK101.out 0; have hfz16_1 := blk_frozen BK101.out 1; have hfz16_2 := blk_frozen BK101.out 2; have hfz16_3 := blk_frozen BK101.out 3; have hfz16_4 := blk_frozen BK101.out 4; have hfz16_5 := blk_frozen BK101.out 5; have hfz16_6 := blk_frozen BK101.out 6; have hfz16_7 := blk_frozen BK101.out 7; have hfz16_8 := blk_frozen BK101.out 8; have hfz16_9 := blk_frozen BK101.out 9; have hfz16_10 := blk_frozen BK101.out 10; have hfz16_11 := blk_frozen BK101.out 11; have hfz16_12 := blk_frozen BK101.out 12; have hfz16_13 := blk_frozen BK101.out 13))
   go_ret
   exact ⟨_, by first | rfl | (simp [errW_none, errW_some] <;> rfl) | (simp [*, errW_none, errW_some] <;> rfl), by first | exact Kd.R_nil _ _ _ _ _ | exact Kd.N_nil _ _ _ _ _ | exact Kd.V_nil _ _ _ _ _ | exact Kd.Q_nil _ _ _ _ _ | exact Kd.S_nil _ _ _ _ _, by repeat (first | (with_reducible first | exact HB.out | apply below_alloc | apply pw_below_drewN | apply below_drew1 | refine below_set ?_ GE101.out) | exact HB.out)⟩

end Go.Proofs.Ythpejcnldecmoaa.H
namespace Go.Proofs.Ythpejcnldecmoaa.H
open Go.RowKit Go.Proofs.YthpejcnldecmoaaW.PrintWords Go.Proofs.YthpejcnldecmoaaW.PrintLast Go.Proofs.YthpejcnldecmoaaW.PrintMore
set_option linter.unusedVariables false
theorem loose1 (w : World) (gb : Nat) (Ab : Option Addr) (cb : Nat) (bound l : List ByteArray) (h1 : w.heap[gb]? = some (.cells #[.slice Ab bound.length cb] 28 (0, 0))) (hr : Kd.C Kd.string w Ab bound.length bound) :
    PredK Try.prog 46 #[.pointer (some ⟨gb, 0, none⟩)] Value.string (fun s => !mem s bound) w l := by
  intro W x _ hb
  have e1 := (blk_cell (blk_below h1 hb) 0).trans rfl
  have HR := Aside0.mk (Kd.C_below hr hb)
  clear hr h1
  have HB := Aside0.mk hb
  clear hb
  go_enter Try.func46, Try.ntmps46
  go_wp2_with (go_at_call 45; go_must (refine (ContainsString _ _ _ _ _ HR.out).mono ?_); rintro e w' ⟨rfl, rfl⟩)
  go_ret
  exact ⟨rfl, Below.refl _ _⟩
def GLooseIx.f (l b : List ByteArray) : Option Int := some (idxP (fun s => !mem s b) l 0)
theorem GLooseIx.calls (A0 : Option Addr) (c0 : Nat) (l0 : List ByteArray) (A1 : Option Addr) (c1 : Nat) (l1 : List ByteArray) (r : Int) (w : World) {gb : Nat} (hr0 : Kd.C Kd.string w A0 l0.length l0) (hc0 : l0.length ≤ c0) (hr1 : Kd.C Kd.string w A1 l1.length l1) (hc1 : l1.length ≤ c1)
    (hb : w.heap[gb]? = some (.cells #[.slice A1 l1.length c1] 28 (0, 0))) (h : GLooseIx.f l0 l1 = some r) :
    Calls Try.prog 48 #[.slice A0 l0.length c0, .func (.func 46) #[] #[.pointer (some ⟨gb, 0, none⟩)]] w fun e w' => e = .returned (.int .i64 r) ∧ Below w.heap.size w w' := by
  cases h
  exact IndexFuncString 46 #[.pointer (some ⟨gb, 0, none⟩)] (enters_of Try.func46 (by kernel_rfl) rfl) (fun s => !mem s l1) A0 c0 l0 w hr0 (loose1 w gb A1 c1 l1 l0 hb hr1)
end Go.Proofs.Ythpejcnldecmoaa.H
-- made by a program of this session (wip/tools) out of the translation; Lean checks it.
namespace Go.Proofs.Ythpejcnldecmoaa.H
open Go.RowKit Go.Proofs.YthpejcnldecmoaaW.PrintWords Go.Proofs.YthpejcnldecmoaaW.PrintLast Go.Proofs.YthpejcnldecmoaaW.PrintMore
attribute [local go_sem] max2_int min2_int max_two min_two max_three min_three max_four min_four   -- for this text's walks alone
set_option linter.unusedVariables false
set_option linter.unusedSimpArgs false

/-! ### safe_Check: function 28 -/
mutual
def safe_Check.l0 : Nat → List (List ByteArray) → List (Liter) → Int → Int → List ByteArray → Option (ByteArray × Int × Int)
 | 0, _, _, _, _, _ => none
 | k + 1, x7, x21, x22, x23, x106000 => if x23 < x22 then (if 0 ≤ x23 then (if x23 < (x21.length : Int) then ((safe_used.f k ((rd_T47 x21 x23).kind) ((rd_T47 x21 x23).atom.pred) ((rd_T47 x21 x23).atom.args) ((rd_T47 x21 x23).op) ((rd_T47 x21 x23).l.isVar) ((rd_T47 x21 x23).l.name) ((rd_T47 x21 x23).l.val.isSym) ((rd_T47 x21 x23).l.val.sym) ((rd_T47 x21 x23).l.val.n) ((rd_T47 x21 x23).r.isVar) ((rd_T47 x21 x23).r.name) ((rd_T47 x21 x23).r.val.isSym) ((rd_T47 x21 x23).r.val.sym) ((rd_T47 x21 x23).r.val.n)).bind fun t114 => (if x7.length < 5864062014805 then (safe_Check.l0 k (x7 ++ [t114]) x21 x22 (wrap64 (x23 + 1)) x106000) else (none))) else (none)) else (none)) else (safe_Check.l1 k x7 (x7.length : Int) 0 x106000)
def safe_Check.l1 : Nat → List (List ByteArray) → Int → Int → List ByteArray → Option (ByteArray × Int × Int)
 | 0, _, _, _, _ => none
 | k + 1, x33, x34, x35, x106000 => if x35 < x34 then (if 0 ≤ x35 then (if x35 < (x33.length : Int) then ((GLooseIx.f (rd_L14 x33 x35) x106000).bind fun t121 => (if t121 ≥ 0 then (if 0 ≤ t121 then (if t121 < ((rd_L14 x33 x35).length : Int) then (some (rdOf ByteArray.empty (rd_L14 x33 x35) t121, wrap64 ((-1) + x35), 6)) else (none)) else (none)) else (safe_Check.l1 k x33 x34 (wrap64 (x35 + 1)) x106000))) else (none)) else (none)) else (some ((⟨#[]⟩ : ByteArray), 0, 0))
end
def safe_Check.f (k : Nat) (a0_0 : ByteArray) (l0_1 : List (Term)) (l0_2 : List (Liter)) : Option (ByteArray × Int × Int) := (safe_Bound.f k a0_0 l0_1 l0_2).bind fun t102 => ((safe_Vars.f k a0_0 l0_1).bind fun t106 => (safe_Check.l0 k (([t106] : List (List ByteArray))) l0_2 (l0_2.length : Int) 0 t102))
theorem safe_Check.mono_l : ∀ k, (∀ y0 y1 y2 y3 y4, LeO (safe_Check.l0 k y0 y1 y2 y3 y4) (safe_Check.l0 (k + 1) y0 y1 y2 y3 y4)) ∧ (∀ y0 y1 y2 y3, LeO (safe_Check.l1 k y0 y1 y2 y3) (safe_Check.l1 (k + 1) y0 y1 y2 y3))
 | 0 => ⟨fun _ _ _ _ _ r h => by simp [safe_Check.l0] at h, fun _ _ _ _ r h => by simp [safe_Check.l1] at h⟩
 | k + 1 => by
  obtain ⟨ih0, ih1⟩ := safe_Check.mono_l k
  refine ⟨?_, ?_⟩
  ·intro y0 y1 y2 y3 y4
   unfold safe_Check.l0
   repeat' first
   | (with_reducible exact ih0 _ _ _ _ _)
   | (with_reducible exact ih1 _ _ _ _)
   | (with_reducible exact safe_Bound.mono _ _ _ _)
   | (with_reducible exact safe_Vars.mono _ _ _)
   | (with_reducible exact safe_used.mono _ _ _ _ _ _ _ _ _ _ _ _ _ _ _)
   | (with_reducible exact LeO.refl _)
   | (with_reducible exact LeO.none _)
   | (with_reducible refine LeO.ite ?_ ?_)
   | (with_reducible refine LeO.bind ?_ (fun _ => ?_))
   | exact ih0 _ _ _ _ _
   | exact ih1 _ _ _ _
   | exact safe_Bound.mono _ _ _ _
   | exact safe_Vars.mono _ _ _
   | exact safe_used.mono _ _ _ _ _ _ _ _ _ _ _ _ _ _ _
   | exact LeO.none _
   | refine LeO.ite ?_ ?_
   | refine LeO.bind ?_ (fun _ => ?_)
  ·intro y0 y1 y2 y3
   unfold safe_Check.l1
   repeat' first
   | (with_reducible exact ih0 _ _ _ _ _)
   | (with_reducible exact ih1 _ _ _ _)
   | (with_reducible exact safe_Bound.mono _ _ _ _)
   | (with_reducible exact safe_Vars.mono _ _ _)
   | (with_reducible exact safe_used.mono _ _ _ _ _ _ _ _ _ _ _ _ _ _ _)
   | (with_reducible exact LeO.refl _)
   | (with_reducible exact LeO.none _)
   | (with_reducible refine LeO.ite ?_ ?_)
   | (with_reducible refine LeO.bind ?_ (fun _ => ?_))
   | exact ih0 _ _ _ _ _
   | exact ih1 _ _ _ _
   | exact safe_Bound.mono _ _ _ _
   | exact safe_Vars.mono _ _ _
   | exact safe_used.mono _ _ _ _ _ _ _ _ _ _ _ _ _ _ _
   | exact LeO.none _
   | refine LeO.ite ?_ ?_
   | refine LeO.bind ?_ (fun _ => ?_)
theorem safe_Check.mono : ∀ a0 a1 a2 k, LeO (safe_Check.f k a0 a1 a2) (safe_Check.f (k + 1) a0 a1 a2) := by
 intro a0 a1 a2 k
 obtain ⟨ih0, ih1⟩ := safe_Check.mono_l k
 unfold safe_Check.f
 repeat' first
   | (with_reducible exact ih0 _ _ _ _ _)
   | (with_reducible exact ih1 _ _ _ _)
   | (with_reducible exact safe_Bound.mono _ _ _ _)
   | (with_reducible exact safe_Vars.mono _ _ _)
   | (with_reducible exact safe_used.mono _ _ _ _ _ _ _ _ _ _ _ _ _ _ _)
   | (with_reducible exact LeO.refl _)
   | (with_reducible exact LeO.none _)
   | (with_reducible refine LeO.ite ?_ ?_)
   | (with_reducible refine LeO.bind ?_ (fun _ => ?_))
   | exact ih0 _ _ _ _ _
   | exact ih1 _ _ _ _
   | exact safe_Bound.mono _ _ _ _
   | exact safe_Vars.mono _ _ _
   | exact safe_used.mono _ _ _ _ _ _ _ _ _ _ _ _ _ _ _
   | exact LeO.none _
   | refine LeO.ite ?_ ?_
   | refine LeO.bind ?_ (fun _ => ?_)
set_option maxHeartbeats 8000000 in
set_option maxRecDepth 100000 in
theorem safe_Check.calls (k : Nat) (a0_0 : ByteArray) (A0_1 : Option Addr) (c0_1 : Nat) (l0_1 : List (Term)) (A0_2 : Option Addr) (c0_2 : Nat) (l0_2 : List (Liter)) (r1 : ByteArray) (r2 : Int) (r3 : Int) (w : World) (hr0_1 : Kd.C k45 w A0_1 l0_1.length l0_1) (hc0_1 : l0_1.length ≤ c0_1) (hr0_2 : Kd.C k47 w A0_2 l0_2.length l0_2) (hc0_2 : l0_2.length ≤ c0_2) (h : safe_Check.f k a0_0 l0_1 l0_2 = some (r1, r2, r3)) :
  Calls Try.prog 28 #[.agg #[.string a0_0, .slice A0_1 l0_1.length c0_1, .slice A0_2 l0_2.length c0_2]] w fun e w' => e = .returned (.tuple #[.string r1, .int .i64 r2, .int .i64 r3]) ∧ Below w.heap.size w w' := by
 have hu27 := Try.underlying27
 have hu24 := Try.underlying24
 have hu47 := Try.underlying47
 have HR0_1 := Aside0.mk hr0_1
 have HC0_1 := Aside0.mk hc0_1
 clear hr0_1 hc0_1
 have HR0_2 := Aside0.mk hr0_2
 have HC0_2 := Aside0.mk hc0_2
 clear hr0_2 hc0_2
 have HB := Aside0.mk (Below.refl w.heap.size w)
 have H : ((safe_Bound.f k a0_0 l0_1 l0_2).bind fun t102 => ((safe_Vars.f k a0_0 l0_1).bind fun t106 => (safe_Check.l0 k (([t106] : List (List ByteArray))) l0_2 (l0_2.length : Int) 0 t102))) = some (r1, r2, r3) := h
 clear h
 replace H := Option.bind_eq_some_iff.mp H
 obtain ⟨t102, A20, H⟩ := H
 replace H : ((safe_Vars.f k a0_0 l0_1).bind fun t106 => (safe_Check.l0 k (([t106] : List (List ByteArray))) l0_2 (l0_2.length : Int) 0 t102)) = some (r1, r2, r3) := H
 have A2 := Aside0.mk A20
 clear A20
 replace H := Option.bind_eq_some_iff.mp H
 obtain ⟨t106, A30, H⟩ := H
 replace H : (safe_Check.l0 k (([t106] : List (List ByteArray))) l0_2 (l0_2.length : Int) 0 t102) = some (r1, r2, r3) := H
 have A3 := Aside0.mk A30
 clear A30
 obtain ⟨y109, hy109⟩ : ∃ y_ : List (List ByteArray), y_ = (([t106] : List (List ByteArray))) := ⟨_, rfl⟩
 replace H : (safe_Check.l0 k y109 l0_2 (l0_2.length : Int) 0 t102) = some (r1, r2, r3) := by first | (rw [hy109]; with_reducible exact H) | (have H2_ := (Option.bind_some _ _).symm.trans H; rw [hy109]; with_reducible exact H2_) | (have H2_ := (Option.bind_some _ _).symm.trans H; with_reducible exact H2_) | with_reducible exact H | (rw [hy109]; exact H) | exact H
 have Ny109 := Aside0.mk hy109
 clear hy109
 have H' := Aside0.mk H
 clear H
 go_enter Try.func28, Try.ntmps28
 go_wp2_with (first | ((with_reducible refine gate_dst (N := 1) rfl ?_); refine box_event ?hg (N := 1) ?hd (cs := #[.string a0_0, .slice A0_1 l0_1.length c0_1, .slice A0_2 l0_2.length c0_2]) (t := 27) ?hr ?_; (case hd => rfl); (case hg => rfl); (case hr => first | (go_simp; done) | (go_simp; rfl)); intro gb101 hg w4 hbox hb; have n0_ := Aside0.mk (below_step (by repeat (first | (with_reducible first | exact HB.out | apply below_alloc | apply pw_below_drewN | apply below_drew1) | exact HB.out)) hb); have n1_ := Aside0.mk (hbox); have n2_ := Aside0.mk ((by rw [hg]; exact (below_size (by repeat (first | (with_reducible first | exact HB.out | apply below_alloc | apply pw_below_drewN | apply below_drew1) | exact HB.out))) : w.heap.size ≤ gb101)); have n3_ := Aside0.mk ((by rw [hg]; exact (below_size (by repeat (first | (with_reducible first | exact HB.out | apply below_alloc | apply pw_below_drewN | apply below_drew1) | exact HB.out))) : w.heap.size ≤ gb101)); clear HB; have HB := n0_; have BK101 := n1_; have GW101 := n2_; have GE101 := n3_; clear n0_ n1_ n2_ n3_; clear hb hbox hg; have hcz5_0 : w4.cell? ⟨gb101, 0, none⟩ = some (.string a0_0) := (blk_cell BK101.out 0).trans rfl; have hcz5_1 : w4.cell? ⟨gb101, 1, none⟩ = some (.slice A0_1 l0_1.length c0_1) := (blk_cell BK101.out 1).trans rfl; have hcz5_2 : w4.cell? ⟨gb101, 2, none⟩ = some (.slice A0_2 l0_2.length c0_2) := (blk_cell BK101.out 2).trans rfl; have hfz5_0 := blk_frozen BK101.out 0; have hfz5_1 := blk_frozen BK101.out 1; have hfz5_2 := blk_frozen BK101.out 2) | ((with_reducible refine gate_callee (f := 30) rfl ?_); refine goesL_ (some 14) rfl rfl Try.func30 (by kernel_rfl) rfl #[.agg #[.string a0_0, .slice A0_1 l0_1.length c0_1, .slice A0_2 l0_2.length c0_2]] rfl (by (try simp only [List.map_toArray, List.map_cons, List.map_nil]); first | done | rfl | (simp only [List.length_drop, List.length_take]; rfl)) ?_; (with_reducible refine (safe_Bound.calls k a0_0 _ _ l0_1 _ _ l0_2 t102 _ ?side1 ?side2 ?side3 ?side4 A2.out).mono ?_); (case side1 => repeat (first | exact (Kd.C_below HR0_1.out HB.out) | (with_reducible refine Kd.C_alloc ?_ _) | (with_reducible refine Kd.C_drewN ?_ _) | (with_reducible refine Kd.C_drew ?_))); (case side2 => exact HC0_1.out); (case side3 => repeat (first | exact (Kd.C_below HR0_2.out HB.out) | (with_reducible refine Kd.C_alloc ?_ _) | (with_reducible refine Kd.C_drewN ?_ _) | (with_reducible refine Kd.C_drew ?_))); (case side4 => exact HC0_2.out); rintro e w6 ⟨v103, rfl, ho0, hb⟩; refine ⟨_, rfl, ?_⟩; have n0_ := Aside0.mk (Kd.R_lower ho0 (below_size (by repeat (first | (with_reducible first | exact HB.out | apply below_alloc | apply pw_below_drewN | apply below_drew1 | refine below_set ?_ GE101.out) | exact HB.out)))); have n1_ := Aside0.mk (blk_below (g := gb101) (o := .cells #[.string a0_0, .slice A0_1 l0_1.length c0_1, .slice A0_2 l0_2.length c0_2] 27 (0, 0)) (by (with_reducible repeat (first | refine blk_drewN ?_ _ | refine blk_drew ?_ | refine blk_alloc ?_ _)); exact BK101.out) hb); have n2_ := Aside0.mk (below_step (by repeat (first | (with_reducible first | exact HB.out | apply below_alloc | apply pw_below_drewN | apply below_drew1 | refine below_set ?_ GE101.out) | exact HB.out)) hb); clear BK101; clear HB; have HO104 := n0_; have BK101 := n1_; have HB := n2_; clear n0_ n1_ n2_; (try clear hb); (try clear hb2); (try clear hk); (try clear hi); (try clear ho0)) | ((with_reducible refine gate_dst (N := 5) rfl ?_); refine box_event ?hg (N := 5) ?hd (cs := #[.slice none 0 0]) (t := 28) ?hr ?_; (case hd => rfl); (case hg => rfl); (case hr => first | (go_simp; done) | (go_simp; rfl)); intro gb105 hg w7 hbox hb; have n0_ := Aside0.mk (Kd.R_below (by (with_reducible repeat (first | apply Kd.R_alloc | apply Kd.R_drewN | apply Kd.R_drew)); exact HO104.out) hb); have n1_ := Aside0.mk (blk_below (g := gb101) (o := .cells #[.string a0_0, .slice A0_1 l0_1.length c0_1, .slice A0_2 l0_2.length c0_2] 27 (0, 0)) (by (with_reducible repeat (first | refine blk_drewN ?_ _ | refine blk_drew ?_ | refine blk_alloc ?_ _)); exact BK101.out) hb); have n2_ := Aside0.mk (below_step (by repeat (first | (with_reducible first | exact HB.out | apply below_alloc | apply pw_below_drewN | apply below_drew1 | refine below_set ?_ GE101.out) | exact HB.out)) hb); have n3_ := Aside0.mk (hbox); have n4_ := Aside0.mk ((by rw [hg]; exact (below_size (by repeat (first | (with_reducible first | exact HB.out | apply below_alloc | apply pw_below_drewN | apply below_drew1 | refine below_set ?_ GE101.out) | exact HB.out))) : w.heap.size ≤ gb105)); have n5_ := Aside0.mk ((by rw [hg]; exact (below_size (by repeat (first | (with_reducible first | exact HB.out | apply below_alloc | apply pw_below_drewN | apply below_drew1 | refine below_set ?_ GE101.out) | exact HB.out))) : w.heap.size ≤ gb105)); have n6_ := Aside0.mk ((by rw [hg]; exact Nat.ne_of_lt (blk_lt (g := gb101) (o := .cells #[.string a0_0, .slice A0_1 l0_1.length c0_1, .slice A0_2 l0_2.length c0_2] 27 (0, 0)) (by (with_reducible repeat (first | refine blk_drewN ?_ _ | refine blk_drew ?_ | refine blk_alloc ?_ _)); exact BK101.out)) : gb101 ≠ gb105)); have n7_ := Aside0.mk ((by rw [hg]; exact Nat.ne_of_gt (blk_lt (g := gb101) (o := .cells #[.string a0_0, .slice A0_1 l0_1.length c0_1, .slice A0_2 l0_2.length c0_2] 27 (0, 0)) (by (with_reducible repeat (first | refine blk_drewN ?_ _ | refine blk_drew ?_ | refine blk_alloc ?_ _)); exact BK101.out)) : gb105 ≠ gb101)); clear HO104; clear BK101; clear HB; have HO104 := n0_; have BK101 := n1_; have HB := n2_; have BK105 := n3_; have GW105 := n4_; have GE105 := n5_; have NB101_105 := n6_; have NB105_101 := n7_; clear n0_ n1_ n2_ n3_ n4_ n5_ n6_ n7_; clear hb hbox hg; obtain ⟨Ao8, co8, eo8⟩ := Kd.R_slice HO104.out; subst eo8; have hnb9 := NB105_101.out; have hnc9 := NB101_105.out; have hcz10_0 : w7.cell? ⟨gb105, 0, none⟩ = some (.slice none 0 0) := (blk_cell BK105.out 0).trans rfl; have hfz10_0 := blk_frozen BK105.out 0; have hcz11_0 : w7.cell? ⟨gb101, 0, none⟩ = some (.string a0_0) := (blk_cell BK101.out 0).trans rfl; have hcz11_1 : w7.cell? ⟨gb101, 1, none⟩ = some (.slice A0_1 l0_1.length c0_1) := (blk_cell BK101.out 1).trans rfl; have hcz11_2 : w7.cell? ⟨gb101, 2, none⟩ = some (.slice A0_2 l0_2.length c0_2) := (blk_cell BK101.out 2).trans rfl; have hfz11_0 := blk_frozen BK101.out 0; have hfz11_1 := blk_frozen BK101.out 1; have hfz11_2 := blk_frozen BK101.out 2) | ((with_reducible refine gate_callee (f := 31) rfl ?_); refine goesL_ (some 18) rfl rfl Try.func31 (by kernel_rfl) rfl #[.agg #[.string a0_0, .slice A0_1 l0_1.length c0_1]] rfl (by (try simp only [List.map_toArray, List.map_cons, List.map_nil]); first | done | rfl | (simp only [List.length_drop, List.length_take]; rfl)) ?_; (with_reducible refine (safe_Vars.calls k a0_0 _ _ l0_1 t106 _ ?side1 ?side2 A3.out).mono ?_); (case side1 => exact Kd.C_below HR0_1.out (by repeat (first | (with_reducible first | exact HB.out | apply below_alloc | apply pw_below_drewN | apply below_drew1 | refine below_set ?_ GE101.out | refine below_set ?_ GE105.out) | exact HB.out))); (case side2 => exact HC0_1.out); rintro e w12 ⟨v107, rfl, ho0, hb⟩; refine ⟨_, rfl, ?_⟩; have n0_ := Aside0.mk (Kd.R_elder' (by (with_reducible repeat (first | apply Kd.R_alloc | apply Kd.R_drewN | apply Kd.R_drew)); exact (Kd.R_mono (Kd.R_far (p := ⟨gb105, 0, none⟩) (Kd.R_types HO104.out BK105.out (by decide)) (fun _ hk => hk.2) _) (fun _ h_ => h_.1))) (Kd.R_base ho0) hb); have n1_ := Aside0.mk (Kd.R_lower (Kd.R_new' ho0 (Kd.R_lt (by (with_reducible repeat (first | apply Kd.R_alloc | apply Kd.R_drewN | apply Kd.R_drew)); exact (Kd.R_mono (Kd.R_far (p := ⟨gb105, 0, none⟩) (Kd.R_types HO104.out BK105.out (by decide)) (fun _ hk => hk.2) _) (fun _ h_ => h_.1))))) (below_size (by repeat (first | (with_reducible first | exact HB.out | apply below_alloc | apply pw_below_drewN | apply below_drew1 | refine below_set ?_ GE101.out | refine below_set ?_ GE105.out) | exact HB.out)))); have n2_ := Aside0.mk (blk_below (g := gb101) (o := .cells #[.string a0_0, .slice A0_1 l0_1.length c0_1, .slice A0_2 l0_2.length c0_2] 27 (0, 0)) (by (with_reducible repeat (first | refine blk_drewN ?_ _ | refine blk_drew ?_ | refine blk_alloc ?_ _)); refine blk_far ?_ NB101_105.out _; (with_reducible repeat (first | refine blk_drewN ?_ _ | refine blk_drew ?_ | refine blk_alloc ?_ _)); exact BK101.out) hb); have n3_ := Aside0.mk (blk_below (g := gb105) (o := .cells #[.slice Ao8 t102.length co8] 28 (0, 0)) (by (with_reducible repeat (first | refine blk_drewN ?_ _ | refine blk_drew ?_ | refine blk_alloc ?_ _)); refine blk_put (cs := #[.slice none 0 0]) ?_ 0 _ rfl; (with_reducible repeat (first | refine blk_drewN ?_ _ | refine blk_drew ?_ | refine blk_alloc ?_ _)); exact BK105.out) hb); have n4_ := Aside0.mk (below_step (by repeat (first | (with_reducible first | exact HB.out | apply below_alloc | apply pw_below_drewN | apply below_drew1 | refine below_set ?_ GE101.out | refine below_set ?_ GE105.out) | exact HB.out)) hb); clear HO104; clear BK101; clear BK105; clear HB; have HO104 := n0_; have HO108 := n1_; have BK101 := n2_; have BK105 := n3_; have HB := n4_; clear n0_ n1_ n2_ n3_ n4_; (try clear hb); (try clear hb2); (try clear hk); (try clear hi); (try clear ho0); obtain ⟨Ao13, co13, eo13⟩ := Kd.R_slice HO108.out; subst eo13) | ((with_reducible refine gate_dst (N := 19) rfl ?_); refine Kd.N_lit (Kd.slice 9 Kd.string) _ 28 ?hg (N' := 19) ?hd (xs := ([t106] : List (List ByteArray))) (inner := [.slice Ao13 t106.length co13]) (ok := (fun k_ => some k_ ≠ (.slice Ao8 t102.length co8 : Value).ownBlock ∧ k_ ≠ gb101 ∧ k_ ≠ gb105)) (okp := (fun k_ => some k_ ≠ (.slice Ao8 t102.length co8 : Value).ownBlock ∧ k_ ≠ gb101 ∧ k_ ≠ gb105)) ?hr ?hp (fun _ hk => hk) ((show ∀ k_, w12.heap.size ≤ k_ → (fun k_ => some k_ ≠ (.slice Ao8 t102.length co8 : Value).ownBlock ∧ k_ ≠ gb101 ∧ k_ ≠ gb105) k_ from fun k_ hk => ⟨Kd.fresh' (Kd.R_lt (by (with_reducible repeat (first | apply Kd.R_alloc | apply Kd.R_drewN | apply Kd.R_drew)); exact HO104.out)) k_ hk, Kd.freshB (g := gb101) (o := .cells #[.string a0_0, .slice A0_1 l0_1.length c0_1, .slice A0_2 l0_2.length c0_2] 27 (0, 0)) (by (with_reducible repeat (first | refine blk_drewN ?_ _ | refine blk_drew ?_ | refine blk_alloc ?_ _)); exact BK101.out) k_ hk, Kd.freshB (g := gb105) (o := .cells #[.slice Ao8 t102.length co8] 28 (0, 0)) (by (with_reducible repeat (first | refine blk_drewN ?_ _ | refine blk_drew ?_ | refine blk_alloc ?_ _)); exact BK105.out) k_ hk⟩) _ (Nat.le_refl _)) (Below.refl _ _) (Nat.le_refl _) (by simp) ?_; (case hd => rfl); (case hg => rfl); (case hr => first | (go_simp; done) | (go_simp; rfl)); (case hp => exact (Reps.one (show Kd.FK (Kd.slice 9 Kd.string) _ _ t106 [.slice Ao13 t106.length co13] from (Kd.FK_slice_mk (Kd.R_reads' (Kd.R_mono (ok' := (fun k_ => some k_ ≠ (.slice Ao8 t102.length co8 : Value).ownBlock ∧ k_ ≠ gb101 ∧ k_ ≠ gb105)) (Kd.R_types (Kd.R_types (HO108.out) BK101.out (by decide)) BK105.out (by decide)) (fun k_ hk => ⟨hk.1.1.2, ⟨hk.1.2, hk.2⟩⟩))).2.1 (Kd.R_F (Kd.R_mono (ok' := (fun k_ => some k_ ≠ (.slice Ao8 t102.length co8 : Value).ownBlock ∧ k_ ≠ gb101 ∧ k_ ≠ gb105)) (Kd.R_types (Kd.R_types (HO108.out) BK101.out (by decide)) BK105.out (by decide)) (fun k_ hk => ⟨hk.1.1.2, ⟨hk.1.2, hk.2⟩⟩))))) (Reps.none _ _))); intro v110 w14 ho15 hb hg_ hnew_; clear hg_ hnew_; (first | rw [← Ny109.out] at ho15 | (simp only [Int.reduceToNat] at ho15; rw [← Ny109.out] at ho15)); have n0_ := Aside0.mk (Kd.R_below (by (with_reducible repeat (first | apply Kd.R_alloc | apply Kd.R_drewN | apply Kd.R_drew)); exact HO104.out) hb); have n1_ := Aside0.mk (Kd.N_lower ho15 (below_size (by repeat (first | (with_reducible first | exact HB.out | apply below_alloc | apply pw_below_drewN | apply below_drew1 | refine below_set ?_ GE101.out | refine below_set ?_ GE105.out) | exact HB.out)))); have n2_ := Aside0.mk (blk_below (g := gb101) (o := .cells #[.string a0_0, .slice A0_1 l0_1.length c0_1, .slice A0_2 l0_2.length c0_2] 27 (0, 0)) (by (with_reducible repeat (first | refine blk_drewN ?_ _ | refine blk_drew ?_ | refine blk_alloc ?_ _)); exact BK101.out) hb); have n3_ := Aside0.mk (blk_below (g := gb105) (o := .cells #[.slice Ao8 t102.length co8] 28 (0, 0)) (by (with_reducible repeat (first | refine blk_drewN ?_ _ | refine blk_drew ?_ | refine blk_alloc ?_ _)); exact BK105.out) hb); have n4_ := Aside0.mk (below_step (by repeat (first | (with_reducible first | exact HB.out | apply below_alloc | apply pw_below_drewN | apply below_drew1 | refine below_set ?_ GE101.out | refine below_set ?_ GE105.out) | exact HB.out)) hb); clear HO104; clear BK101; clear BK105; clear HB; clear HO108; have HO104 := n0_; have HO111 := n1_; have BK101 := n2_; have BK105 := n3_; have HB := n4_; clear n0_ n1_ n2_ n3_ n4_; clear hb ho15; have hcz16_0 : w14.cell? ⟨gb101, 0, none⟩ = some (.string a0_0) := (blk_cell BK101.out 0).trans rfl; have hcz16_1 : w14.cell? ⟨gb101, 1, none⟩ = some (.slice A0_1 l0_1.length c0_1) := (blk_cell BK101.out 1).trans rfl; have hcz16_2 : w14.cell? ⟨gb101, 2, none⟩ = some (.slice A0_2 l0_2.length c0_2) := (blk_cell BK101.out 2).trans rfl; have hfz16_0 := blk_frozen BK101.out 0; have hfz16_1 := blk_frozen BK101.out 1; have hfz16_2 := blk_frozen BK101.out 2))
 go_loopg [7, 23] k (fun kq v7 v23 w' => ∃ (x7_1 : List (List ByteArray)) (x23_1 : Int), v23 = .int .i64 x23_1 ∧ Aside0 (safe_Check.l0 kq x7_1 l0_2 (l0_2.length : Int) x23_1 t102 = some (r1, r2, r3)) ∧ Aside0 (kq ≤ k) ∧ Aside0 (Kd.N (Kd.slice 9 Kd.string) 28 w' w.heap.size (fun k_ => some k_ ≠ ((.slice Ao8 t102.length co8) : Value).ownBlock ∧ k_ ≠ gb101 ∧ k_ ≠ gb105) v7 x7_1) ∧ Aside0 (Kd.R Kd.string 9 w' w.heap.size (fun _ => True) (.slice Ao8 t102.length co8) t102) ∧ Aside0 (w'.heap[gb101]? = some (.cells #[.string a0_0, (.slice A0_1 l0_1.length c0_1), (.slice A0_2 l0_2.length c0_2)] 27 (0, 0))) ∧ Aside0 (w'.heap[gb105]? = some (.cells #[(.slice Ao8 t102.length co8)] 28 (0, 0))) ∧ Aside0 (Below w.heap.size w w'))
 case atStart => exact ⟨(y109), (0), (by first | rfl | (simp; done) | (simp [*]; done)), H', ⟨Nat.le_refl _⟩, ⟨by (with_reducible repeat (first | apply Kd.N_alloc | apply Kd.N_drewN | apply Kd.N_drew)); exact HO111.out⟩, ⟨by (with_reducible repeat (first | apply Kd.R_alloc | apply Kd.R_drewN | apply Kd.R_drew)); exact Kd.R_mono HO104.out (fun _ hk => trivial)⟩, ⟨by (with_reducible repeat (first | refine blk_drewN ?_ _ | refine blk_drew ?_ | refine blk_alloc ?_ _)); exact BK101.out⟩, ⟨by (with_reducible repeat (first | refine blk_drewN ?_ _ | refine blk_drew ?_ | refine blk_alloc ?_ _)); exact BK105.out⟩, ⟨by repeat (first | (with_reducible first | exact HB.out | apply below_alloc | apply pw_below_drewN | apply below_drew1 | refine below_set ?_ GE101.out | refine below_set ?_ GE105.out) | exact HB.out)⟩⟩
 case round =>
  clear H'
  try clear c2
  try clear p2
  try clear c3
  try clear c9
  try clear hcz10_0
  try clear hcz11_0
  try clear hcz11_1
  try clear hcz11_2
  try clear hcz16_0
  try clear hcz16_1
  try clear hcz16_2
  try clear hcz5_0
  try clear hcz5_1
  try clear hcz5_2
  try clear hfz10_0
  try clear hfz11_0
  try clear hfz11_1
  try clear hfz11_2
  try clear hfz16_0
  try clear hfz16_1
  try clear hfz16_2
  try clear hfz5_0
  try clear hfz5_1
  try clear hfz5_2
  obtain ⟨x7_1, x23_1, rfl, HA, HK1, HO_7, HO_106000, BK101, BK105, HB⟩ := hrel
  cases gk with
  | zero => exact absurd HA.out (by simp [safe_Check.l0])
  | succ k1 =>
   have H := HA.out
   clear HA
   simp only [safe_Check.l0] at H
   by_cases c17 : x23_1 < (l0_2.length : Int)
   ·rw [if_pos c17] at H
    have c17b0 : decide (x23_1 < (l0_2.length : Int)) = true := decide_eq_true c17
    clear c17
    by_cases c18 : 0 ≤ x23_1
    ·rw [if_pos c18] at H
     have c18b0 : decide (0 ≤ x23_1) = true := decide_eq_true c18
     clear c18
     by_cases c19 : x23_1 < (l0_2.length : Int)
     ·rw [if_pos c19] at H
      have c19b0 : decide (x23_1 < (l0_2.length : Int)) = true := decide_eq_true c19
      clear c19
      replace H := Option.bind_eq_some_iff.mp H
      obtain ⟨t114, A200, H⟩ := H
      replace H : (if x7_1.length < 5864062014805 then (safe_Check.l0 k1 (x7_1 ++ [t114]) l0_2 (l0_2.length : Int) (wrap64 (x23_1 + 1)) t102) else (none)) = some (r1, r2, r3) := H
      have A20 := Aside0.mk A200
      clear A200
      by_cases c21 : x7_1.length < 5864062014805
      ·rw [if_pos c21] at H
       have LMc21 := Aside0.mk c21
       clear c21
       obtain ⟨y117, hy117⟩ : ∃ y_ : List (List ByteArray), y_ = (x7_1 ++ [t114]) := ⟨_, rfl⟩
       replace H : (safe_Check.l0 k1 y117 l0_2 (l0_2.length : Int) (wrap64 (x23_1 + 1)) t102) = some (r1, r2, r3) := by first | (rw [hy117]; with_reducible exact H) | (have H2_ := (Option.bind_some _ _).symm.trans H; rw [hy117]; with_reducible exact H2_) | (have H2_ := (Option.bind_some _ _).symm.trans H; with_reducible exact H2_) | with_reducible exact H | (rw [hy117]; exact H) | exact H
       have Ny117 := Aside0.mk hy117
       clear hy117
       have H' := Aside0.mk H
       clear H
       have p112 : 0 ≤ (x23_1 : Int) := of_decide_eq_true (by first | (with_reducible assumption) | assumption)
       have q112 : x23_1 < (l0_2.length : Int) := of_decide_eq_true (by first | (with_reducible assumption) | assumption)
       obtain ⟨ad112, A112_2, c112_2, e112, hx112_0, hx112_1, hx112_2, hx112_3, hx112_4, hx112_5, hx112_6, hx112_7, hx112_8, hx112_9, hx112_10, hx112_11, hx112_12, hx112_13, hl112_2, hi112_2⟩ := at_T47 HR0_2.out x23_1 p112 q112
       cases e112
       replace hx112_0 := (HB.out.cell (blt_ hx112_0)).trans hx112_0
       replace hx112_1 := (HB.out.cell (blt_ hx112_1)).trans hx112_1
       replace hx112_2 := (HB.out.cell (blt_ hx112_2)).trans hx112_2
       replace hx112_3 := (HB.out.cell (blt_ hx112_3)).trans hx112_3
       replace hx112_4 := (HB.out.cell (blt_ hx112_4)).trans hx112_4
       replace hx112_5 := (HB.out.cell (blt_ hx112_5)).trans hx112_5
       replace hx112_6 := (HB.out.cell (blt_ hx112_6)).trans hx112_6
       replace hx112_7 := (HB.out.cell (blt_ hx112_7)).trans hx112_7
       replace hx112_8 := (HB.out.cell (blt_ hx112_8)).trans hx112_8
       replace hx112_9 := (HB.out.cell (blt_ hx112_9)).trans hx112_9
       replace hx112_10 := (HB.out.cell (blt_ hx112_10)).trans hx112_10
       replace hx112_11 := (HB.out.cell (blt_ hx112_11)).trans hx112_11
       replace hx112_12 := (HB.out.cell (blt_ hx112_12)).trans hx112_12
       replace hx112_13 := (HB.out.cell (blt_ hx112_13)).trans hx112_13
       have HR112_2 := Aside0.mk hi112_2
       have HC112_2 := Aside0.mk hl112_2
       clear hi112_2 hl112_2
       replace p112 := eq_true p112
       replace q112 := eq_true q112
       go_wp2_with (first | ((with_reducible refine gate_dst (N := 9) rfl ?_); refine box_event ?hg (N := 9) ?hd (cs := #[.int .i64 0, .string (⟨#[]⟩ : ByteArray), .slice none 0 0, .string (⟨#[]⟩ : ByteArray), .bool false, .string (⟨#[]⟩ : ByteArray), .bool false, .string (⟨#[]⟩ : ByteArray), .int .i64 0, .bool false, .string (⟨#[]⟩ : ByteArray), .bool false, .string (⟨#[]⟩ : ByteArray), .int .i64 0]) (t := 47) ?hr ?_; (case hd => rfl); (case hg => rfl); (case hr => first | (go_simp; done) | (go_simp; rfl)); intro gb113 hg w22 hbox hb; have n0_ := Aside0.mk (Kd.N_below (Kd.N_elderB (by (with_reducible repeat (first | apply Kd.N_alloc | apply Kd.N_drewN | apply Kd.N_drew)); exact HO_7.out) gb113 (Nat.le_of_eq hg.symm)) hb); have n1_ := Aside0.mk (Kd.R_below (by (with_reducible repeat (first | apply Kd.R_alloc | apply Kd.R_drewN | apply Kd.R_drew)); exact HO_106000.out) hb); have n2_ := Aside0.mk (blk_below (g := gb101) (o := .cells #[.string a0_0, .slice A0_1 l0_1.length c0_1, .slice (some ad112) l0_2.length c0_2] 27 (0, 0)) (by (with_reducible repeat (first | refine blk_drewN ?_ _ | refine blk_drew ?_ | refine blk_alloc ?_ _)); exact BK101.out) hb); have n3_ := Aside0.mk (blk_below (g := gb105) (o := .cells #[.slice Ao8 t102.length co8] 28 (0, 0)) (by (with_reducible repeat (first | refine blk_drewN ?_ _ | refine blk_drew ?_ | refine blk_alloc ?_ _)); exact BK105.out) hb); have n4_ := Aside0.mk (below_step (by repeat (first | (with_reducible first | exact HB.out | apply below_alloc | apply pw_below_drewN | apply below_drew1 | refine below_set ?_ GE101.out | refine below_set ?_ GE105.out) | exact HB.out)) hb); have n5_ := Aside0.mk (hbox); have n6_ := Aside0.mk ((by rw [hg]; exact (below_size (by repeat (first | (with_reducible first | exact HB.out | apply below_alloc | apply pw_below_drewN | apply below_drew1 | refine below_set ?_ GE101.out | refine below_set ?_ GE105.out) | exact HB.out))) : w.heap.size ≤ gb113)); have n7_ := Aside0.mk ((by rw [hg]; exact (below_size (by repeat (first | (with_reducible first | exact HB.out | apply below_alloc | apply pw_below_drewN | apply below_drew1 | refine below_set ?_ GE101.out | refine below_set ?_ GE105.out) | exact HB.out))) : w.heap.size ≤ gb113)); have n8_ := Aside0.mk ((by rw [hg]; exact Nat.ne_of_lt (blk_lt (g := gb101) (o := .cells #[.string a0_0, .slice A0_1 l0_1.length c0_1, .slice (some ad112) l0_2.length c0_2] 27 (0, 0)) (by (with_reducible repeat (first | refine blk_drewN ?_ _ | refine blk_drew ?_ | refine blk_alloc ?_ _)); exact BK101.out)) : gb101 ≠ gb113)); have n9_ := Aside0.mk ((by rw [hg]; exact Nat.ne_of_gt (blk_lt (g := gb101) (o := .cells #[.string a0_0, .slice A0_1 l0_1.length c0_1, .slice (some ad112) l0_2.length c0_2] 27 (0, 0)) (by (with_reducible repeat (first | refine blk_drewN ?_ _ | refine blk_drew ?_ | refine blk_alloc ?_ _)); exact BK101.out)) : gb113 ≠ gb101)); have n10_ := Aside0.mk ((by rw [hg]; exact Nat.ne_of_lt (blk_lt (g := gb105) (o := .cells #[.slice Ao8 t102.length co8] 28 (0, 0)) (by (with_reducible repeat (first | refine blk_drewN ?_ _ | refine blk_drew ?_ | refine blk_alloc ?_ _)); exact BK105.out)) : gb105 ≠ gb113)); have n11_ := Aside0.mk ((by rw [hg]; exact Nat.ne_of_gt (blk_lt (g := gb105) (o := .cells #[.slice Ao8 t102.length co8] 28 (0, 0)) (by (with_reducible repeat (first | refine blk_drewN ?_ _ | refine blk_drew ?_ | refine blk_alloc ?_ _)); exact BK105.out)) : gb113 ≠ gb105)); clear HO_7; clear HO_106000; clear BK101; clear BK105; clear HB; have HO_7 := n0_; have HO_106000 := n1_; have BK101 := n2_; have BK105 := n3_; have HB := n4_; have BK113 := n5_; have GW113 := n6_; have GE113 := n7_; have NB101_113 := n8_; have NB113_101 := n9_; have NB105_113 := n10_; have NB113_105 := n11_; clear n0_ n1_ n2_ n3_ n4_ n5_ n6_ n7_ n8_ n9_ n10_ n11_; clear hb hbox hg; have hnb23 := NB113_101.out; have hnc23 := NB101_113.out; have hnb24 := NB113_105.out; have hnc24 := NB105_113.out; have hcz25_0 : w22.cell? ⟨gb113, 0, none⟩ = some (.int .i64 0) := (blk_cell BK113.out 0).trans rfl; have hcz25_1 : w22.cell? ⟨gb113, 1, none⟩ = some (.string (⟨#[]⟩ : ByteArray)) := (blk_cell BK113.out 1).trans rfl; have hcz25_2 : w22.cell? ⟨gb113, 2, none⟩ = some (.slice none 0 0) := (blk_cell BK113.out 2).trans rfl; have hcz25_3 : w22.cell? ⟨gb113, 3, none⟩ = some (.string (⟨#[]⟩ : ByteArray)) := (blk_cell BK113.out 3).trans rfl; have hcz25_4 : w22.cell? ⟨gb113, 4, none⟩ = some (.bool false) := (blk_cell BK113.out 4).trans rfl; have hcz25_5 : w22.cell? ⟨gb113, 5, none⟩ = some (.string (⟨#[]⟩ : ByteArray)) := (blk_cell BK113.out 5).trans rfl; have hcz25_6 : w22.cell? ⟨gb113, 6, none⟩ = some (.bool false) := (blk_cell BK113.out 6).trans rfl; have hcz25_7 : w22.cell? ⟨gb113, 7, none⟩ = some (.string (⟨#[]⟩ : ByteArray)) := (blk_cell BK113.out 7).trans rfl; have hcz25_8 : w22.cell? ⟨gb113, 8, none⟩ = some (.int .i64 0) := (blk_cell BK113.out 8).trans rfl; have hcz25_9 : w22.cell? ⟨gb113, 9, none⟩ = some (.bool false) := (blk_cell BK113.out 9).trans rfl; have hcz25_10 : w22.cell? ⟨gb113, 10, none⟩ = some (.string (⟨#[]⟩ : ByteArray)) := (blk_cell BK113.out 10).trans rfl; have hcz25_11 : w22.cell? ⟨gb113, 11, none⟩ = some (.bool false) := (blk_cell BK113.out 11).trans rfl; have hcz25_12 : w22.cell? ⟨gb113, 12, none⟩ = some (.string (⟨#[]⟩ : ByteArray)) := (blk_cell BK113.out 12).trans rfl; have hcz25_13 : w22.cell? ⟨gb113, 13, none⟩ = some (.int .i64 0) := (blk_cell BK113.out 13).trans rfl; have hfz25_0 := blk_frozen BK113.out 0; have hfz25_1 := blk_frozen BK113.out 1; have hfz25_2 := blk_frozen BK113.out 2; have hfz25_3 := blk_frozen BK113.out 3; have hfz25_4 := blk_frozen BK113.out 4; have hfz25_5 := blk_frozen BK113.out 5; have hfz25_6 := blk_frozen BK113.out 6; have hfz25_7 := blk_frozen BK113.out 7; have hfz25_8 := blk_frozen BK113.out 8; have hfz25_9 := blk_frozen BK113.out 9; have hfz25_10 := blk_frozen BK113.out 10; have hfz25_11 := blk_frozen BK113.out 11; have hfz25_12 := blk_frozen BK113.out 12; have hfz25_13 := blk_frozen BK113.out 13) | ((with_reducible refine gate_callee (f := 47) rfl ?_); refine goesL_ (some 29) rfl rfl Try.func47 (by kernel_rfl) rfl #[.agg #[.int .i64 ((rd_T47 l0_2 x23_1).kind), .string ((rd_T47 l0_2 x23_1).atom.pred), .slice A112_2 ((rd_T47 l0_2 x23_1).atom.args).length c112_2, .string ((rd_T47 l0_2 x23_1).op), .bool ((rd_T47 l0_2 x23_1).l.isVar), .string ((rd_T47 l0_2 x23_1).l.name), .bool ((rd_T47 l0_2 x23_1).l.val.isSym), .string ((rd_T47 l0_2 x23_1).l.val.sym), .int .i64 ((rd_T47 l0_2 x23_1).l.val.n), .bool ((rd_T47 l0_2 x23_1).r.isVar), .string ((rd_T47 l0_2 x23_1).r.name), .bool ((rd_T47 l0_2 x23_1).r.val.isSym), .string ((rd_T47 l0_2 x23_1).r.val.sym), .int .i64 ((rd_T47 l0_2 x23_1).r.val.n)]] rfl (by (try simp only [List.map_toArray, List.map_cons, List.map_nil]); first | done | rfl | (simp only [List.length_drop, List.length_take]; rfl)) ?_; (with_reducible refine (safe_used.calls k1 ((rd_T47 l0_2 x23_1).kind) ((rd_T47 l0_2 x23_1).atom.pred) _ _ ((rd_T47 l0_2 x23_1).atom.args) ((rd_T47 l0_2 x23_1).op) ((rd_T47 l0_2 x23_1).l.isVar) ((rd_T47 l0_2 x23_1).l.name) ((rd_T47 l0_2 x23_1).l.val.isSym) ((rd_T47 l0_2 x23_1).l.val.sym) ((rd_T47 l0_2 x23_1).l.val.n) ((rd_T47 l0_2 x23_1).r.isVar) ((rd_T47 l0_2 x23_1).r.name) ((rd_T47 l0_2 x23_1).r.val.isSym) ((rd_T47 l0_2 x23_1).r.val.sym) ((rd_T47 l0_2 x23_1).r.val.n) t114 _ ?side1 ?side2 A20.out).mono ?_); (case side1 => exact Kd.C_below HR112_2.out (by repeat (first | (with_reducible first | exact HB.out | apply below_alloc | apply pw_below_drewN | apply below_drew1 | refine below_set ?_ GE101.out | refine below_set ?_ GE105.out | refine below_set ?_ GE113.out) | exact HB.out))); (case side2 => exact HC112_2.out); rintro e w26 ⟨v115, rfl, ho0, hb⟩; refine ⟨_, rfl, ?_⟩; have n0_ := Aside0.mk (Kd.N_elder' (by (with_reducible repeat (first | apply Kd.N_alloc | apply Kd.N_drewN | apply Kd.N_drew)); exact (Kd.N_mono (Kd.N_far (p := ⟨gb113, 13, none⟩) (Kd.N_far (p := ⟨gb113, 12, none⟩) (Kd.N_far (p := ⟨gb113, 11, none⟩) (Kd.N_far (p := ⟨gb113, 10, none⟩) (Kd.N_far (p := ⟨gb113, 9, none⟩) (Kd.N_far (p := ⟨gb113, 8, none⟩) (Kd.N_far (p := ⟨gb113, 7, none⟩) (Kd.N_far (p := ⟨gb113, 6, none⟩) (Kd.N_far (p := ⟨gb113, 5, none⟩) (Kd.N_far (p := ⟨gb113, 4, none⟩) (Kd.N_far (p := ⟨gb113, 3, none⟩) (Kd.N_far (p := ⟨gb113, 2, none⟩) (Kd.N_far (p := ⟨gb113, 1, none⟩) (Kd.N_far (p := ⟨gb113, 0, none⟩) (Kd.N_mono HO_7.out (fun k_ hk => (⟨hk, hk.2⟩ : _ ∧ k_ ≠ gb113))) (fun _ hk => hk.2) _) (fun _ hk => hk.2) _) (fun _ hk => hk.2) _) (fun _ hk => hk.2) _) (fun _ hk => hk.2) _) (fun _ hk => hk.2) _) (fun _ hk => hk.2) _) (fun _ hk => hk.2) _) (fun _ hk => hk.2) _) (fun _ hk => hk.2) _) (fun _ hk => hk.2) _) (fun _ hk => hk.2) _) (fun _ hk => hk.2) _) (fun _ hk => hk.2) _) (fun _ h_ => h_.1))) (Kd.R_base ho0) hb); have n1_ := Aside0.mk (Kd.R_elder' (by (with_reducible repeat (first | apply Kd.R_alloc | apply Kd.R_drewN | apply Kd.R_drew)); exact (Kd.R_mono (Kd.R_far (p := ⟨gb113, 13, none⟩) (Kd.R_far (p := ⟨gb113, 12, none⟩) (Kd.R_far (p := ⟨gb113, 11, none⟩) (Kd.R_far (p := ⟨gb113, 10, none⟩) (Kd.R_far (p := ⟨gb113, 9, none⟩) (Kd.R_far (p := ⟨gb113, 8, none⟩) (Kd.R_far (p := ⟨gb113, 7, none⟩) (Kd.R_far (p := ⟨gb113, 6, none⟩) (Kd.R_far (p := ⟨gb113, 5, none⟩) (Kd.R_far (p := ⟨gb113, 4, none⟩) (Kd.R_far (p := ⟨gb113, 3, none⟩) (Kd.R_far (p := ⟨gb113, 2, none⟩) (Kd.R_far (p := ⟨gb113, 1, none⟩) (Kd.R_far (p := ⟨gb113, 0, none⟩) (Kd.R_types HO_106000.out BK113.out (by decide)) (fun _ hk => hk.2) _) (fun _ hk => hk.2) _) (fun _ hk => hk.2) _) (fun _ hk => hk.2) _) (fun _ hk => hk.2) _) (fun _ hk => hk.2) _) (fun _ hk => hk.2) _) (fun _ hk => hk.2) _) (fun _ hk => hk.2) _) (fun _ hk => hk.2) _) (fun _ hk => hk.2) _) (fun _ hk => hk.2) _) (fun _ hk => hk.2) _) (fun _ hk => hk.2) _) (fun _ h_ => h_.1))) (Kd.R_base ho0) hb); have n2_ := Aside0.mk (Kd.R_lower (Kd.R_new' ho0 (Kd.R_lt (by (with_reducible repeat (first | apply Kd.R_alloc | apply Kd.R_drewN | apply Kd.R_drew)); exact (Kd.R_mono (Kd.R_far (p := ⟨gb113, 13, none⟩) (Kd.R_far (p := ⟨gb113, 12, none⟩) (Kd.R_far (p := ⟨gb113, 11, none⟩) (Kd.R_far (p := ⟨gb113, 10, none⟩) (Kd.R_far (p := ⟨gb113, 9, none⟩) (Kd.R_far (p := ⟨gb113, 8, none⟩) (Kd.R_far (p := ⟨gb113, 7, none⟩) (Kd.R_far (p := ⟨gb113, 6, none⟩) (Kd.R_far (p := ⟨gb113, 5, none⟩) (Kd.R_far (p := ⟨gb113, 4, none⟩) (Kd.R_far (p := ⟨gb113, 3, none⟩) (Kd.R_far (p := ⟨gb113, 2, none⟩) (Kd.R_far (p := ⟨gb113, 1, none⟩) (Kd.R_far (p := ⟨gb113, 0, none⟩) (Kd.R_types HO_106000.out BK113.out (by decide)) (fun _ hk => hk.2) _) (fun _ hk => hk.2) _) (fun _ hk => hk.2) _) (fun _ hk => hk.2) _) (fun _ hk => hk.2) _) (fun _ hk => hk.2) _) (fun _ hk => hk.2) _) (fun _ hk => hk.2) _) (fun _ hk => hk.2) _) (fun _ hk => hk.2) _) (fun _ hk => hk.2) _) (fun _ hk => hk.2) _) (fun _ hk => hk.2) _) (fun _ hk => hk.2) _) (fun _ h_ => h_.1))))) (below_size (by repeat (first | (with_reducible first | exact HB.out | apply below_alloc | apply pw_below_drewN | apply below_drew1 | refine below_set ?_ GE101.out | refine below_set ?_ GE105.out | refine below_set ?_ GE113.out) | exact HB.out)))); have n3_ := Aside0.mk (blk_below (g := gb101) (o := .cells #[.string a0_0, .slice A0_1 l0_1.length c0_1, .slice (some ad112) l0_2.length c0_2] 27 (0, 0)) (by repeat (first | (with_reducible first | exact BK101.out | refine blk_drewN ?_ _ | refine blk_drew ?_ | refine blk_alloc ?_ _) | refine blk_far ?_ NB101_113.out _ | exact BK101.out)) hb); have n4_ := Aside0.mk (blk_below (g := gb105) (o := .cells #[.slice Ao8 t102.length co8] 28 (0, 0)) (by repeat (first | (with_reducible first | exact BK105.out | refine blk_drewN ?_ _ | refine blk_drew ?_ | refine blk_alloc ?_ _) | refine blk_far ?_ NB105_113.out _ | exact BK105.out)) hb); have n5_ := Aside0.mk (blk_below (g := gb113) (o := .cells #[.int .i64 ((rd_T47 l0_2 x23_1).kind), .string ((rd_T47 l0_2 x23_1).atom.pred), .slice A112_2 ((rd_T47 l0_2 x23_1).atom.args).length c112_2, .string ((rd_T47 l0_2 x23_1).op), .bool ((rd_T47 l0_2 x23_1).l.isVar), .string ((rd_T47 l0_2 x23_1).l.name), .bool ((rd_T47 l0_2 x23_1).l.val.isSym), .string ((rd_T47 l0_2 x23_1).l.val.sym), .int .i64 ((rd_T47 l0_2 x23_1).l.val.n), .bool ((rd_T47 l0_2 x23_1).r.isVar), .string ((rd_T47 l0_2 x23_1).r.name), .bool ((rd_T47 l0_2 x23_1).r.val.isSym), .string ((rd_T47 l0_2 x23_1).r.val.sym), .int .i64 ((rd_T47 l0_2 x23_1).r.val.n)] 47 (0, 0)) (by (with_reducible repeat (first | refine blk_drewN ?_ _ | refine blk_drew ?_ | refine blk_alloc ?_ _)); refine blk_put (cs := #[.int .i64 ((rd_T47 l0_2 x23_1).kind), .string ((rd_T47 l0_2 x23_1).atom.pred), .slice A112_2 ((rd_T47 l0_2 x23_1).atom.args).length c112_2, .string ((rd_T47 l0_2 x23_1).op), .bool ((rd_T47 l0_2 x23_1).l.isVar), .string ((rd_T47 l0_2 x23_1).l.name), .bool ((rd_T47 l0_2 x23_1).l.val.isSym), .string ((rd_T47 l0_2 x23_1).l.val.sym), .int .i64 ((rd_T47 l0_2 x23_1).l.val.n), .bool ((rd_T47 l0_2 x23_1).r.isVar), .string ((rd_T47 l0_2 x23_1).r.name), .bool ((rd_T47 l0_2 x23_1).r.val.isSym), .string ((rd_T47 l0_2 x23_1).r.val.sym), .int .i64 0]) ?_ 13 _ rfl; (with_reducible repeat (first | refine blk_drewN ?_ _ | refine blk_drew ?_ | refine blk_alloc ?_ _)); refine blk_put (cs := #[.int .i64 ((rd_T47 l0_2 x23_1).kind), .string ((rd_T47 l0_2 x23_1).atom.pred), .slice A112_2 ((rd_T47 l0_2 x23_1).atom.args).length c112_2, .string ((rd_T47 l0_2 x23_1).op), .bool ((rd_T47 l0_2 x23_1).l.isVar), .string ((rd_T47 l0_2 x23_1).l.name), .bool ((rd_T47 l0_2 x23_1).l.val.isSym), .string ((rd_T47 l0_2 x23_1).l.val.sym), .int .i64 ((rd_T47 l0_2 x23_1).l.val.n), .bool ((rd_T47 l0_2 x23_1).r.isVar), .string ((rd_T47 l0_2 x23_1).r.name), .bool ((rd_T47 l0_2 x23_1).r.val.isSym), .string (⟨#[]⟩ : ByteArray), .int .i64 0]) ?_ 12 _ rfl; (with_reducible repeat (first | refine blk_drewN ?_ _ | refine blk_drew ?_ | refine blk_alloc ?_ _)); refine blk_put (cs := #[.int .i64 ((rd_T47 l0_2 x23_1).kind), .string ((rd_T47 l0_2 x23_1).atom.pred), .slice A112_2 ((rd_T47 l0_2 x23_1).atom.args).length c112_2, .string ((rd_T47 l0_2 x23_1).op), .bool ((rd_T47 l0_2 x23_1).l.isVar), .string ((rd_T47 l0_2 x23_1).l.name), .bool ((rd_T47 l0_2 x23_1).l.val.isSym), .string ((rd_T47 l0_2 x23_1).l.val.sym), .int .i64 ((rd_T47 l0_2 x23_1).l.val.n), .bool ((rd_T47 l0_2 x23_1).r.isVar), .string ((rd_T47 l0_2 x23_1).r.name), .bool false, .string (⟨#[]⟩ : ByteArray), .int .i64 0]) ?_ 11 _ rfl; (with_reducible repeat (first | refine blk_drewN ?_ _ | refine blk_drew ?_ | refine blk_alloc ?_ _)); refine blk_put (cs := #[.int .i64 ((rd_T47 l0_2 x23_1).kind), .string ((rd_T47 l0_2 x23_1).atom.pred), .slice A112_2 ((rd_T47 l0_2 x23_1).atom.args).length c112_2, .string ((rd_T47 l0_2 x23_1).op), .bool ((rd_T47 l0_2 x23_1).l.isVar), .string ((rd_T47 l0_2 x23_1).l.name), .bool ((rd_T47 l0_2 x23_1).l.val.isSym), .string ((rd_T47 l0_2 x23_1).l.val.sym), .int .i64 ((rd_T47 l0_2 x23_1).l.val.n), .bool ((rd_T47 l0_2 x23_1).r.isVar), .string (⟨#[]⟩ : ByteArray), .bool false, .string (⟨#[]⟩ : ByteArray), .int .i64 0]) ?_ 10 _ rfl; (with_reducible repeat (first | refine blk_drewN ?_ _ | refine blk_drew ?_ | refine blk_alloc ?_ _)); refine blk_put (cs := #[.int .i64 ((rd_T47 l0_2 x23_1).kind), .string ((rd_T47 l0_2 x23_1).atom.pred), .slice A112_2 ((rd_T47 l0_2 x23_1).atom.args).length c112_2, .string ((rd_T47 l0_2 x23_1).op), .bool ((rd_T47 l0_2 x23_1).l.isVar), .string ((rd_T47 l0_2 x23_1).l.name), .bool ((rd_T47 l0_2 x23_1).l.val.isSym), .string ((rd_T47 l0_2 x23_1).l.val.sym), .int .i64 ((rd_T47 l0_2 x23_1).l.val.n), .bool false, .string (⟨#[]⟩ : ByteArray), .bool false, .string (⟨#[]⟩ : ByteArray), .int .i64 0]) ?_ 9 _ rfl; (with_reducible repeat (first | refine blk_drewN ?_ _ | refine blk_drew ?_ | refine blk_alloc ?_ _)); refine blk_put (cs := #[.int .i64 ((rd_T47 l0_2 x23_1).kind), .string ((rd_T47 l0_2 x23_1).atom.pred), .slice A112_2 ((rd_T47 l0_2 x23_1).atom.args).length c112_2, .string ((rd_T47 l0_2 x23_1).op), .bool ((rd_T47 l0_2 x23_1).l.isVar), .string ((rd_T47 l0_2 x23_1).l.name), .bool ((rd_T47 l0_2 x23_1).l.val.isSym), .string ((rd_T47 l0_2 x23_1).l.val.sym), .int .i64 0, .bool false, .string (⟨#[]⟩ : ByteArray), .bool false, .string (⟨#[]⟩ : ByteArray), .int .i64 0]) ?_ 8 _ rfl; (with_reducible repeat (first | refine blk_drewN ?_ _ | refine blk_drew ?_ | refine blk_alloc ?_ _)); refine blk_put (cs := #[.int .i64 ((rd_T47 l0_2 x23_1).kind), .string ((rd_T47 l0_2 x23_1).atom.pred), .slice A112_2 ((rd_T47 l0_2 x23_1).atom.args).length c112_2, .string ((rd_T47 l0_2 x23_1).op), .bool ((rd_T47 l0_2 x23_1).l.isVar), .string ((rd_T47 l0_2 x23_1).l.name), .bool ((rd_T47 l0_2 x23_1).l.val.isSym), .string (⟨#[]⟩ : ByteArray), .int .i64 0, .bool false, .string (⟨#[]⟩ : ByteArray), .bool false, .string (⟨#[]⟩ : ByteArray), .int .i64 0]) ?_ 7 _ rfl; (with_reducible repeat (first | refine blk_drewN ?_ _ | refine blk_drew ?_ | refine blk_alloc ?_ _)); refine blk_put (cs := #[.int .i64 ((rd_T47 l0_2 x23_1).kind), .string ((rd_T47 l0_2 x23_1).atom.pred), .slice A112_2 ((rd_T47 l0_2 x23_1).atom.args).length c112_2, .string ((rd_T47 l0_2 x23_1).op), .bool ((rd_T47 l0_2 x23_1).l.isVar), .string ((rd_T47 l0_2 x23_1).l.name), .bool false, .string (⟨#[]⟩ : ByteArray), .int .i64 0, .bool false, .string (⟨#[]⟩ : ByteArray), .bool false, .string (⟨#[]⟩ : ByteArray), .int .i64 0]) ?_ 6 _ rfl; (with_reducible repeat (first | refine blk_drewN ?_ _ | refine blk_drew ?_ | refine blk_alloc ?_ _)); refine blk_put (cs := #[.int .i64 ((rd_T47 l0_2 x23_1).kind), .string ((rd_T47 l0_2 x23_1).atom.pred), .slice A112_2 ((rd_T47 l0_2 x23_1).atom.args).length c112_2, .string ((rd_T47 l0_2 x23_1).op), .bool ((rd_T47 l0_2 x23_1).l.isVar), .string (⟨#[]⟩ : ByteArray), .bool false, .string (⟨#[]⟩ : ByteArray), .int .i64 0, .bool false, .string (⟨#[]⟩ : ByteArray), .bool false, .string (⟨#[]⟩ : ByteArray), .int .i64 0]) ?_ 5 _ rfl; (with_reducible repeat (first | refine blk_drewN ?_ _ | refine blk_drew ?_ | refine blk_alloc ?_ _)); refine blk_put (cs := #[.int .i64 ((rd_T47 l0_2 x23_1).kind), .string ((rd_T47 l0_2 x23_1).atom.pred), .slice A112_2 ((rd_T47 l0_2 x23_1).atom.args).length c112_2, .string ((rd_T47 l0_2 x23_1).op), .bool false, .string (⟨#[]⟩ : ByteArray), .bool false, .string (⟨#[]⟩ : ByteArray), .int .i64 0, .bool false, .string (⟨#[]⟩ : ByteArray), .bool false, .string (⟨#[]⟩ : ByteArray), .int .i64 0]) ?_ 4 _ rfl; (with_reducible repeat (first | refine blk_drewN ?_ _ | refine blk_drew ?_ | refine blk_alloc ?_ _)); refine blk_put (cs := #[.int .i64 ((rd_T47 l0_2 x23_1).kind), .string ((rd_T47 l0_2 x23_1).atom.pred), .slice A112_2 ((rd_T47 l0_2 x23_1).atom.args).length c112_2, .string (⟨#[]⟩ : ByteArray), .bool false, .string (⟨#[]⟩ : ByteArray), .bool false, .string (⟨#[]⟩ : ByteArray), .int .i64 0, .bool false, .string (⟨#[]⟩ : ByteArray), .bool false, .string (⟨#[]⟩ : ByteArray), .int .i64 0]) ?_ 3 _ rfl; (with_reducible repeat (first | refine blk_drewN ?_ _ | refine blk_drew ?_ | refine blk_alloc ?_ _)); refine blk_put (cs := #[.int .i64 ((rd_T47 l0_2 x23_1).kind), .string ((rd_T47 l0_2 x23_1).atom.pred), .slice none 0 0, .string (⟨#[]⟩ : ByteArray), .bool false, .string (⟨#[]⟩ : ByteArray), .bool false, .string (⟨#[]⟩ : ByteArray), .int .i64 0, .bool false, .string (⟨#[]⟩ : ByteArray), .bool false, .string (⟨#[]⟩ : ByteArray), .int .i64 0]) ?_ 2 _ rfl; (with_reducible repeat (first | refine blk_drewN ?_ _ | refine blk_drew ?_ | refine blk_alloc ?_ _)); refine blk_put (cs := #[.int .i64 ((rd_T47 l0_2 x23_1).kind), .string (⟨#[]⟩ : ByteArray), .slice none 0 0, .string (⟨#[]⟩ : ByteArray), .bool false, .string (⟨#[]⟩ : ByteArray), .bool false, .string (⟨#[]⟩ : ByteArray), .int .i64 0, .bool false, .string (⟨#[]⟩ : ByteArray), .bool false, .string (⟨#[]⟩ : ByteArray), .int .i64 0]) ?_ 1 _ rfl; (with_reducible repeat (first | refine blk_drewN ?_ _ | refine blk_drew ?_ | refine blk_alloc ?_ _)); refine blk_put (cs := #[.int .i64 0, .string (⟨#[]⟩ : ByteArray), .slice none 0 0, .string (⟨#[]⟩ : ByteArray), .bool false, .string (⟨#[]⟩ : ByteArray), .bool false, .string (⟨#[]⟩ : ByteArray), .int .i64 0, .bool false, .string (⟨#[]⟩ : ByteArray), .bool false, .string (⟨#[]⟩ : ByteArray), .int .i64 0]) ?_ 0 _ rfl; (with_reducible repeat (first | refine blk_drewN ?_ _ | refine blk_drew ?_ | refine blk_alloc ?_ _)); exact BK113.out) hb); have n6_ := Aside0.mk (below_step (by repeat (first | (with_reducible first | exact HB.out | apply below_alloc | apply pw_below_drewN | apply below_drew1 | refine below_set ?_ GE101.out | refine below_set ?_ GE105.out | refine below_set ?_ GE113.out) | exact HB.out)) hb); clear HO_7; clear HO_106000; clear BK101; clear BK105; clear BK113; clear HB; have HO_7 := n0_; have HO_106000 := n1_; have HO116 := n2_; have BK101 := n3_; have BK105 := n4_; have BK113 := n5_; have HB := n6_; clear n0_ n1_ n2_ n3_ n4_ n5_ n6_; (try clear hb); (try clear hb2); (try clear hk); (try clear hi); (try clear ho0); obtain ⟨Ao28, co28, eo28⟩ := Kd.R_slice HO116.out; subst eo28) | ((with_reducible refine gate_builtin (b := .append) (xs := #[.tmp 27, .tmp 30]) rfl ?_); at_builtin; refine Kd.N_append (Kd.slice 9 Kd.string) (w0 := w) w.heap.size rfl (.tmp 27) (.tmp 30) 83 28 (.slice none 0 0) 24 rfl Try.underlying83 info28 rfl (by decide) (by omega) u7 x7_1 t114 [.slice Ao28 t114.length co28] (fun k_ => some k_ ≠ (.slice Ao8 t102.length co8 : Value).ownBlock ∧ k_ ≠ gb101 ∧ k_ ≠ gb105 ∧ k_ ≠ gb113) (fun k_ => ((fun k_ => some k_ ≠ (.slice Ao8 t102.length co8 : Value).ownBlock ∧ k_ ≠ gb101 ∧ k_ ≠ gb105 ∧ k_ ≠ gb113)) k_ ∧ some k_ ≠ (u7 : Value).ownBlock) rfl rfl ?aP (fun _ hk => hk) ?aF ?aO ?aB ?aS ?aL ?_; (case aP => exact (Kd.FK_slice_mk (Kd.R_reads' (Kd.R_mono (ok' := (fun k_ => ((fun k_ => some k_ ≠ (.slice Ao8 t102.length co8 : Value).ownBlock ∧ k_ ≠ gb101 ∧ k_ ≠ gb105 ∧ k_ ≠ gb113)) k_ ∧ some k_ ≠ (u7 : Value).ownBlock)) (Kd.R_types (Kd.R_types (Kd.R_types (Kd.R_apart' (HO116.out) (Kd.N_typed HO_7.out) (by decide)) BK101.out (by decide)) BK105.out (by decide)) BK113.out (by decide)) (fun k_ hk => ⟨⟨hk.1.1.1.1.2, ⟨hk.1.1.2, ⟨hk.1.2, hk.2⟩⟩⟩, hk.1.1.1.2⟩))).2.1 (Kd.R_F (Kd.R_mono (ok' := (fun k_ => ((fun k_ => some k_ ≠ (.slice Ao8 t102.length co8 : Value).ownBlock ∧ k_ ≠ gb101 ∧ k_ ≠ gb105 ∧ k_ ≠ gb113)) k_ ∧ some k_ ≠ (u7 : Value).ownBlock)) (Kd.R_types (Kd.R_types (Kd.R_types (Kd.R_apart' (HO116.out) (Kd.N_typed HO_7.out) (by decide)) BK101.out (by decide)) BK105.out (by decide)) BK113.out (by decide)) (fun k_ hk => ⟨⟨hk.1.1.1.1.2, ⟨hk.1.1.2, ⟨hk.1.2, hk.2⟩⟩⟩, hk.1.1.1.2⟩))))); (case aB => exact (by repeat (first | (with_reducible first | exact HB.out | apply below_alloc | apply pw_below_drewN | apply below_drew1 | refine below_set ?_ GE101.out | refine below_set ?_ GE105.out | refine below_set ?_ GE113.out) | exact HB.out))); (case aF => exact (fun k_ hk => ⟨Kd.fresh' (Kd.R_lt (by (with_reducible repeat (first | apply Kd.R_alloc | apply Kd.R_drewN | apply Kd.R_drew)); exact HO_106000.out)) k_ hk, Kd.freshB (g := gb101) (o := .cells #[.string a0_0, .slice A0_1 l0_1.length c0_1, .slice (some ad112) l0_2.length c0_2] 27 (0, 0)) (by (with_reducible repeat (first | refine blk_drewN ?_ _ | refine blk_drew ?_ | refine blk_alloc ?_ _)); exact BK101.out) k_ hk, Kd.freshB (g := gb105) (o := .cells #[.slice Ao8 t102.length co8] 28 (0, 0)) (by (with_reducible repeat (first | refine blk_drewN ?_ _ | refine blk_drew ?_ | refine blk_alloc ?_ _)); exact BK105.out) k_ hk, Kd.freshB (g := gb113) (o := .cells #[.int .i64 ((rd_T47 l0_2 x23_1).kind), .string ((rd_T47 l0_2 x23_1).atom.pred), .slice A112_2 ((rd_T47 l0_2 x23_1).atom.args).length c112_2, .string ((rd_T47 l0_2 x23_1).op), .bool ((rd_T47 l0_2 x23_1).l.isVar), .string ((rd_T47 l0_2 x23_1).l.name), .bool ((rd_T47 l0_2 x23_1).l.val.isSym), .string ((rd_T47 l0_2 x23_1).l.val.sym), .int .i64 ((rd_T47 l0_2 x23_1).l.val.n), .bool ((rd_T47 l0_2 x23_1).r.isVar), .string ((rd_T47 l0_2 x23_1).r.name), .bool ((rd_T47 l0_2 x23_1).r.val.isSym), .string ((rd_T47 l0_2 x23_1).r.val.sym), .int .i64 ((rd_T47 l0_2 x23_1).r.val.n)] 47 (0, 0)) (by (with_reducible repeat (first | refine blk_drewN ?_ _ | refine blk_drew ?_ | refine blk_alloc ?_ _)); exact BK113.out) k_ hk⟩)); (case aO => exact (by (with_reducible repeat (first | apply Kd.N_alloc | apply Kd.N_drewN | apply Kd.N_drew)); exact Kd.N_mono HO_7.out (fun _ hk => ⟨hk.1.1.1, ⟨hk.1.1.2.1, ⟨hk.1.1.2.2, hk.1.2⟩⟩⟩))); (case aS => exact (below_size (by repeat (first | (with_reducible first | exact HB.out | apply below_alloc | apply pw_below_drewN | apply below_drew1 | refine below_set ?_ GE101.out | refine below_set ?_ GE105.out | refine below_set ?_ GE113.out) | exact HB.out)))); (case aL => have := LMc21.out; omega); intro v118 w27 ho hb hg hat; rw [← Ny117.out] at ho; have n0_ := Aside0.mk (Kd.R_over' (by (with_reducible repeat (first | apply Kd.R_alloc | apply Kd.R_drewN | apply Kd.R_drew)); exact HO_106000.out) (Kd.N_typed (by (with_reducible repeat (first | apply Kd.N_alloc | apply Kd.N_drewN | apply Kd.N_drew)); exact HO_7.out)) (by decide) hg); have n1_ := Aside0.mk (blk_grown (g := gb101) (o := .cells #[.string a0_0, .slice A0_1 l0_1.length c0_1, .slice (some ad112) l0_2.length c0_2] 27 (0, 0)) (by (with_reducible repeat (first | refine blk_drewN ?_ _ | refine blk_drew ?_ | refine blk_alloc ?_ _)); exact BK101.out) hg (Kd.N_ne HO_7.out BK101.out (by decide))); have n2_ := Aside0.mk (blk_grown (g := gb105) (o := .cells #[.slice Ao8 t102.length co8] 28 (0, 0)) (by (with_reducible repeat (first | refine blk_drewN ?_ _ | refine blk_drew ?_ | refine blk_alloc ?_ _)); exact BK105.out) hg (Kd.N_away HO_7.out (fun _ hk => hk.1.1.2.2))); have n3_ := Aside0.mk (blk_grown (g := gb113) (o := .cells #[.int .i64 ((rd_T47 l0_2 x23_1).kind), .string ((rd_T47 l0_2 x23_1).atom.pred), .slice A112_2 ((rd_T47 l0_2 x23_1).atom.args).length c112_2, .string ((rd_T47 l0_2 x23_1).op), .bool ((rd_T47 l0_2 x23_1).l.isVar), .string ((rd_T47 l0_2 x23_1).l.name), .bool ((rd_T47 l0_2 x23_1).l.val.isSym), .string ((rd_T47 l0_2 x23_1).l.val.sym), .int .i64 ((rd_T47 l0_2 x23_1).l.val.n), .bool ((rd_T47 l0_2 x23_1).r.isVar), .string ((rd_T47 l0_2 x23_1).r.name), .bool ((rd_T47 l0_2 x23_1).r.val.isSym), .string ((rd_T47 l0_2 x23_1).r.val.sym), .int .i64 ((rd_T47 l0_2 x23_1).r.val.n)] 47 (0, 0)) (by (with_reducible repeat (first | refine blk_drewN ?_ _ | refine blk_drew ?_ | refine blk_alloc ?_ _)); exact BK113.out) hg (Kd.N_ne HO_7.out BK113.out (by decide))); have n4_ := Aside0.mk (hb); have n5_ := Aside0.mk (ho); clear HO_106000; clear BK101; clear BK105; clear BK113; clear HB; clear HO_7; clear HO116; have HO_106000 := n0_; have BK101 := n1_; have BK105 := n2_; have BK113 := n3_; have HB := n4_; have HO119 := n5_; clear n0_ n1_ n2_ n3_ n4_ n5_; clear ho hb hg hat))
       go_roundg k1
       case measure => have := HK1.out; omega
       case rel => exact ⟨(y117), (wrap64 (x23_1 + 1)), (by first | rfl | (simp; done) | (simp [*]; done)), H', ⟨by have := HK1.out; omega⟩, ⟨by (with_reducible repeat (first | apply Kd.N_alloc | apply Kd.N_drewN | apply Kd.N_drew)); exact Kd.N_mono HO119.out (fun _ hk => ⟨hk.1, ⟨hk.2.1, hk.2.2.1⟩⟩)⟩, ⟨by (with_reducible repeat (first | apply Kd.R_alloc | apply Kd.R_drewN | apply Kd.R_drew)); exact Kd.R_mono HO_106000.out (fun _ hk => trivial)⟩, ⟨by (with_reducible repeat (first | refine blk_drewN ?_ _ | refine blk_drew ?_ | refine blk_alloc ?_ _)); exact BK101.out⟩, ⟨by (with_reducible repeat (first | refine blk_drewN ?_ _ | refine blk_drew ?_ | refine blk_alloc ?_ _)); exact BK105.out⟩, ⟨by repeat (first | (with_reducible first | exact HB.out | apply below_alloc | apply pw_below_drewN | apply below_drew1 | refine below_set ?_ GE101.out | refine below_set ?_ GE105.out | refine below_set ?_ GE113.out) | exact HB.out)⟩⟩
      ·rw [if_neg c21] at H
       exact absurd H (by simp)
     ·rw [if_neg c19] at H
      exact absurd H (by simp)
    ·rw [if_neg c18] at H
     exact absurd H (by simp)
   ·rw [if_neg c17] at H
    have c17b0 : decide (x23_1 < (l0_2.length : Int)) = false := decide_eq_false c17
    clear c17
    have H' := Aside0.mk H
    clear H
    obtain ⟨Ao29, co29, eo29⟩ := Kd.N_slice HO_7.out
    subst eo29
    go_wp2
    go_loopg [35] k1 (fun kq v35 w' => ∃ (x35_2 : Int), v35 = .int .i64 x35_2 ∧ Aside0 (safe_Check.l1 kq x7_1 (x7_1.length : Int) x35_2 t102 = some (r1, r2, r3)) ∧ Aside0 (kq ≤ k1) ∧ Aside0 (Kd.N (Kd.slice 9 Kd.string) 28 w' w.heap.size (fun k_ => some k_ ≠ ((.slice Ao8 t102.length co8) : Value).ownBlock ∧ k_ ≠ gb101 ∧ k_ ≠ gb105) (.slice Ao29 x7_1.length co29) x7_1) ∧ Aside0 (Kd.R Kd.string 9 w' w.heap.size (fun _ => True) (.slice Ao8 t102.length co8) t102) ∧ Aside0 (w'.heap[gb101]? = some (.cells #[.string a0_0, (.slice A0_1 l0_1.length c0_1), (.slice A0_2 l0_2.length c0_2)] 27 (0, 0))) ∧ Aside0 (w'.heap[gb105]? = some (.cells #[(.slice Ao8 t102.length co8)] 28 (0, 0))) ∧ Aside0 (Below w.heap.size w w'))
    case atStart => exact ⟨(0), (by first | rfl | (simp; done) | (simp [*]; done)), H', ⟨Nat.le_refl _⟩, ⟨by (with_reducible repeat (first | apply Kd.N_alloc | apply Kd.N_drewN | apply Kd.N_drew)); exact HO_7.out⟩, ⟨by (with_reducible repeat (first | apply Kd.R_alloc | apply Kd.R_drewN | apply Kd.R_drew)); exact HO_106000.out⟩, ⟨by (with_reducible repeat (first | refine blk_drewN ?_ _ | refine blk_drew ?_ | refine blk_alloc ?_ _)); exact BK101.out⟩, ⟨by (with_reducible repeat (first | refine blk_drewN ?_ _ | refine blk_drew ?_ | refine blk_alloc ?_ _)); exact BK105.out⟩, ⟨by repeat (first | (with_reducible first | exact HB.out | apply below_alloc | apply pw_below_drewN | apply below_drew1 | refine below_set ?_ GE101.out | refine below_set ?_ GE105.out) | exact HB.out)⟩⟩
    case round =>
     clear H'
     try clear c1
     try clear p1
     try clear q1
     try clear hx1
     try clear c2
     try clear p2
     try clear c3
     try clear c4
     try clear p6
     try clear c9
     try clear c11
     try clear p11
     try clear q11
     try clear hx11
     try clear c17
     try clear c17b0
     try clear c18
     try clear c18b0
     try clear c19
     try clear c19b0
     try clear c21
     try clear c23
     try clear c24
     try clear c28
     try clear hcz10_0
     try clear hcz11_0
     try clear hcz11_1
     try clear hcz11_2
     try clear hcz16_0
     try clear hcz16_1
     try clear hcz16_2
     try clear hcz25_0
     try clear hcz25_1
     try clear hcz25_10
     try clear hcz25_11
     try clear hcz25_12
     try clear hcz25_13
     try clear hcz25_2
     try clear hcz25_3
     try clear hcz25_4
     try clear hcz25_5
     try clear hcz25_6
     try clear hcz25_7
     try clear hcz25_8
     try clear hcz25_9
     try clear hcz5_0
     try clear hcz5_1
     try clear hcz5_2
     try clear hfz10_0
     try clear hfz11_0
     try clear hfz11_1
     try clear hfz11_2
     try clear hfz16_0
     try clear hfz16_1
     try clear hfz16_2
     try clear hfz25_0
     try clear hfz25_1
     try clear hfz25_10
     try clear hfz25_11
     try clear hfz25_12
     try clear hfz25_13
     try clear hfz25_2
     try clear hfz25_3
     try clear hfz25_4
     try clear hfz25_5
     try clear hfz25_6
     try clear hfz25_7
     try clear hfz25_8
     try clear hfz25_9
     try clear hfz5_0
     try clear hfz5_1
     try clear hfz5_2
     try clear hx112_0
     try clear hx112_1
     try clear hx112_10
     try clear hx112_11
     try clear hx112_12
     try clear hx112_13
     try clear hx112_2
     try clear hx112_3
     try clear hx112_4
     try clear hx112_5
     try clear hx112_6
     try clear hx112_7
     try clear hx112_8
     try clear hx112_9
     try clear p112
     try clear p2
     try clear q112
     obtain ⟨x35_2, rfl, HA, HK2, HO_33, HO_106000, BK101, BK105, HB⟩ := hrel
     cases gk with
     | zero => exact absurd HA.out (by simp [safe_Check.l1])
     | succ k2 =>
      have H := HA.out
      clear HA
      simp only [safe_Check.l1] at H
      by_cases c30 : x35_2 < (x7_1.length : Int)
      ·rw [if_pos c30] at H
       have c30b0 : decide (x35_2 < (x7_1.length : Int)) = true := decide_eq_true c30
       clear c30
       by_cases c31 : 0 ≤ x35_2
       ·rw [if_pos c31] at H
        have c31b0 : decide (0 ≤ x35_2) = true := decide_eq_true c31
        clear c31
        by_cases c32 : x35_2 < (x7_1.length : Int)
        ·rw [if_pos c32] at H
         have c32b0 : decide (x35_2 < (x7_1.length : Int)) = true := decide_eq_true c32
         clear c32
         replace H := Option.bind_eq_some_iff.mp H
         obtain ⟨t121, A330, H⟩ := H
         replace H : (if t121 ≥ 0 then (if 0 ≤ t121 then (if t121 < ((rd_L14 x7_1 x35_2).length : Int) then (some (rdOf ByteArray.empty (rd_L14 x7_1 x35_2) t121, wrap64 ((-1) + x35_2), 6)) else (none)) else (none)) else (safe_Check.l1 k2 x7_1 (x7_1.length : Int) (wrap64 (x35_2 + 1)) t102)) = some (r1, r2, r3) := H
         have A33 := Aside0.mk A330
         clear A330
         by_cases c34 : t121 ≥ 0
         ·rw [if_pos c34] at H
          have c34b0 : decide (0 ≤ t121) = true := decide_eq_true c34
          clear c34
          by_cases c35 : 0 ≤ t121
          ·rw [if_pos c35] at H
           have c35b0 : decide (0 ≤ t121) = true := decide_eq_true c35
           clear c35
           by_cases c36 : t121 < ((rd_L14 x7_1 x35_2).length : Int)
           ·rw [if_pos c36] at H
            have c36b0 : decide (t121 < ((rd_L14 x7_1 x35_2).length : Int)) = true := decide_eq_true c36
            clear c36
            simp only [Option.some.injEq, Prod.mk.injEq] at H
            obtain ⟨rfl, rfl, rfl⟩ := H
            have p120 : 0 ≤ (x35_2 : Int) := of_decide_eq_true (by first | (with_reducible assumption) | assumption)
            have q120 : x35_2 < (x7_1.length : Int) := of_decide_eq_true (by first | (with_reducible assumption) | assumption)
            obtain ⟨ad120, A120_0, c120_0, e120, hx120_0, hl120_0, hi120_0⟩ := at_L14 (Kd.N_reads' HO_33.out).2.2 x35_2 p120 q120
            cases e120
            obtain ⟨ce120, hce120, hMe120, hcc120⟩ := Kd.N_get HO_33.out [] x35_2 p120 (by first | exact q120 | exact of_decide_eq_true (by first | (with_reducible assumption) | assumption) | (have e_ := (Kd.N_reads' HO_33.out).1; omega))
            obtain ⟨ua120_0, uc120_0, rfl, ul120_0, ge120_0⟩ := Kd.FK_slice_open hMe120
            have hv120_0 := hcc120 0 _ rfl
            rw [Nat.add_zero, show ((Kd.slice 9 Kd.string)).sz = 1 from rfl, Nat.mul_one] at hv120_0
            replace hv120_0 := Option.some.inj (hv120_0.symm.trans hx120_0)
            injection hv120_0 with hva_ hvn_ hvc_
            rw [hva_] at ge120_0
            rw [hvc_] at ul120_0
            have HL120_0 := Aside0.mk (show Kd.V Kd.string 9 _ w.heap.size _ _ (rd_L14 x7_1 x35_2) from Kd.V_mk ul120_0 ge120_0)
            clear hva_ hvn_ hvc_ ge120_0 ul120_0
            clear hcc120 hce120
            have HR120_0 := Aside0.mk hi120_0
            have HC120_0 := Aside0.mk hl120_0
            clear hi120_0 hl120_0
            replace p120 := eq_true p120
            replace q120 := eq_true q120
            go_wp2_with (first | ((with_reducible refine gate_callee (f := 48) rfl ?_); refine goesL_ (some 42) rfl rfl Try.func48 (by kernel_rfl) rfl #[.slice A120_0 (rd_L14 x7_1 x35_2).length c120_0, .func (.func 46) #[] #[.pointer (some ⟨gb105, 0, none⟩)]] rfl (by (try simp only [List.map_toArray, List.map_cons, List.map_nil]); first | done | rfl | (simp only [List.length_drop, List.length_take]; rfl)) ?_; (refine (GLooseIx.calls _ _ (rd_L14 x7_1 x35_2) Ao8 co8 t102 t121 _ ?side1 ?side2 ?side3 ?side4 ?side5 A33.out).mono ?_); (case side1 => repeat (first | exact (by repeat (first | (with_reducible exact HR120_0.out) | (with_reducible refine Kd.C_alloc ?_ _) | (with_reducible refine Kd.C_drewN ?_ _) | (with_reducible refine Kd.C_drew ?_) | exact HR120_0.out)) | (with_reducible refine Kd.C_alloc ?_ _) | (with_reducible refine Kd.C_drewN ?_ _) | (with_reducible refine Kd.C_drew ?_))); (case side2 => exact HC120_0.out); (case side3 => repeat (first | exact (Kd.R_reads' HO_106000.out).2.2 | (with_reducible refine Kd.C_alloc ?_ _) | (with_reducible refine Kd.C_drewN ?_ _) | (with_reducible refine Kd.C_drew ?_))); (case side4 => exact (Kd.R_reads' HO_106000.out).2.1); (case side5 => (with_reducible repeat (first | refine blk_drewN ?_ _ | refine blk_drew ?_ | refine blk_alloc ?_ _)); exact BK105.out); rintro e w37 ⟨rfl, hb⟩; refine ⟨_, rfl, ?_⟩; have n0_ := Aside0.mk (Kd.N_below (by (with_reducible repeat (first | apply Kd.N_alloc | apply Kd.N_drewN | apply Kd.N_drew)); exact HO_33.out) hb); have n1_ := Aside0.mk (Kd.R_below (by (with_reducible repeat (first | apply Kd.R_alloc | apply Kd.R_drewN | apply Kd.R_drew)); exact HO_106000.out) hb); have n2_ := Aside0.mk (Kd.V_below (by (with_reducible repeat (first | apply Kd.V_alloc | apply Kd.V_drewN | apply Kd.V_drew)); exact HL120_0.out) hb); have n3_ := Aside0.mk (blk_below (g := gb101) (o := .cells #[.string a0_0, .slice A0_1 l0_1.length c0_1, .slice A0_2 l0_2.length c0_2] 27 (0, 0)) (by (with_reducible repeat (first | refine blk_drewN ?_ _ | refine blk_drew ?_ | refine blk_alloc ?_ _)); exact BK101.out) hb); have n4_ := Aside0.mk (blk_below (g := gb105) (o := .cells #[.slice Ao8 t102.length co8] 28 (0, 0)) (by (with_reducible repeat (first | refine blk_drewN ?_ _ | refine blk_drew ?_ | refine blk_alloc ?_ _)); exact BK105.out) hb); have n5_ := Aside0.mk (Kd.C_below (by repeat (first | (with_reducible exact HR120_0.out) | (with_reducible refine Kd.C_alloc ?_ _) | (with_reducible refine Kd.C_drewN ?_ _) | (with_reducible refine Kd.C_drew ?_) | exact HR120_0.out)) hb); have n6_ := Aside0.mk (below_step (by repeat (first | (with_reducible first | exact HB.out | apply below_alloc | apply pw_below_drewN | apply below_drew1 | refine below_set ?_ GE101.out | refine below_set ?_ GE105.out) | exact HB.out)) hb); clear HO_33; clear HO_106000; clear HL120_0; clear BK101; clear BK105; clear HR120_0; clear HB; have HO_33 := n0_; have HO_106000 := n1_; have HL120_0 := n2_; have BK101 := n3_; have BK105 := n4_; have HR120_0 := n5_; have HB := n6_; clear n0_ n1_ n2_ n3_ n4_ n5_ n6_; (try clear hb); (try clear hb2); (try clear hk); (try clear hi); have p122 : 0 ≤ (t121 : Int) := of_decide_eq_true (by first | (with_reducible assumption) | assumption); have q122 : t121 < ((rd_L14 x7_1 x35_2).length : Int) := of_decide_eq_true (by first | (with_reducible assumption) | assumption); obtain ⟨ad122, e122, hx122_0⟩ := Kd.at_string (by repeat (first | (with_reducible exact HR120_0.out) | (with_reducible refine Kd.C_alloc ?_ _) | (with_reducible refine Kd.C_drewN ?_ _) | (with_reducible refine Kd.C_drew ?_) | exact HR120_0.out)) t121 p122 q122; cases e122; replace p122 := eq_true p122; replace q122 := eq_true q122))
            go_ret3
            exact ⟨by first | rfl | (simp [errW_none, errW_some] <;> rfl) | (simp [*, errW_none, errW_some] <;> rfl), by repeat (first | (with_reducible first | exact HB.out | apply below_alloc | apply pw_below_drewN | apply below_drew1 | refine below_set ?_ GE101.out | refine below_set ?_ GE105.out) | exact HB.out)⟩
           ·rw [if_neg c36] at H
            exact absurd H (by simp)
          ·rw [if_neg c35] at H
           exact absurd H (by simp)
         ·rw [if_neg c34] at H
          have c34b0 : decide (0 ≤ t121) = false := decide_eq_false c34
          clear c34
          have H' := Aside0.mk H
          clear H
          have p120 : 0 ≤ (x35_2 : Int) := of_decide_eq_true (by first | (with_reducible assumption) | assumption)
          have q120 : x35_2 < (x7_1.length : Int) := of_decide_eq_true (by first | (with_reducible assumption) | assumption)
          obtain ⟨ad120, A120_0, c120_0, e120, hx120_0, hl120_0, hi120_0⟩ := at_L14 (Kd.N_reads' HO_33.out).2.2 x35_2 p120 q120
          cases e120
          obtain ⟨ce120, hce120, hMe120, hcc120⟩ := Kd.N_get HO_33.out [] x35_2 p120 (by first | exact q120 | exact of_decide_eq_true (by first | (with_reducible assumption) | assumption) | (have e_ := (Kd.N_reads' HO_33.out).1; omega))
          obtain ⟨ua120_0, uc120_0, rfl, ul120_0, ge120_0⟩ := Kd.FK_slice_open hMe120
          have hv120_0 := hcc120 0 _ rfl
          rw [Nat.add_zero, show ((Kd.slice 9 Kd.string)).sz = 1 from rfl, Nat.mul_one] at hv120_0
          replace hv120_0 := Option.some.inj (hv120_0.symm.trans hx120_0)
          injection hv120_0 with hva_ hvn_ hvc_
          rw [hva_] at ge120_0
          rw [hvc_] at ul120_0
          have HL120_0 := Aside0.mk (show Kd.V Kd.string 9 _ w.heap.size _ _ (rd_L14 x7_1 x35_2) from Kd.V_mk ul120_0 ge120_0)
          clear hva_ hvn_ hvc_ ge120_0 ul120_0
          clear hcc120 hce120
          have HR120_0 := Aside0.mk hi120_0
          have HC120_0 := Aside0.mk hl120_0
          clear hi120_0 hl120_0
          replace p120 := eq_true p120
          replace q120 := eq_true q120
          go_wp2_with (first | ((with_reducible refine gate_callee (f := 48) rfl ?_); refine goesL_ (some 42) rfl rfl Try.func48 (by kernel_rfl) rfl #[.slice A120_0 (rd_L14 x7_1 x35_2).length c120_0, .func (.func 46) #[] #[.pointer (some ⟨gb105, 0, none⟩)]] rfl (by (try simp only [List.map_toArray, List.map_cons, List.map_nil]); first | done | rfl | (simp only [List.length_drop, List.length_take]; rfl)) ?_; (refine (GLooseIx.calls _ _ (rd_L14 x7_1 x35_2) Ao8 co8 t102 t121 _ ?side1 ?side2 ?side3 ?side4 ?side5 A33.out).mono ?_); (case side1 => repeat (first | exact (by repeat (first | (with_reducible exact HR120_0.out) | (with_reducible refine Kd.C_alloc ?_ _) | (with_reducible refine Kd.C_drewN ?_ _) | (with_reducible refine Kd.C_drew ?_) | exact HR120_0.out)) | (with_reducible refine Kd.C_alloc ?_ _) | (with_reducible refine Kd.C_drewN ?_ _) | (with_reducible refine Kd.C_drew ?_))); (case side2 => exact HC120_0.out); (case side3 => repeat (first | exact (Kd.R_reads' HO_106000.out).2.2 | (with_reducible refine Kd.C_alloc ?_ _) | (with_reducible refine Kd.C_drewN ?_ _) | (with_reducible refine Kd.C_drew ?_))); (case side4 => exact (Kd.R_reads' HO_106000.out).2.1); (case side5 => (with_reducible repeat (first | refine blk_drewN ?_ _ | refine blk_drew ?_ | refine blk_alloc ?_ _)); exact BK105.out); rintro e w38 ⟨rfl, hb⟩; refine ⟨_, rfl, ?_⟩; have n0_ := Aside0.mk (Kd.N_below (by (with_reducible repeat (first | apply Kd.N_alloc | apply Kd.N_drewN | apply Kd.N_drew)); exact HO_33.out) hb); have n1_ := Aside0.mk (Kd.R_below (by (with_reducible repeat (first | apply Kd.R_alloc | apply Kd.R_drewN | apply Kd.R_drew)); exact HO_106000.out) hb); have n2_ := Aside0.mk (Kd.V_below (by (with_reducible repeat (first | apply Kd.V_alloc | apply Kd.V_drewN | apply Kd.V_drew)); exact HL120_0.out) hb); have n3_ := Aside0.mk (blk_below (g := gb101) (o := .cells #[.string a0_0, .slice A0_1 l0_1.length c0_1, .slice A0_2 l0_2.length c0_2] 27 (0, 0)) (by (with_reducible repeat (first | refine blk_drewN ?_ _ | refine blk_drew ?_ | refine blk_alloc ?_ _)); exact BK101.out) hb); have n4_ := Aside0.mk (blk_below (g := gb105) (o := .cells #[.slice Ao8 t102.length co8] 28 (0, 0)) (by (with_reducible repeat (first | refine blk_drewN ?_ _ | refine blk_drew ?_ | refine blk_alloc ?_ _)); exact BK105.out) hb); have n5_ := Aside0.mk (Kd.C_below (by repeat (first | (with_reducible exact HR120_0.out) | (with_reducible refine Kd.C_alloc ?_ _) | (with_reducible refine Kd.C_drewN ?_ _) | (with_reducible refine Kd.C_drew ?_) | exact HR120_0.out)) hb); have n6_ := Aside0.mk (below_step (by repeat (first | (with_reducible first | exact HB.out | apply below_alloc | apply pw_below_drewN | apply below_drew1 | refine below_set ?_ GE101.out | refine below_set ?_ GE105.out) | exact HB.out)) hb); clear HO_33; clear HO_106000; clear HL120_0; clear BK101; clear BK105; clear HR120_0; clear HB; have HO_33 := n0_; have HO_106000 := n1_; have HL120_0 := n2_; have BK101 := n3_; have BK105 := n4_; have HR120_0 := n5_; have HB := n6_; clear n0_ n1_ n2_ n3_ n4_ n5_ n6_; (try clear hb); (try clear hb2); (try clear hk); (try clear hi)))
          go_roundg k2
          case measure => have := HK1.out; have := HK2.out; omega
          case rel => exact ⟨(wrap64 (x35_2 + 1)), (by first | rfl | (simp; done) | (simp [*]; done)), H', ⟨by have := HK1.out; have := HK2.out; omega⟩, ⟨by (with_reducible repeat (first | apply Kd.N_alloc | apply Kd.N_drewN | apply Kd.N_drew)); exact HO_33.out⟩, ⟨by (with_reducible repeat (first | apply Kd.R_alloc | apply Kd.R_drewN | apply Kd.R_drew)); exact HO_106000.out⟩, ⟨by (with_reducible repeat (first | refine blk_drewN ?_ _ | refine blk_drew ?_ | refine blk_alloc ?_ _)); exact BK101.out⟩, ⟨by (with_reducible repeat (first | refine blk_drewN ?_ _ | refine blk_drew ?_ | refine blk_alloc ?_ _)); exact BK105.out⟩, ⟨by repeat (first | (with_reducible first | exact HB.out | apply below_alloc | apply pw_below_drewN | apply below_drew1 | refine below_set ?_ GE101.out | refine below_set ?_ GE105.out) | exact HB.out)⟩⟩
        ·rw [if_neg c32] at H
         exact absurd H (by simp)
       ·rw [if_neg c31] at H
        exact absurd H (by simp)
      ·rw [if_neg c30] at H
       have c30b0 : decide (x35_2 < (x7_1.length : Int)) = false := decide_eq_false c30
       clear c30
       simp only [Option.some.injEq, Prod.mk.injEq] at H
       obtain ⟨rfl, rfl, rfl⟩ := H
       go_wp2
       go_ret3
       exact ⟨by first | rfl | (simp [errW_none, errW_some] <;> rfl) | (simp [*, errW_none, errW_some] <;> rfl), by repeat (first | (with_reducible first | exact HB.out | apply below_alloc | apply pw_below_drewN | apply below_drew1 | refine below_set ?_ GE101.out | refine below_set ?_ GE105.out) | exact HB.out)⟩

end Go.Proofs.Ythpejcnldecmoaa.H
-- made by a program of this session (wip/tools) out of the translation; Lean checks it.
namespace Go.Proofs.Ythpejcnldecmoaa.H
open Go.RowKit Go.Proofs.YthpejcnldecmoaaW.PrintWords Go.Proofs.YthpejcnldecmoaaW.PrintLast Go.Proofs.YthpejcnldecmoaaW.PrintMore
attribute [local go_sem] max2_int min2_int max_two min_two max_three min_three max_four min_four   -- for this text's walks alone
set_option linter.unusedVariables false
set_option linter.unusedSimpArgs false

/-! ### lambrequinlaw09_few: function 26 -/
mutual
def lambrequinlaw09_few.l0 : Nat → Int → ByteArray → List (Term) → List (Liter) → Option (Bool)
 | 0, _, _, _, _ => none
 | k + 1, x3, x102000, x102001, x102002 => if x3 < (x102002.length : Int) then (lambrequinlaw09_few.j1 k x3 (decide (x3 < 31)) x102000 x102001 x102002) else (lambrequinlaw09_few.j1 k x3 false x102000 x102001 x102002)
def lambrequinlaw09_few.j1 : Nat → Int → Bool → ByteArray → List (Term) → List (Liter) → Option (Bool)
 | 0, _, _, _, _, _ => none
 | k + 1, x3, x12, x102000, x102001, x102002 => if x12 = true then (if 0 ≤ x3 then (if x3 < (x102002.length : Int) then (if (((rd_T47 x102002 x3).atom.args).length : Int) > 30 then (some false) else (lambrequinlaw09_few.l0 k (wrap64 (x3 + 1)) x102000 x102001 x102002)) else (none)) else (none)) else (if (x102002.length : Int) ≤ 30 then (some (decide ((x102001.length : Int) ≤ 30))) else (some false))
end
def lambrequinlaw09_few.f (k : Nat) (a0_0 : ByteArray) (l0_1 : List (Term)) (l0_2 : List (Liter)) : Option (Bool) := lambrequinlaw09_few.l0 k 0 a0_0 l0_1 l0_2
theorem lambrequinlaw09_few.mono_l : ∀ k, (∀ y0 y1 y2 y3, LeO (lambrequinlaw09_few.l0 k y0 y1 y2 y3) (lambrequinlaw09_few.l0 (k + 1) y0 y1 y2 y3)) ∧ (∀ y0 y1 y2 y3 y4, LeO (lambrequinlaw09_few.j1 k y0 y1 y2 y3 y4) (lambrequinlaw09_few.j1 (k + 1) y0 y1 y2 y3 y4))
 | 0 => ⟨fun _ _ _ _ r h => by simp [lambrequinlaw09_few.l0] at h, fun _ _ _ _ _ r h => by simp [lambrequinlaw09_few.j1] at h⟩
 | k + 1 => by
  obtain ⟨ih0, ih1⟩ := lambrequinlaw09_few.mono_l k
  refine ⟨?_, ?_⟩
  ·intro y0 y1 y2 y3
   unfold lambrequinlaw09_few.l0
   repeat' first
   | (with_reducible exact ih0 _ _ _ _)
   | (with_reducible exact ih1 _ _ _ _ _)
   | (with_reducible exact LeO.refl _)
   | (with_reducible exact LeO.none _)
   | (with_reducible refine LeO.ite ?_ ?_)
   | (with_reducible refine LeO.bind ?_ (fun _ => ?_))
   | exact ih0 _ _ _ _
   | exact ih1 _ _ _ _ _
   | exact LeO.none _
   | refine LeO.ite ?_ ?_
   | refine LeO.bind ?_ (fun _ => ?_)
  ·intro y0 y1 y2 y3 y4
   unfold lambrequinlaw09_few.j1
   repeat' first
   | (with_reducible exact ih0 _ _ _ _)
   | (with_reducible exact ih1 _ _ _ _ _)
   | (with_reducible exact LeO.refl _)
   | (with_reducible exact LeO.none _)
   | (with_reducible refine LeO.ite ?_ ?_)
   | (with_reducible refine LeO.bind ?_ (fun _ => ?_))
   | exact ih0 _ _ _ _
   | exact ih1 _ _ _ _ _
   | exact LeO.none _
   | refine LeO.ite ?_ ?_
   | refine LeO.bind ?_ (fun _ => ?_)
theorem lambrequinlaw09_few.mono : ∀ a0 a1 a2 k, LeO (lambrequinlaw09_few.f k a0 a1 a2) (lambrequinlaw09_few.f (k + 1) a0 a1 a2) := by
 intro a0 a1 a2 k
 obtain ⟨ih0, ih1⟩ := lambrequinlaw09_few.mono_l k
 unfold lambrequinlaw09_few.f
 repeat' first
   | (with_reducible exact ih0 _ _ _ _)
   | (with_reducible exact ih1 _ _ _ _ _)
   | (with_reducible exact LeO.refl _)
   | (with_reducible exact LeO.none _)
   | (with_reducible refine LeO.ite ?_ ?_)
   | (with_reducible refine LeO.bind ?_ (fun _ => ?_))
   | exact ih0 _ _ _ _
   | exact ih1 _ _ _ _ _
   | exact LeO.none _
   | refine LeO.ite ?_ ?_
   | refine LeO.bind ?_ (fun _ => ?_)
set_option maxHeartbeats 8000000 in
set_option maxRecDepth 100000 in
theorem lambrequinlaw09_few.calls (k : Nat) (a0_0 : ByteArray) (A0_1 : Option Addr) (c0_1 : Nat) (l0_1 : List (Term)) (A0_2 : Option Addr) (c0_2 : Nat) (l0_2 : List (Liter)) (r : Bool) (w : World) (hr0_1 : Kd.C k45 w A0_1 l0_1.length l0_1) (hc0_1 : l0_1.length ≤ c0_1) (hr0_2 : Kd.C k47 w A0_2 l0_2.length l0_2) (hc0_2 : l0_2.length ≤ c0_2) (h : lambrequinlaw09_few.f k a0_0 l0_1 l0_2 = some r) :
  Calls Try.prog 26 #[.agg #[.string a0_0, .slice A0_1 l0_1.length c0_1, .slice A0_2 l0_2.length c0_2]] w fun e w' => e = .returned (.bool r) ∧ Below w.heap.size w w' := by
 have hu27 := Try.underlying27
 have HR0_1 := Aside0.mk hr0_1
 have HC0_1 := Aside0.mk hc0_1
 clear hr0_1 hc0_1
 have HR0_2 := Aside0.mk hr0_2
 have HC0_2 := Aside0.mk hc0_2
 clear hr0_2 hc0_2
 have HB := Aside0.mk (Below.refl w.heap.size w)
 have H : (lambrequinlaw09_few.l0 k 0 a0_0 l0_1 l0_2) = some r := h
 clear h
 have H' := Aside0.mk H
 clear H
 go_enter Try.func26, Try.ntmps26
 go_wp2_with (first | ((with_reducible refine gate_dst (N := 1) rfl ?_); (try (refine gate_guard (by rfl) ?_; dsimp only)); refine box_event ?hg (N := 1) ?hd (cs := #[.string a0_0, .slice A0_1 l0_1.length c0_1, .slice A0_2 l0_2.length c0_2]) (t := 27) ?hr ?_; (case hd => rfl); (case hg => rfl); (case hr => first | (go_simp; done) | (go_simp; rfl)); intro gb101 hg w2 hbox hb; have n0_ := Aside0.mk (below_step (by repeat (first | (with_reducible first | exact HB.out | apply below_alloc | apply pw_below_drewN | apply below_drew1) | exact HB.out)) hb); have n1_ := Aside0.mk (hbox); have n2_ := Aside0.mk ((by rw [hg]; exact (below_size (by repeat (first | (with_reducible first | exact HB.out | apply below_alloc | apply pw_below_drewN | apply below_drew1) | exact HB.out))) : w.heap.size ≤ gb101)); have n3_ := Aside0.mk ((by rw [hg]; exact (below_size (by repeat (first | (with_reducible first | exact HB.out | apply below_alloc | apply pw_below_drewN | apply below_drew1) | exact HB.out))) : w.heap.size ≤ gb101)); clear HB; have HB := n0_; have BK101 := n1_; have GW101 := n2_; have GE101 := n3_; clear n0_ n1_ n2_ n3_; clear hb hbox hg))
 go_loopg [3] k (fun kq v3 w' => ∃ (x3_1 : Int), v3 = .int .i64 x3_1 ∧ Aside0 (lambrequinlaw09_few.l0 kq x3_1 a0_0 l0_1 l0_2 = some r) ∧ Aside0 (kq ≤ k) ∧ Aside0 (w'.heap[gb101]? = some (.cells #[.string a0_0, (.slice A0_1 l0_1.length c0_1), (.slice A0_2 l0_2.length c0_2)] 27 (0, 0))) ∧ Aside0 (Below w.heap.size w w'))
 case atStart => exact ⟨(0), (by first | rfl | (simp; done) | (simp [*]; done)), H', ⟨Nat.le_refl _⟩, ⟨by (with_reducible repeat (first | refine blk_drewN ?_ _ | refine blk_drew ?_ | refine blk_alloc ?_ _)); exact BK101.out⟩, ⟨by repeat (first | (with_reducible first | exact HB.out | apply below_alloc | apply pw_below_drewN | apply below_drew1 | refine below_set ?_ GE101.out) | exact HB.out)⟩⟩
 case round =>
  clear H'
  try clear c2
  try clear p2
  obtain ⟨x3_1, rfl, HA, HK1, BK101, HB⟩ := hrel
  cases gk with
  | zero => exact absurd HA.out (by simp [lambrequinlaw09_few.l0])
  | succ k1 =>
   have H := HA.out
   clear HA
   simp only [lambrequinlaw09_few.l0] at H
   have HC3 := Aside0.mk H
   clear H
   go_upto_region 2 with (fail)
   go_cut [12] (fun v12 wc => ∃ (kq : Nat) (x12_2 : Bool), v12 = .bool x12_2 ∧ Aside0 (lambrequinlaw09_few.j1 kq x3_1 x12_2 a0_0 l0_1 l0_2 = some r) ∧ Aside0 (kq ≤ k1) ∧ Aside0 (wc.heap[gb101]? = some (.cells #[.string a0_0, (.slice A0_1 l0_1.length c0_1), (.slice A0_2 l0_2.length c0_2)] 27 (0, 0))) ∧ Aside0 (Below w.heap.size w wc))
   case first =>
    have H := HC3.out
    clear HC3
    by_cases c4 : x3_1 < (l0_2.length : Int)
    ·rw [if_pos c4] at H
     have c4b0 : decide (x3_1 < (l0_2.length : Int)) = true := decide_eq_true c4
     clear c4
     (first | rw [c4b0] | (simp only [i64_w, i32_w]; rw [c4b0]) | skip)
     have H' := Aside0.mk H
     clear H
     have hcz5_0 : wr.cell? ⟨gb101, 0, none⟩ = some (.string a0_0) := (blk_cell BK101.out 0).trans rfl
     have hcz5_1 : wr.cell? ⟨gb101, 1, none⟩ = some (.slice A0_1 l0_1.length c0_1) := (blk_cell BK101.out 1).trans rfl
     have hcz5_2 : wr.cell? ⟨gb101, 2, none⟩ = some (.slice A0_2 l0_2.length c0_2) := (blk_cell BK101.out 2).trans rfl
     have hfz5_0 := blk_frozen BK101.out 0
     have hfz5_1 := blk_frozen BK101.out 1
     have hfz5_2 := blk_frozen BK101.out 2
     go_wp2
     go_meet
     case rel => exact ⟨_, (decide (x3_1 < 31)), (by first | rfl | (simp; done) | (simp [*]; done)), H', ⟨by have := HK1.out; first | omega | exact Nat.le_refl _⟩, ⟨by (with_reducible repeat (first | refine blk_drewN ?_ _ | refine blk_drew ?_ | refine blk_alloc ?_ _)); exact BK101.out⟩, ⟨by repeat (first | (with_reducible first | exact HB.out | apply below_alloc | apply pw_below_drewN | apply below_drew1 | refine below_set ?_ GE101.out) | exact HB.out)⟩⟩
    ·rw [if_neg c4] at H
     have c4b0 : decide (x3_1 < (l0_2.length : Int)) = false := decide_eq_false c4
     clear c4
     (first | rw [c4b0] | (simp only [i64_w, i32_w]; rw [c4b0]) | skip)
     have H' := Aside0.mk H
     clear H
     have hcz6_0 : wr.cell? ⟨gb101, 0, none⟩ = some (.string a0_0) := (blk_cell BK101.out 0).trans rfl
     have hcz6_1 : wr.cell? ⟨gb101, 1, none⟩ = some (.slice A0_1 l0_1.length c0_1) := (blk_cell BK101.out 1).trans rfl
     have hcz6_2 : wr.cell? ⟨gb101, 2, none⟩ = some (.slice A0_2 l0_2.length c0_2) := (blk_cell BK101.out 2).trans rfl
     have hfz6_0 := blk_frozen BK101.out 0
     have hfz6_1 := blk_frozen BK101.out 1
     have hfz6_2 := blk_frozen BK101.out 2
     go_wp2
     go_meet
     case rel => exact ⟨_, (false), (by first | rfl | (simp; done) | (simp [*]; done)), H', ⟨by have := HK1.out; first | omega | exact Nat.le_refl _⟩, ⟨by (with_reducible repeat (first | refine blk_drewN ?_ _ | refine blk_drew ?_ | refine blk_alloc ?_ _)); exact BK101.out⟩, ⟨by repeat (first | (with_reducible first | exact HB.out | apply below_alloc | apply pw_below_drewN | apply below_drew1 | refine below_set ?_ GE101.out) | exact HB.out)⟩⟩
   case rest =>
    clear HC3
    try clear c2
    try clear p2
    try clear c4
    try clear c4b0
    try clear hcz5_0
    try clear hcz5_1
    try clear hcz5_2
    try clear hcz6_0
    try clear hcz6_1
    try clear hcz6_2
    try clear hfz5_0
    try clear hfz5_1
    try clear hfz5_2
    try clear hfz6_0
    try clear hfz6_1
    try clear hfz6_2
    try clear p2
    obtain ⟨kq, x12_2, rfl, HA, HJ2, BK101, HB⟩ := hcut
    cases kq with
    | zero => exact absurd HA.out (by simp [lambrequinlaw09_few.j1])
    | succ kj2 =>
     have H := HA.out
     clear HA
     simp only [lambrequinlaw09_few.j1] at H
     by_cases c7 : x12_2 = true
     ·subst c7
      have H1 : (if 0 ≤ x3_1 then (if x3_1 < (l0_2.length : Int) then (if (((rd_T47 l0_2 x3_1).atom.args).length : Int) > 30 then (some false) else (lambrequinlaw09_few.l0 kj2 (wrap64 (x3_1 + 1)) a0_0 l0_1 l0_2)) else (none)) else (none)) = some r := by rw [if_pos rfl] at H; exact H
      clear H
      have H := H1
      clear H1
      by_cases c8 : 0 ≤ x3_1
      ·rw [if_pos c8] at H
       have c8b0 : decide (0 ≤ x3_1) = true := decide_eq_true c8
       clear c8
       by_cases c9 : x3_1 < (l0_2.length : Int)
       ·rw [if_pos c9] at H
        have c9b0 : decide (x3_1 < (l0_2.length : Int)) = true := decide_eq_true c9
        clear c9
        by_cases c10 : (((rd_T47 l0_2 x3_1).atom.args).length : Int) > 30
        ·rw [if_pos c10] at H
         have c10b0 : decide (30 < (((rd_T47 l0_2 x3_1).atom.args).length : Int)) = true := decide_eq_true c10
         have c10b1 : decide (30 < ((rd_T47 l0_2 x3_1).atom.args).length) = true := decide_eq_true (by omega)
         clear c10
         obtain rfl := Option.some.inj H
         have hcz11_0 : wc.cell? ⟨gb101, 0, none⟩ = some (.string a0_0) := (blk_cell BK101.out 0).trans rfl
         have hcz11_1 : wc.cell? ⟨gb101, 1, none⟩ = some (.slice A0_1 l0_1.length c0_1) := (blk_cell BK101.out 1).trans rfl
         have hcz11_2 : wc.cell? ⟨gb101, 2, none⟩ = some (.slice A0_2 l0_2.length c0_2) := (blk_cell BK101.out 2).trans rfl
         have hfz11_0 := blk_frozen BK101.out 0
         have hfz11_1 := blk_frozen BK101.out 1
         have hfz11_2 := blk_frozen BK101.out 2
         have p102 : 0 ≤ (x3_1 : Int) := of_decide_eq_true (by first | (with_reducible assumption) | assumption)
         have q102 : x3_1 < (l0_2.length : Int) := of_decide_eq_true (by first | (with_reducible assumption) | assumption)
         obtain ⟨ad102, A102_2, c102_2, e102, hx102_0, hx102_1, hx102_2, hx102_3, hx102_4, hx102_5, hx102_6, hx102_7, hx102_8, hx102_9, hx102_10, hx102_11, hx102_12, hx102_13, hl102_2, hi102_2⟩ := at_T47 HR0_2.out x3_1 p102 q102
         cases e102
         replace hx102_0 := (HB.out.cell (blt_ hx102_0)).trans hx102_0
         replace hx102_1 := (HB.out.cell (blt_ hx102_1)).trans hx102_1
         replace hx102_2 := (HB.out.cell (blt_ hx102_2)).trans hx102_2
         replace hx102_3 := (HB.out.cell (blt_ hx102_3)).trans hx102_3
         replace hx102_4 := (HB.out.cell (blt_ hx102_4)).trans hx102_4
         replace hx102_5 := (HB.out.cell (blt_ hx102_5)).trans hx102_5
         replace hx102_6 := (HB.out.cell (blt_ hx102_6)).trans hx102_6
         replace hx102_7 := (HB.out.cell (blt_ hx102_7)).trans hx102_7
         replace hx102_8 := (HB.out.cell (blt_ hx102_8)).trans hx102_8
         replace hx102_9 := (HB.out.cell (blt_ hx102_9)).trans hx102_9
         replace hx102_10 := (HB.out.cell (blt_ hx102_10)).trans hx102_10
         replace hx102_11 := (HB.out.cell (blt_ hx102_11)).trans hx102_11
         replace hx102_12 := (HB.out.cell (blt_ hx102_12)).trans hx102_12
         replace hx102_13 := (HB.out.cell (blt_ hx102_13)).trans hx102_13
         have HR102_2 := Aside0.mk hi102_2
         have HC102_2 := Aside0.mk hl102_2
         clear hi102_2 hl102_2
         replace p102 := eq_true p102
         replace q102 := eq_true q102
         go_wp2
         go_ret
         exact ⟨by first | rfl | (simp [errW_none, errW_some] <;> rfl) | (simp [*, errW_none, errW_some] <;> rfl), by repeat (first | (with_reducible first | exact HB.out | apply below_alloc | apply pw_below_drewN | apply below_drew1 | refine below_set ?_ GE101.out) | exact HB.out)⟩
        ·rw [if_neg c10] at H
         have c10b0 : decide (30 < (((rd_T47 l0_2 x3_1).atom.args).length : Int)) = false := decide_eq_false c10
         have c10b1 : decide (30 < ((rd_T47 l0_2 x3_1).atom.args).length) = false := decide_eq_false (by omega)
         clear c10
         have H' := Aside0.mk H
         clear H
         have hcz12_0 : wc.cell? ⟨gb101, 0, none⟩ = some (.string a0_0) := (blk_cell BK101.out 0).trans rfl
         have hcz12_1 : wc.cell? ⟨gb101, 1, none⟩ = some (.slice A0_1 l0_1.length c0_1) := (blk_cell BK101.out 1).trans rfl
         have hcz12_2 : wc.cell? ⟨gb101, 2, none⟩ = some (.slice A0_2 l0_2.length c0_2) := (blk_cell BK101.out 2).trans rfl
         have hfz12_0 := blk_frozen BK101.out 0
         have hfz12_1 := blk_frozen BK101.out 1
         have hfz12_2 := blk_frozen BK101.out 2
         have p102 : 0 ≤ (x3_1 : Int) := of_decide_eq_true (by first | (with_reducible assumption) | assumption)
         have q102 : x3_1 < (l0_2.length : Int) := of_decide_eq_true (by first | (with_reducible assumption) | assumption)
         obtain ⟨ad102, A102_2, c102_2, e102, hx102_0, hx102_1, hx102_2, hx102_3, hx102_4, hx102_5, hx102_6, hx102_7, hx102_8, hx102_9, hx102_10, hx102_11, hx102_12, hx102_13, hl102_2, hi102_2⟩ := at_T47 HR0_2.out x3_1 p102 q102
         cases e102
         replace hx102_0 := (HB.out.cell (blt_ hx102_0)).trans hx102_0
         replace hx102_1 := (HB.out.cell (blt_ hx102_1)).trans hx102_1
         replace hx102_2 := (HB.out.cell (blt_ hx102_2)).trans hx102_2
         replace hx102_3 := (HB.out.cell (blt_ hx102_3)).trans hx102_3
         replace hx102_4 := (HB.out.cell (blt_ hx102_4)).trans hx102_4
         replace hx102_5 := (HB.out.cell (blt_ hx102_5)).trans hx102_5
         replace hx102_6 := (HB.out.cell (blt_ hx102_6)).trans hx102_6
         replace hx102_7 := (HB.out.cell (blt_ hx102_7)).trans hx102_7
         replace hx102_8 := (HB.out.cell (blt_ hx102_8)).trans hx102_8
         replace hx102_9 := (HB.out.cell (blt_ hx102_9)).trans hx102_9
         replace hx102_10 := (HB.out.cell (blt_ hx102_10)).trans hx102_10
         replace hx102_11 := (HB.out.cell (blt_ hx102_11)).trans hx102_11
         replace hx102_12 := (HB.out.cell (blt_ hx102_12)).trans hx102_12
         replace hx102_13 := (HB.out.cell (blt_ hx102_13)).trans hx102_13
         have HR102_2 := Aside0.mk hi102_2
         have HC102_2 := Aside0.mk hl102_2
         clear hi102_2 hl102_2
         replace p102 := eq_true p102
         replace q102 := eq_true q102
         go_wp2
         go_roundg kj2
         case measure => have := HK1.out; have := HJ2.out; omega
         case rel => exact ⟨(wrap64 (x3_1 + 1)), (by first | rfl | (simp; done) | (simp [*]; done)), H', ⟨by have := HK1.out; have := HJ2.out; omega⟩, ⟨by (with_reducible repeat (first | refine blk_drewN ?_ _ | refine blk_drew ?_ | refine blk_alloc ?_ _)); exact BK101.out⟩, ⟨by repeat (first | (with_reducible first | exact HB.out | apply below_alloc | apply pw_below_drewN | apply below_drew1 | refine below_set ?_ GE101.out) | exact HB.out)⟩⟩
       ·rw [if_neg c9] at H
        exact absurd H (by simp)
      ·rw [if_neg c8] at H
       exact absurd H (by simp)
     ·replace c7 := Bool.eq_false_iff.mpr c7
      subst c7
      have H1 : (if (l0_2.length : Int) ≤ 30 then (some (decide ((l0_1.length : Int) ≤ 30))) else (some false)) = some r := by rw [if_neg (show ¬ (false = true) by decide)] at H; exact H
      clear H
      have H := H1
      clear H1
      by_cases c13 : (l0_2.length : Int) ≤ 30
      ·rw [if_pos c13] at H
       have c13b0 : decide ((l0_2.length : Int) ≤ 30) = true := decide_eq_true c13
       have c13b1 : decide (l0_2.length ≤ 30) = true := decide_eq_true (by omega)
       clear c13
       obtain rfl := Option.some.inj H
       have hcz14_0 : wc.cell? ⟨gb101, 0, none⟩ = some (.string a0_0) := (blk_cell BK101.out 0).trans rfl
       have hcz14_1 : wc.cell? ⟨gb101, 1, none⟩ = some (.slice A0_1 l0_1.length c0_1) := (blk_cell BK101.out 1).trans rfl
       have hcz14_2 : wc.cell? ⟨gb101, 2, none⟩ = some (.slice A0_2 l0_2.length c0_2) := (blk_cell BK101.out 2).trans rfl
       have hfz14_0 := blk_frozen BK101.out 0
       have hfz14_1 := blk_frozen BK101.out 1
       have hfz14_2 := blk_frozen BK101.out 2
       go_wp2
       go_ret
       exact ⟨by first | rfl | (simp [errW_none, errW_some] <;> rfl) | (simp [*, errW_none, errW_some] <;> rfl), by repeat (first | (with_reducible first | exact HB.out | apply below_alloc | apply pw_below_drewN | apply below_drew1 | refine below_set ?_ GE101.out) | exact HB.out)⟩
      ·rw [if_neg c13] at H
       have c13b0 : decide ((l0_2.length : Int) ≤ 30) = false := decide_eq_false c13
       have c13b1 : decide (l0_2.length ≤ 30) = false := decide_eq_false (by omega)
       clear c13
       obtain rfl := Option.some.inj H
       have hcz15_0 : wc.cell? ⟨gb101, 0, none⟩ = some (.string a0_0) := (blk_cell BK101.out 0).trans rfl
       have hcz15_1 : wc.cell? ⟨gb101, 1, none⟩ = some (.slice A0_1 l0_1.length c0_1) := (blk_cell BK101.out 1).trans rfl
       have hcz15_2 : wc.cell? ⟨gb101, 2, none⟩ = some (.slice A0_2 l0_2.length c0_2) := (blk_cell BK101.out 2).trans rfl
       have hfz15_0 := blk_frozen BK101.out 0
       have hfz15_1 := blk_frozen BK101.out 1
       have hfz15_2 := blk_frozen BK101.out 2
       go_wp2
       go_ret
       exact ⟨by first | rfl | (simp [errW_none, errW_some] <;> rfl) | (simp [*, errW_none, errW_some] <;> rfl), by repeat (first | (with_reducible first | exact HB.out | apply below_alloc | apply pw_below_drewN | apply below_drew1 | refine below_set ?_ GE101.out) | exact HB.out)⟩

end Go.Proofs.Ythpejcnldecmoaa.H
-- made by a program of this session (wip/tools) out of the translation; Lean checks it.
namespace Go.Proofs.Ythpejcnldecmoaa.H
open Go.RowKit Go.Proofs.YthpejcnldecmoaaW.PrintWords Go.Proofs.YthpejcnldecmoaaW.PrintLast Go.Proofs.YthpejcnldecmoaaW.PrintMore
attribute [local go_sem] max2_int min2_int max_two min_two max_three min_three max_four min_four   -- for this text's walks alone
set_option linter.unusedVariables false
set_option linter.unusedSimpArgs false

/-! ### lambrequinref09_Same: function 29 -/
def lambrequinref09_Same.l0 : Nat → List ByteArray → List ByteArray → Int → Option (Bool)
 | 0, _, _, _ => none
 | k + 1, x0, x1, x5 => if x5 < (x0.length : Int) then (if 0 ≤ x5 then (if x5 < (x1.length : Int) then (if (rdOf ByteArray.empty x0 x5).toList = (rdOf ByteArray.empty x1 x5).toList then (lambrequinref09_Same.l0 k x0 x1 (wrap64 (x5 + 1))) else (some false)) else (none)) else (none)) else (some true)
def lambrequinref09_Same.f (k : Nat) (l0 : List ByteArray) (l1 : List ByteArray) : Option (Bool) := if (l0.length : Int) = (l1.length : Int) then (lambrequinref09_Same.l0 k l0 l1 0) else (some false)
theorem lambrequinref09_Same.mono_l : ∀ k, (∀ y0 y1 y2, LeO (lambrequinref09_Same.l0 k y0 y1 y2) (lambrequinref09_Same.l0 (k + 1) y0 y1 y2))
 | 0 => fun _ _ _ r h => by simp [lambrequinref09_Same.l0] at h
 | k + 1 => by
  have ih0 := lambrequinref09_Same.mono_l k
  ·intro y0 y1 y2
   unfold lambrequinref09_Same.l0
   repeat' first
   | (with_reducible exact ih0 _ _ _)
   | (with_reducible exact LeO.refl _)
   | (with_reducible exact LeO.none _)
   | (with_reducible refine LeO.ite ?_ ?_)
   | (with_reducible refine LeO.bind ?_ (fun _ => ?_))
   | exact ih0 _ _ _
   | exact LeO.none _
   | refine LeO.ite ?_ ?_
   | refine LeO.bind ?_ (fun _ => ?_)
theorem lambrequinref09_Same.mono : ∀ a0 a1 k, LeO (lambrequinref09_Same.f k a0 a1) (lambrequinref09_Same.f (k + 1) a0 a1) := by
 intro a0 a1 k
 have ih0 := lambrequinref09_Same.mono_l k
 unfold lambrequinref09_Same.f
 repeat' first
   | (with_reducible exact ih0 _ _ _)
   | (with_reducible exact LeO.refl _)
   | (with_reducible exact LeO.none _)
   | (with_reducible refine LeO.ite ?_ ?_)
   | (with_reducible refine LeO.bind ?_ (fun _ => ?_))
   | exact ih0 _ _ _
   | exact LeO.none _
   | refine LeO.ite ?_ ?_
   | refine LeO.bind ?_ (fun _ => ?_)
set_option maxHeartbeats 8000000 in
set_option maxRecDepth 100000 in
theorem lambrequinref09_Same.calls (k : Nat) (A0 : Option Addr) (c0 : Nat) (l0 : List ByteArray) (A1 : Option Addr) (c1 : Nat) (l1 : List ByteArray) (r : Bool) (w : World) (hr0 : Kd.C Kd.string w A0 l0.length l0) (hc0 : l0.length ≤ c0) (hr1 : Kd.C Kd.string w A1 l1.length l1) (hc1 : l1.length ≤ c1) (h : lambrequinref09_Same.f k l0 l1 = some r) :
  Calls Try.prog 29 #[.slice A0 l0.length c0, .slice A1 l1.length c1] w fun e w' => e = .returned (.bool r) ∧ Drawn0 w w' := by
 have HR0 := Aside0.mk hr0
 have HC0 := Aside0.mk hc0
 clear hr0 hc0
 have HR1 := Aside0.mk hr1
 have HC1 := Aside0.mk hc1
 clear hr1 hc1
 have H : (if (l0.length : Int) = (l1.length : Int) then (lambrequinref09_Same.l0 k l0 l1 0) else (some false)) = some r := h
 clear h
 by_cases c3 : (l0.length : Int) = (l1.length : Int)
 ·rw [if_pos c3] at H
  have c3b0 : ((l0.length : Int) == (l1.length : Int)) = true := beq_iff_eq.mpr c3
  have c3b1 : ((l0.length : Int) != (l1.length : Int)) = false := bne_eq_false_iff_eq.mpr c3
  have c3b2 : (l0.length == l1.length) = true := by first | simpa using c3 | (simp at c3 ⊢; omega)
  clear c3
  have H' := Aside0.mk H
  clear H
  go_enter Try.func29, Try.ntmps29
  go_wp2
  repeat (go_quiet (fail); try go_wp2)
  go_loopg [5] k (fun kq v5 w' => ∃ (x5_1 : Int), v5 = .int .i64 x5_1 ∧ Aside0 (lambrequinref09_Same.l0 kq l0 l1 x5_1 = some r) ∧ Aside0 (kq ≤ k) ∧ Drawn0 w w')
  case atStart => exact ⟨(0), (by first | rfl | (simp; done) | (simp [*]; done)), H', ⟨Nat.le_refl _⟩, by repeat (first | exact Drawn0.refl _ | apply Drawn0.step)⟩
  case round =>
   clear H'
   try clear c1
   try clear c2
   try clear p2
   try clear c3
   try clear c3b0
   try clear c3b1
   try clear c3b2
   obtain ⟨x5_1, rfl, HA, HK1, ⟨m1, rfl⟩⟩ := hrel
   cases gk with
   | zero => exact absurd HA.out (by simp [lambrequinref09_Same.l0])
   | succ k1 =>
    have H := HA.out
    clear HA
    simp only [lambrequinref09_Same.l0] at H
    by_cases c4 : x5_1 < (l0.length : Int)
    ·rw [if_pos c4] at H
     have c4b0 : decide (x5_1 < (l0.length : Int)) = true := decide_eq_true c4
     clear c4
     by_cases c5 : 0 ≤ x5_1
     ·rw [if_pos c5] at H
      have c5b0 : decide (0 ≤ x5_1) = true := decide_eq_true c5
      clear c5
      by_cases c6 : x5_1 < (l1.length : Int)
      ·rw [if_pos c6] at H
       have c6b0 : decide (x5_1 < (l1.length : Int)) = true := decide_eq_true c6
       clear c6
       by_cases c7 : (rdOf ByteArray.empty l0 x5_1).toList = (rdOf ByteArray.empty l1 x5_1).toList
       ·rw [if_pos c7] at H
        have c7b0 : ((rdOf ByteArray.empty l0 x5_1).toList == (rdOf ByteArray.empty l1 x5_1).toList) = true := beq_iff_eq.mpr c7
        have c7b1 : ((rdOf ByteArray.empty l0 x5_1).toList != (rdOf ByteArray.empty l1 x5_1).toList) = false := bne_eq_false_iff_eq.mpr c7
        clear c7
        have H' := Aside0.mk H
        clear H
        have p101 : 0 ≤ (x5_1 : Int) := of_decide_eq_true (by first | (with_reducible assumption) | assumption)
        have q101 : x5_1 < (l0.length : Int) := of_decide_eq_true (by first | (with_reducible assumption) | assumption)
        obtain ⟨ad101, e101, hx101_0⟩ := Kd.at_string HR0.out x5_1 p101 q101
        cases e101
        replace p101 := eq_true p101
        replace q101 := eq_true q101
        have p102 : 0 ≤ (x5_1 : Int) := of_decide_eq_true (by first | (with_reducible assumption) | assumption)
        have q102 : x5_1 < (l1.length : Int) := of_decide_eq_true (by first | (with_reducible assumption) | assumption)
        obtain ⟨ad102, e102, hx102_0⟩ := Kd.at_string HR1.out x5_1 p102 q102
        cases e102
        replace p102 := eq_true p102
        replace q102 := eq_true q102
        go_wp2
        repeat (go_quiet (fail); try go_wp2)
        go_roundg k1
        case measure => have := HK1.out; omega
        case rel => exact ⟨(wrap64 (x5_1 + 1)), (by first | rfl | (simp; done) | (simp [*]; done)), H', ⟨by have := HK1.out; omega⟩, by repeat (first | exact Drawn0.refl _ | apply Drawn0.step)⟩
       ·rw [if_neg c7] at H
        have c7b0 : ((rdOf ByteArray.empty l0 x5_1).toList == (rdOf ByteArray.empty l1 x5_1).toList) = false := beq_eq_false_iff_ne.mpr c7
        have c7b1 : ((rdOf ByteArray.empty l0 x5_1).toList != (rdOf ByteArray.empty l1 x5_1).toList) = true := bne_iff_ne.mpr c7
        obtain rfl := Option.some.inj H
        have p101 : 0 ≤ (x5_1 : Int) := of_decide_eq_true (by first | (with_reducible assumption) | assumption)
        have q101 : x5_1 < (l0.length : Int) := of_decide_eq_true (by first | (with_reducible assumption) | assumption)
        obtain ⟨ad101, e101, hx101_0⟩ := Kd.at_string HR0.out x5_1 p101 q101
        cases e101
        replace p101 := eq_true p101
        replace q101 := eq_true q101
        have p102 : 0 ≤ (x5_1 : Int) := of_decide_eq_true (by first | (with_reducible assumption) | assumption)
        have q102 : x5_1 < (l1.length : Int) := of_decide_eq_true (by first | (with_reducible assumption) | assumption)
        obtain ⟨ad102, e102, hx102_0⟩ := Kd.at_string HR1.out x5_1 p102 q102
        cases e102
        replace p102 := eq_true p102
        replace q102 := eq_true q102
        go_wp2
        repeat (go_quiet (fail); try go_wp2)
        go_ret
        exact ⟨by first | rfl | (simp; done) | (simp [*]; done), by repeat (first | exact Drawn0.refl _ | apply Drawn0.step)⟩
      ·rw [if_neg c6] at H
       exact absurd H (by simp)
     ·rw [if_neg c5] at H
      exact absurd H (by simp)
    ·rw [if_neg c4] at H
     have c4b0 : decide (x5_1 < (l0.length : Int)) = false := decide_eq_false c4
     clear c4
     obtain rfl := Option.some.inj H
     go_wp2
     repeat (go_quiet (fail); try go_wp2)
     go_ret
     exact ⟨by first | rfl | (simp; done) | (simp [*]; done), by repeat (first | exact Drawn0.refl _ | apply Drawn0.step)⟩
 ·rw [if_neg c3] at H
  have c3b0 : ((l0.length : Int) == (l1.length : Int)) = false := beq_eq_false_iff_ne.mpr c3
  have c3b1 : ((l0.length : Int) != (l1.length : Int)) = true := bne_iff_ne.mpr c3
  have c3b2 : (l0.length == l1.length) = false := by first | simpa using c3 | (simp at c3 ⊢; omega)
  obtain rfl := Option.some.inj H
  go_enter Try.func29, Try.ntmps29
  go_wp2
  repeat (go_quiet (fail); try go_wp2)
  go_ret
  exact ⟨by first | rfl | (simp; done) | (simp [*]; done), by repeat (first | exact Drawn0.refl _ | apply Drawn0.step)⟩

end Go.Proofs.Ythpejcnldecmoaa.H
namespace Go.Proofs.Ythpejcnldecmoaa.H
open Go.RowKit Go.Proofs.YthpejcnldecmoaaW.PrintWords
set_option linter.unusedVariables false
set_option linter.unusedSimpArgs false
theorem sNames_l0 (l : List Term) (hl : l.length ≤ 1000000) : ∀ (r : List Term) (n : Nat) (acc : List ByteArray), l.drop n = r → acc.length ≤ n → Ev (fun k => safe_names.l0 k acc l (l.length : Int) n) (namesGo acc r)
  | [], n, acc, h, ha => by
    refine Ev.step (fun k => by rw [safe_names.l0]) ?_
    exact Ev.neg (drop_end h) (Ev.some (by simp [namesGo]))
  | y :: r, n, acc, h, ha => by
    obtain ⟨h1, h2, h3, h4, h5⟩ := drop_more h (by omega)
    refine Ev.step (fun k => by rw [safe_names.l0]) ?_
    refine Ev.pos h1 (Ev.pos h2 (Ev.pos h1 ?_))
    rw [show rd_T45 l n = y from h3 _, h5]
    unfold namesGo
    by_cases hv : y.isVar = true
    · refine Ev.pos hv (Ev.bind (Contains_ev acc y.name (by omega)) ?_)
      cases hm : mem y.name acc with
      | true => exact Ev.pos rfl (Ev.iff (sNames_l0 l hl r (n + 1) acc h4 (by omega)) (by simp [hv]))
      | false => exact Ev.neg (by simp) (Ev.pos (by omega) (Ev.iff (sNames_l0 l hl r (n + 1) (acc ++ [y.name]) h4 (by simp; omega)) (by simp [hv])))
    · exact Ev.neg hv (Ev.iff (sNames_l0 l hl r (n + 1) acc h4 (by omega)) (by simp [hv]))
theorem sNames_ev (l : List Term) (hl : l.length ≤ 1000000) : Ev (fun k => safe_names.f k l) (names l) := sNames_l0 l hl l 0 [] rfl (by simp)
theorem sVars_ev (p : ByteArray) (l : List Term) (hl : l.length ≤ 1000000) : Ev (fun k => safe_Vars.f k p l) (names l) :=
  Ev.bind (sNames_ev l hl) (Ev.now _)
/-! ### names: what is one -/
theorem mem_namesGo (x : ByteArray) : ∀ (l : List Term) (acc : List ByteArray), x ∈ namesGo acc l ↔ x ∈ acc ∨ ∃ t ∈ l, t.isVar = true ∧ t.name = x
  | [], acc => by simp [namesGo]
  | t :: l, acc => by
    unfold namesGo
    by_cases hv : t.isVar = true
    · by_cases hm : t.name ∈ acc
      · rw [if_neg (by rw [mem_iff.2 hm]; simp), mem_namesGo x l acc]
        constructor
        · rintro (h | ⟨u, h, h'⟩)
          · exact .inl h
          · exact .inr ⟨u, by simp [h], h'⟩
        · rintro (h | ⟨u, h, h1, h2⟩)
          · exact .inl h
          · rcases List.mem_cons.1 h with rfl | h
            · exact .inl (h2 ▸ hm)
            · exact .inr ⟨u, h, h1, h2⟩
      · have : mem t.name acc = false := by rw [← Bool.not_eq_true, mem_iff]; exact hm
        rw [if_pos (by simp [hv, this]), mem_namesGo x l _]
        constructor
        · rintro (h | ⟨u, h, h'⟩)
          · rcases List.mem_append.1 h with h | h
            · exact .inl h
            · exact .inr ⟨t, by simp, hv, (List.mem_singleton.1 h).symm⟩
          · exact .inr ⟨u, by simp [h], h'⟩
        · rintro (h | ⟨u, h, h1, h2⟩)
          · exact .inl (by simp [h])
          · rcases List.mem_cons.1 h with rfl | h
            · exact .inl (by simp [h2])
            · exact .inr ⟨u, h, h1, h2⟩
    · rw [if_neg (by simp [hv]), mem_namesGo x l acc]
      constructor
      · rintro (h | ⟨u, h, h'⟩)
        · exact .inl h
        · exact .inr ⟨u, by simp [h], h'⟩
      · rintro (h | ⟨u, h, h1, h2⟩)
        · exact .inl h
        · rcases List.mem_cons.1 h with rfl | h
          · exact absurd h1 hv
          · exact .inr ⟨u, h, h1, h2⟩
theorem mem_names {x : ByteArray} {l : List Term} : x ∈ names l ↔ ∃ t ∈ l, t.isVar = true ∧ t.name = x := by
  unfold names; rw [mem_namesGo]; simp
/-! ### Bound -/
def boundL (body : List Liter) : List ByteArray := body.flatMap fun y => if y.kind = 1 then names y.atom.args else []
theorem mem_boundL {x : ByteArray} {body : List Liter} : x ∈ boundL body ↔ ∃ y ∈ body, y.kind = 1 ∧ x ∈ names y.atom.args := by
  unfold boundL
  rw [List.mem_flatMap]
  constructor
  · rintro ⟨y, hy, h⟩
    split at h
    · exact ⟨y, hy, by assumption, h⟩
    · simp at h
  · rintro ⟨y, hy, h1, h2⟩
    exact ⟨y, hy, by rw [if_pos h1]; exact h2⟩
theorem boundL_cons (y : Liter) (r : List Liter) : boundL (y :: r) = (if y.kind = 1 then names y.atom.args else []) ++ boundL r := by simp [boundL]
theorem Bound_l0 (body : List Liter) (hb : body.length ≤ 1000) (ha : ∀ y ∈ body, y.atom.args.length ≤ 1000) : ∀ (r : List Liter) (n : Nat) (acc : List ByteArray), body.drop n = r → n ≤ body.length → acc.length ≤ n * 1000 →
    Ev (fun k => safe_Bound.l0 k acc body (body.length : Int) n) (setS (acc ++ boundL r))
  | [], n, acc, h, hn, hc => by
    have h0 : acc.length ≤ 1000000 := Nat.le_trans hc (Nat.mul_le_mul (Nat.le_trans hn hb) (Nat.le_refl 1000))
    refine Ev.step (fun k => by rw [safe_Bound.l0]) ?_
    refine Ev.neg (drop_end h) ?_
    refine Ev.pure (a := sortS acc) (by unfold slices_Sort_string_string.f; rw [if_pos (by omega)]) ?_
    refine Ev.pure (a := compactS (sortS acc)) rfl (Ev.some ?_)
    simp [boundL, setS]
  | y :: r, n, acc, h, hn, hc => by
    obtain ⟨h1, h2, h3, h4, h5⟩ := drop_more h (by omega)
    have hy : y ∈ body := by
      have : y ∈ body.drop n := by rw [h]; simp
      exact List.mem_of_mem_drop this
    have hya := ha y hy
    have hnl := names_len y.atom.args
    have h0 : acc.length ≤ 1000000 := Nat.le_trans hc (Nat.mul_le_mul (Nat.le_trans hn hb) (Nat.le_refl 1000))
    have hlt : acc.length + (names y.atom.args).length < 8796093022208 := by omega
    have h2n : n + 1 ≤ body.length := by omega
    have hac2 : acc.length ≤ (n + 1) * 1000 := Nat.le_trans hc (Nat.mul_le_mul (Nat.le_succ n) (Nat.le_refl 1000))
    have hac : (acc ++ names y.atom.args).length ≤ (n + 1) * 1000 := by
      rw [List.length_append, Nat.succ_mul]
      exact Nat.add_le_add hc (Nat.le_trans hnl hya)
    refine Ev.step (fun k => by rw [safe_Bound.l0]) ?_
    refine Ev.pos h1 (Ev.pos h2 (Ev.pos h1 ?_))
    rw [show rd_T47 body n = y from h3 _, h5]
    by_cases hk : y.kind = 1
    · refine Ev.pos hk (Ev.bind (sVars_ev _ _ (by omega)) (Ev.pos hlt ?_))
      refine Ev.iff (Bound_l0 body hb ha r (n + 1) (acc ++ names y.atom.args) h4 (by omega) hac) ?_
      rw [boundL_cons, if_pos hk, List.append_assoc]
    · exact Ev.neg hk (Ev.iff (Bound_l0 body hb ha r (n + 1) acc h4 h2n hac2) (by rw [boundL_cons, if_neg hk, List.nil_append]))
def boundS (body : List Liter) : List ByteArray := setS (boundL body)
theorem Bound_ev (p : ByteArray) (hd : List Term) (body : List Liter) (hb : body.length ≤ 1000) (ha : ∀ y ∈ body, y.atom.args.length ≤ 1000) : Ev (fun k => safe_Bound.f k p hd body) (boundS body) :=
  Bound_l0 body hb ha body 0 [] rfl (by omega) (by simp)
theorem mem_boundS {x : ByteArray} {body : List Liter} : x ∈ boundS body ↔ ∃ y ∈ body, y.kind = 1 ∧ x ∈ names y.atom.args := by
  unfold boundS; rw [mem_setS, mem_boundL]
/-! ### Check -/
def usedS (y : Liter) : List ByteArray := if y.kind = 2 then names y.atom.args else if y.kind = 3 then names [y.l, y.r] else []
theorem Used_ev (y : Liter) (ha : y.atom.args.length ≤ 1000) : Ev (fun k => safe_used.f k y.kind y.atom.pred y.atom.args y.op y.l.isVar y.l.name y.l.val.isSym y.l.val.sym y.l.val.n y.r.isVar y.r.name y.r.val.isSym y.r.val.sym y.r.val.n) (usedS y) := by
  unfold safe_used.f usedS
  by_cases h2 : y.kind = 2
  · rw [if_pos h2]
    exact Ev.pos h2 (Ev.bind (sVars_ev _ _ (by omega)) (Ev.now _))
  · rw [if_neg h2]
    refine Ev.neg h2 ?_
    by_cases h3 : y.kind = 3
    · rw [if_pos h3]
      exact Ev.pos h3 (Ev.bind (sNames_ev [y.l, y.r] (by simp)) (Ev.now _))
    · rw [if_neg h3]
      exact Ev.neg h3 (Ev.now _)
def chk (b : List ByteArray) : Nat → List (List ByteArray) → ByteArray × Int × Int
  | _, [] => ((⟨#[]⟩ : ByteArray), 0, 0)
  | i, u :: us => if idxP (fun s => !mem s b) u 0 ≥ 0 then (rdOf ByteArray.empty u (idxP (fun s => !mem s b) u 0), wrap64 ((-1) + (i : Int)), 6) else chk b (i + 1) us
theorem idxP_lt {α : Type} (p : α → Bool) : ∀ (l : List α) (i : Nat), idxP p l i < ((i + l.length : Nat) : Int)
  | [], i => by simp [idxP]; omega
  | x :: l, i => by
    unfold idxP
    split
    · simp; omega
    · have := idxP_lt p l (i + 1)
      simp at this ⊢
      omega
theorem idxP_none {α : Type} (p : α → Bool) : ∀ (l : List α) (i : Nat), idxP p l i ≥ 0 ↔ ∃ x ∈ l, p x = true
  | [], i => by simp [idxP]
  | x :: l, i => by
    unfold idxP
    by_cases h : p x = true
    · rw [if_pos h]
      exact ⟨fun _ => ⟨x, by simp, h⟩, fun _ => by omega⟩
    · rw [if_neg h, idxP_none p l (i + 1)]
      constructor
      · rintro ⟨y, hy, h'⟩; exact ⟨y, by simp [hy], h'⟩
      · rintro ⟨y, hy, h'⟩
        rcases List.mem_cons.1 hy with rfl | hy
        · exact absurd h' h
        · exact ⟨y, hy, h'⟩
theorem Check_l1 (b : List ByteArray) (u : List (List ByteArray)) (hu : u.length ≤ 1000000) : ∀ (r : List (List ByteArray)) (n : Nat), u.drop n = r → Ev (fun k => safe_Check.l1 k u (u.length : Int) n b) (chk b n r)
  | [], n, h => by
    refine Ev.step (fun k => by rw [safe_Check.l1]) ?_
    exact Ev.neg (drop_end h) (Ev.now _)
  | y :: r, n, h => by
    obtain ⟨h1, h2, h3, h4, h5⟩ := drop_more h (by omega)
    refine Ev.step (fun k => by rw [safe_Check.l1]) ?_
    refine Ev.pos h1 (Ev.pos h2 (Ev.pos h1 (Ev.pure (a := idxP (fun s => !mem s b) y 0) ?_ ?_)))
    · rw [show rd_L14 u n = y from h3 _]; rfl
    rw [show rd_L14 u n = y from h3 _, h5]
    by_cases c : idxP (fun s => !mem s b) y 0 ≥ 0
    · have hlt : idxP (fun s => !mem s b) y 0 < (y.length : Int) := by simpa using idxP_lt (fun s => !mem s b) y 0
      exact Ev.iff (Ev.pos c (Ev.pos c (Ev.pos hlt (Ev.now _)))) (by rw [chk, if_pos c])
    · exact Ev.iff (Ev.neg c (Check_l1 b u hu r (n + 1) h4)) (by rw [chk, if_neg c])
theorem Check_l0 (b : List ByteArray) (body : List Liter) (hb : body.length ≤ 1000) (ha : ∀ y ∈ body, y.atom.args.length ≤ 1000) : ∀ (r : List Liter) (n : Nat) (acc : List (List ByteArray)), body.drop n = r → n ≤ body.length → acc.length ≤ n + 1 →
    Ev (fun k => safe_Check.l0 k acc body (body.length : Int) n b) (chk b 0 (acc ++ r.map usedS))
  | [], n, acc, h, hn, hc => by
    refine Ev.step (fun k => by rw [safe_Check.l0]) ?_
    refine Ev.neg (drop_end h) ?_
    exact Ev.iff (Check_l1 b acc (by omega) acc 0 rfl) (by simp)
  | y :: r, n, acc, h, hn, hc => by
    obtain ⟨h1, h2, h3, h4, h5⟩ := drop_more h (by omega)
    have hy : y ∈ body := by
      have : y ∈ body.drop n := by rw [h]; simp
      exact List.mem_of_mem_drop this
    have hya := ha y hy
    refine Ev.step (fun k => by rw [safe_Check.l0]) ?_
    refine Ev.pos h1 (Ev.pos h2 (Ev.pos h1 ?_))
    rw [show rd_T47 body n = y from h3 _, h5]
    refine Ev.bind (Used_ev y hya) (Ev.pos (by omega) ?_)
    exact Ev.iff (Check_l0 b body hb ha r (n + 1) (acc ++ [usedS y]) h4 (by omega) (by simp; omega)) (by simp)
def chkS (hd : List Term) (body : List Liter) : ByteArray × Int × Int := chk (boundS body) 0 (names hd :: body.map usedS)
theorem Check_ev (p : ByteArray) (hd : List Term) (body : List Liter) (hh : hd.length ≤ 1000000) (hb : body.length ≤ 1000) (ha : ∀ y ∈ body, y.atom.args.length ≤ 1000) : Ev (fun k => safe_Check.f k p hd body) (chkS hd body) :=
  Ev.bind (Bound_ev p hd body hb ha) (Ev.bind (sVars_ev p hd hh) (Check_l0 (boundS body) body hb ha body 0 [names hd] rfl (by omega) (by simp)))
theorem chk_code (b : List ByteArray) : ∀ (i : Nat) (us : List (List ByteArray)), ((chk b i us).2.2 = 0 ∧ ∀ u ∈ us, ∀ x ∈ u, x ∈ b) ∨ ((chk b i us).2.2 = 6 ∧ ∃ u ∈ us, ∃ x ∈ u, ¬ x ∈ b)
  | i, [] => .inl ⟨rfl, by simp⟩
  | i, u :: us => by
    unfold chk
    by_cases c : idxP (fun s => !mem s b) u 0 ≥ 0
    · rw [if_pos c]
      obtain ⟨x, hx, hm⟩ := (idxP_none _ _ _).1 c
      exact .inr ⟨rfl, u, by simp, x, hx, by rw [← mem_iff]; simpa using hm⟩
    · rw [if_neg c]
      have hu : ∀ x ∈ u, x ∈ b := by
        intro x hx
        rw [← mem_iff]
        by_cases h : mem x b = true
        · exact h
        · exact absurd ((idxP_none _ _ _).2 ⟨x, hx, by simpa using h⟩) c
      rcases chk_code b (i + 1) us with ⟨h, h'⟩ | ⟨h, v, hv, h'⟩
      · exact .inl ⟨h, fun v hv => by rcases List.mem_cons.1 hv with rfl | hv; exact hu; exact h' v hv⟩
      · exact .inr ⟨h, v, by simp [hv], h'⟩
/-- what is used is bound -/
def safeP (hd : List Term) (body : List Liter) : Prop := (∀ x ∈ names hd, x ∈ boundS body) ∧ ∀ y ∈ body, ∀ x ∈ usedS y, x ∈ boundS body
theorem chkS_code (hd : List Term) (body : List Liter) : ((chkS hd body).2.2 = 0 ∧ safeP hd body) ∨ ((chkS hd body).2.2 = 6 ∧ ¬ safeP hd body) := by
  rcases chk_code (boundS body) 0 (names hd :: body.map usedS) with ⟨h, h'⟩ | ⟨h, u, hu, x, hx, hb⟩
  · exact .inl ⟨h, fun x hx => h' _ (by simp) x hx, fun y hy x hx => h' (usedS y) (by simp; exact .inr ⟨y, hy, rfl⟩) x hx⟩
  · refine .inr ⟨h, fun hs => hb ?_⟩
    rcases List.mem_cons.1 hu with rfl | hu
    · exact hs.1 x hx
    · obtain ⟨y, hy, rfl⟩ := List.mem_map.1 hu
      exact hs.2 y hy x hx
theorem chkS_zero (hd : List Term) (body : List Liter) : (chkS hd body).2.2 = 0 ↔ safeP hd body := by
  rcases chkS_code hd body with ⟨h, h'⟩ | ⟨h, h'⟩
  · exact ⟨fun _ => h', fun _ => h⟩
  · exact ⟨fun e => by omega, fun e => absurd e h'⟩
/-! ### few -/
def few30 (h : List Term) (l : List Liter) : Bool := decide (l.length ≤ 30) && decide (h.length ≤ 30) && l.all fun y => decide (y.atom.args.length ≤ 30)
theorem few30_iff {h : List Term} {l : List Liter} : few30 h l = true ↔ l.length ≤ 30 ∧ h.length ≤ 30 ∧ ∀ y ∈ l, y.atom.args.length ≤ 30 := by simp [few30, and_assoc]
theorem few30_l0 (p : ByteArray) (h : List Term) (l : List Liter) (hl : l.length ≤ 9223372036854775807) : ∀ (d n : Nat), n + d = 31 → (∀ y ∈ l.take n, y.atom.args.length ≤ 30) → Ev (fun k => lambrequinlaw09_few.l0 k n p h l) (few30 h l)
  | d, n, e, ha => by
    have fin : (n ≥ l.length ∨ n = 31) → Ev (fun k => lambrequinlaw09_few.j1 k n false p h l) (few30 h l) := by
      intro hn
      refine Ev.step (fun k => by rw [lambrequinlaw09_few.j1]) ?_
      refine Ev.neg (by simp) ?_
      by_cases c : (l.length : Int) ≤ 30
      · refine Ev.pos c (Ev.some ?_)
        have hall : (l.all fun y => decide (y.atom.args.length ≤ 30)) = true := by
          rw [List.all_eq_true]
          intro y hy
          rw [List.take_of_length_le (by omega)] at ha
          simpa using ha y hy
        have c1 : l.length ≤ 30 := by omega
        simp only [few30, hall, decide_eq_true c1, Bool.and_true, Bool.true_and]
        by_cases c2 : h.length ≤ 30
        · simp [c2]; omega
        · simp [c2]; omega
      · refine Ev.neg c (Ev.some ?_)
        have : ¬ l.length ≤ 30 := by omega
        simp [few30, this]
    refine Ev.step (fun k => by rw [lambrequinlaw09_few.l0]) ?_
    by_cases hn : n < l.length
    · refine Ev.pos (by omega) ?_
      obtain ⟨y, r, hd, hy⟩ := at_more hn
      by_cases h31 : n < 31
      · rw [decide_eq_true (show (n : Int) < 31 by omega)]
        refine Ev.step (fun k => by rw [lambrequinlaw09_few.j1]) ?_
        refine Ev.pos rfl (Ev.pos (by omega) (Ev.pos (by omega) ?_))
        rw [show rd_T47 l n = y from getD_at hy _, wrap_up (by omega)]
        by_cases c : y.atom.args.length ≤ 30
        · refine Ev.neg (by omega) ?_
          cases d with
          | zero => omega
          | succ d =>
            refine few30_l0 p h l hl d (n + 1) (by omega) fun z hz => ?_
            rw [List.take_add_one, hy] at hz
            rcases List.mem_append.1 hz with hz | hz
            · exact ha z hz
            · simp at hz; exact hz ▸ c
        · refine Ev.pos (by omega) (Ev.some ?_)
          cases hf : few30 h l with
          | false => rfl
          | true => exact absurd ((few30_iff.1 hf).2.2 y (List.mem_of_getElem? hy)) c
      · rw [decide_eq_false (show ¬ (n : Int) < 31 by omega)]
        exact fin (.inr (by omega))
    · refine Ev.neg (by omega) (fin (.inl (by omega)))
theorem few30_ev (p : ByteArray) (h : List Term) (l : List Liter) (hl : l.length ≤ 9223372036854775807) : Ev (fun k => lambrequinlaw09_few.f k p h l) (few30 h l) := few30_l0 p h l hl 31 0 rfl (by simp)
/-! ### Same -/
theorem Same_l0 (a b : List ByteArray) (e : a.length = b.length) (hl : a.length ≤ 9223372036854775807) : ∀ (r s : List ByteArray) (n : Nat), a.drop n = r → b.drop n = s → Ev (fun k => lambrequinref09_Same.l0 k a b n) (decide (r = s))
  | [], s, n, h, h' => by
    refine Ev.step (fun k => by rw [lambrequinref09_Same.l0]) ?_
    have : s = [] := by
      have h1 := congrArg List.length h; have h2 := congrArg List.length h'
      simp at h1 h2
      cases s <;> simp at h2 ⊢
      omega
    exact Ev.neg (drop_end h) (Ev.some (by simp [this]))
  | y :: r, [], n, h, h' => by
    have h1 := congrArg List.length h; have h2 := congrArg List.length h'
    simp at h1 h2
    omega
  | y :: r, z :: s, n, h, h' => by
    obtain ⟨h1, h2, h3, h4, h5⟩ := drop_more h (by omega)
    obtain ⟨g1, g2, g3, g4, g5⟩ := drop_more h' (by omega)
    refine Ev.step (fun k => by rw [lambrequinref09_Same.l0]) ?_
    refine Ev.pos h1 (Ev.pos h2 (Ev.pos g1 ?_))
    rw [show rdOf ByteArray.empty a n = y from h3 _, show rdOf ByteArray.empty b n = z from g3 _, h5]
    by_cases c : y = z
    · subst c
      exact Ev.pos rfl (Ev.iff (Same_l0 a b e hl r s (n + 1) h4 g4) (by simp))
    · exact Ev.neg (by rw [lib_ba_eq]; exact c) (Ev.some (by simp [c]))
theorem Same_ev (a b : List ByteArray) (hl : a.length ≤ 9223372036854775807) : Ev (fun k => lambrequinref09_Same.f k a b) (decide (a = b)) := by
  unfold lambrequinref09_Same.f
  by_cases c : a.length = b.length
  · exact Ev.pos (by omega) (Same_l0 a b c hl a b 0 rfl rfl)
  · exact Ev.neg (by omega) (Ev.some (by rw [eq_comm, decide_eq_false_iff_not]; rintro rfl; exact c rfl))
end Go.Proofs.Ythpejcnldecmoaa.H
namespace Go.Proofs.Ythpejcnldecmoaa.H
open Go.RowKit Go.Proofs.YthpejcnldecmoaaW.PrintWords
set_option linter.unusedVariables false
set_option linter.unusedSimpArgs false
theorem boundS_perm {a b : List Liter} (h : ∀ y, y ∈ a ↔ y ∈ b) : boundS a = boundS b :=
  setS_ext fun x => by
    rw [mem_boundL, mem_boundL]
    exact ⟨fun ⟨y, hy, h'⟩ => ⟨y, (h y).1 hy, h'⟩, fun ⟨y, hy, h'⟩ => ⟨y, (h y).2 hy, h'⟩⟩
theorem chkS_same {h h' : List Term} {a b : List Liter} (e : safeP h a ↔ safeP h' b) : (chkS h a).2.2 = (chkS h' b).2.2 := by
  rcases chkS_code h a with ⟨h1, h2⟩ | ⟨h1, h2⟩ <;> rcases chkS_code h' b with ⟨h3, h4⟩ | ⟨h3, h4⟩
  · rw [h1, h3]
  · exact absurd (e.1 h2) h4
  · exact absurd (e.2 h4) h2
  · rw [h1, h3]
theorem safeP_perm {h : List Term} {a b : List Liter} (e : ∀ y, y ∈ a ↔ y ∈ b) : safeP h a ↔ safeP h b := by
  unfold safeP
  rw [boundS_perm e]
  constructor
  · rintro ⟨h1, h2⟩; exact ⟨h1, fun y hy => h2 y ((e y).2 hy)⟩
  · rintro ⟨h1, h2⟩; exact ⟨h1, fun y hy => h2 y ((e y).1 hy)⟩
theorem boundL_len : ∀ (body : List Liter), (∀ y ∈ body, y.atom.args.length ≤ 1000) → (boundL body).length ≤ body.length * 1000
  | [], _ => by simp [boundL]
  | y :: r, ha => by
    have := boundL_len r (fun z hz => ha z (by simp [hz]))
    have h1 := ha y (by simp)
    have h2 := names_len y.atom.args
    rw [boundL_cons, List.length_append, List.length_cons]
    have h3 : (if y.kind = 1 then names y.atom.args else []).length ≤ 1000 := by
      split
      · omega
      · simp
    omega
theorem boundS_len {body : List Liter} (hb : body.length ≤ 1000) (ha : ∀ y ∈ body, y.atom.args.length ≤ 1000) : (boundS body).length ≤ 1000000 := by
  have h1 := setS_len (boundL body)
  have h2 := boundL_len body ha
  have h3 : body.length * 1000 ≤ 1000 * 1000 := Nat.mul_le_mul hb (Nat.le_refl _)
  unfold boundS
  omega
theorem at_byte {a : Int} (w : (Lit.int .u8 a).wf = true) : 0 ≤ a ∧ a < 256 := by
  simp only [Lit.wf, Bool.and_eq_true, decide_eq_true_eq] at w
  have h1 : IntKind.u8.min = 0 := by decide
  have h2 : IntKind.u8.max = 255 := by decide
  omega
end Go.Proofs.Ythpejcnldecmoaa.H
namespace Go.Proofs.Ythpejcnldecmoaa.H
open Go.RowKit Go.Proofs.YthpejcnldecmoaaW.PrintWords Go.Proofs.YthpejcnldecmoaaW.PrintLast Go.Proofs.YthpejcnldecmoaaW.PrintMore
set_option linter.unusedVariables false
theorem law09_v (s : ByteArray) (w : World) :
    Calls Try.prog 33 #[.string s] w fun e w' => e = .returned (.agg #[.bool true, .string s, .bool false, .string ⟨#[]⟩, .int .i64 0]) ∧ w' = w.alloc (.cells #[.bool true, .string s, .bool false, .string ⟨#[]⟩, .int .i64 0] 45) := by
  have hu := Try.underlying45
  go_enter Try.func33, Try.ntmps33
  go_wp2
  refine bodyPost_ret (results_cell_row rfl _ _ w.heap.size 45 #[.bool true, .string s, .bool false, .string ⟨#[]⟩, .int .i64 0] (0, 0) _ rfl (heap_alloc_new _ _) Try.underlying45 rfl (by kernel_rfl)) rfl ?_
  exact ⟨rfl, rfl⟩
def shL9 : Liter := ⟨1, ⟨⟨#[113]⟩, [varOf ⟨#[89]⟩]⟩, ⟨#[]⟩, noTerm, noTerm⟩
theorem srtS1 (a : ByteArray) : compactS (sortS [a]) = [a] := by
  simp [compactS, sortS, Go.Lib.compact, Go.Lib.compactUpTo, Go.Lib.keeps, List.filter, List.range_succ, ofL_toL]
theorem sh9_bound : boundS [shL9] = [⟨#[89]⟩] := by
  unfold boundS setS
  rw [show boundL [shL9] = [⟨#[89]⟩] by decide +kernel, srtS1]
theorem sh9_one : chkS [varOf ⟨#[88]⟩] [shL9] = (⟨#[88]⟩, -1, 6) := by
  unfold chkS; rw [sh9_bound]; decide +kernel
theorem sh9_two : chkS [varOf ⟨#[89]⟩] [shL9] = (⟨#[]⟩, 0, 0) := by
  unfold chkS; rw [sh9_bound]; decide +kernel
theorem sh9_call (W : World) (p : ByteArray) (s : ByteArray) (bh b bq : Nat) (r : ByteArray × Int × Int) (hr : chkS [varOf s] [shL9] = r) (hh : W.heap[bh]? = some (.cells #[.bool true, .string s, .bool false, .string ⟨#[]⟩, .int .i64 0] 45 (0, 0)))
    (hq : W.heap[bq]? = some (.cells #[.bool true, .string ⟨#[89]⟩, .bool false, .string ⟨#[]⟩, .int .i64 0] 45 (0, 0)))
    (hb : W.heap[b]? = some (.cells #[.int .i64 1, .string ⟨#[113]⟩, .slice (some ⟨bq, 0, none⟩) 1 1, .string ⟨#[]⟩, .bool false, .string ⟨#[]⟩, .bool false, .string ⟨#[]⟩, .int .i64 0, .bool false, .string ⟨#[]⟩, .bool false, .string ⟨#[]⟩, .int .i64 0] 47 (0, 0))) :
    Calls Try.prog 28 #[.agg #[.string p, .slice (some ⟨bh, 0, none⟩) 1 1, .slice (some ⟨b, 0, none⟩) 1 1]] W fun e w' => e = .returned (.tuple #[.string r.1, .int .i64 r.2.1, .int .i64 r.2.2]) ∧ Below W.heap.size W w' := by
  have gh : Kd.C k45 W (some ⟨bh, 0, none⟩) 1 [varOf s] := C_cells hh (Reps.snoc (Reps.none _ _) (k45_mk W (varOf s)) rfl) (by simp)
  have gq : Kd.C k45 W (some ⟨bq, 0, none⟩) 1 [varOf ⟨#[89]⟩] := C_cells hq (Reps.snoc (Reps.none _ _) (k45_mk W (varOf ⟨#[89]⟩)) rfl) (by simp)
  have gb : Kd.C k47 W (some ⟨b, 0, none⟩) 1 [shL9] := C_cells hb (Reps.snoc (Reps.none _ _) (k47_mk W shL9 (Nat.le_refl 1) gq) rfl) (by simp)
  obtain ⟨k, hk⟩ := Ev.rounds (g := fun k => safe_Check.f k p [varOf s] [shL9]) (Check_ev p [varOf s] [shL9] (by simp) (by simp) (by simp [shL9]))
  rw [hr] at hk
  exact safe_Check.calls k p (some ⟨bh, 0, none⟩) 1 [varOf s] (some ⟨b, 0, none⟩) 1 [shL9] r.1 r.2.1 r.2.2 W gh (Nat.le_refl 1) gb (Nat.le_refl 1) hk
theorem sh9_first (w W : World) (bh b bq ba : Nat) (hB : Below w.heap.size w W) (hh : W.heap[bh]? = some (.cells #[.bool true, .string ⟨#[88]⟩, .bool false, .string ⟨#[]⟩, .int .i64 0] 45 (0, 0)))
    (hq : W.heap[bq]? = some (.cells #[.bool true, .string ⟨#[89]⟩, .bool false, .string ⟨#[]⟩, .int .i64 0] 45 (0, 0)))
    (ha : W.heap[ba]? = some (.cells #[.string ⟨#[113]⟩, .slice (some ⟨bq, 0, none⟩) 1 1] 24 (0, 0)))
    (hb : W.heap[b]? = some (.cells #[.int .i64 1, .string ⟨#[113]⟩, .slice (some ⟨bq, 0, none⟩) 1 1, .string ⟨#[]⟩, .bool false, .string ⟨#[]⟩, .bool false, .string ⟨#[]⟩, .int .i64 0, .bool false, .string ⟨#[]⟩, .bool false, .string ⟨#[]⟩, .int .i64 0] 47 (0, 0))) :
    Calls Try.prog 28 #[.agg #[.string ⟨#[112]⟩, .slice (some ⟨bh, 0, none⟩) 1 1, .slice (some ⟨b, 0, none⟩) 1 1]] W fun e w' => e = .returned (.tuple #[.string ⟨#[88]⟩, .int .i64 (-1), .int .i64 6]) ∧ Aside0 (Below w.heap.size w w') ∧ Aside0 (w'.heap[bq]? = some (.cells #[.bool true, .string ⟨#[89]⟩, .bool false, .string ⟨#[]⟩, .int .i64 0] 45 (0, 0))) ∧ w'.cell? ⟨ba, 0, none⟩ = some (.string ⟨#[113]⟩) ∧ w'.cell? ⟨ba, 1, none⟩ = some (.slice (some ⟨bq, 0, none⟩) 1 1) := by
  refine (sh9_call W ⟨#[112]⟩ ⟨#[88]⟩ bh b bq _ sh9_one hh hq hb).mono ?_
  rintro e w1 ⟨rfl, h⟩
  have HA := blk_below ha h
  exact ⟨rfl, ⟨Below.then hB h⟩, ⟨blk_below hq h⟩, (blk_cell HA 0).trans rfl, (blk_cell HA 1).trans rfl⟩
theorem sh9_second (w W : World) (b bq : Nat) (hB : Below w.heap.size w W) (hq : W.heap[bq]? = some (.cells #[.bool true, .string ⟨#[89]⟩, .bool false, .string ⟨#[]⟩, .int .i64 0] 45 (0, 0)))
    (hb : W.heap[b]? = some (.cells #[.int .i64 1, .string ⟨#[113]⟩, .slice (some ⟨bq, 0, none⟩) 1 1, .string ⟨#[]⟩, .bool false, .string ⟨#[]⟩, .bool false, .string ⟨#[]⟩, .int .i64 0, .bool false, .string ⟨#[]⟩, .bool false, .string ⟨#[]⟩, .int .i64 0] 47 (0, 0))) :
    Calls Try.prog 28 #[.agg #[.string ⟨#[113]⟩, .slice (some ⟨bq, 0, none⟩) 1 1, .slice (some ⟨b, 0, none⟩) 1 1]] W fun e w' => e = .returned (.tuple #[.string ⟨#[]⟩, .int .i64 0, .int .i64 0]) ∧ Aside0 (Below w.heap.size w w') := by
  refine (sh9_call W ⟨#[113]⟩ ⟨#[89]⟩ bq b bq _ sh9_two hq hq hb).mono ?_
  rintro e w1 ⟨rfl, h⟩
  exact ⟨rfl, ⟨Below.then hB h⟩⟩
set_option maxHeartbeats 4000000 in
set_option maxRecDepth 100000 in
theorem law09_shown (w : World) :
    Calls Try.prog 25 #[] w fun e w' => e = .returned (.bool true) ∧ Below w.heap.size w w' := by
  have hu := Try.underlying45
  have hu2 := Try.underlying24
  have hu3 := Try.underlying47
  have hu4 := Try.underlying27
  go_enter Try.func25, Try.ntmps25
  go_wp2_with (first
    | (go_at_call 33; go_must (refine (law09_v _ _).mono ?_); rintro e w' ⟨rfl, rfl⟩))
  refine (sh9_first w _ (w.heap.size + 1) (w.heap.size + 1 + 1 + 1 + 1 + 1 + 1) (w.heap.size + 1 + 1 + 1 + 1) (w.heap.size + 1 + 1 + 1 + 1 + 1) (by repeat (first | (with_reducible exact Below.refl _ _) | refine below_alloc ?_ _)) (by repeat (first | (refine blk_new' ?_ _; simp; done) | refine blk_alloc ?_ _)) (by repeat (first | (refine blk_new' ?_ _; simp; done) | refine blk_alloc ?_ _)) (by repeat (first | (refine blk_new' ?_ _; simp; done) | refine blk_alloc ?_ _)) (blk_new' (by simp) _)).mono ?_
  rintro e w1 ⟨rfl, HB, HQ, hc0, hc1⟩
  go_wp2_with (go_at_call 28; go_must (refine (sh9_second w _ w1.heap.size (w.heap.size + 1 + 1 + 1 + 1) (below_alloc HB.out _) (blk_alloc HQ.out _) (blk_new' rfl _)).mono ?_); rintro e w2 ⟨rfl, HB2⟩)
  go_ret
  exact ⟨rfl, HB2.out⟩
def lambrequinlaw09_shown.f : Option Bool := some true
theorem lambrequinlaw09_shown.calls (r : Bool) (w : World) (h : lambrequinlaw09_shown.f = some r) :
    Calls Try.prog 25 #[] w fun e w' => e = .returned (.bool r) ∧ Below w.heap.size w w' := by
  cases h
  exact law09_shown w
end Go.Proofs.Ythpejcnldecmoaa.H
