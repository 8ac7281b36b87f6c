/- RowSafeTells of the seat's law SafeTells: the law holds, under the statement's own conditions. -/
import Derived.Test.YthpejcnldecmoaaNXSafeTells1
import Derived.OpenShut
import Derived.SizedLaws
import Derived.DataReads
import Derived.Test.YthpejcnldecmoaaNXSafeTells
import Derived.Test.YthpejcnldecmoaaNXSafeTells3
import Derived.Test.YthpejcnldecmoaaRows
import Derived.Test.YthpejcnldecmoaaNW
import Derived.WalkKit
import Derived.ProofKit
import Derived.ShutString
import Derived.ChangeOld
import Derived.Below
import Derived.Carry
namespace Go.Proofs.Ythpejcnldecmoaa.H
open Go.RowKit Go.Proofs.YthpejcnldecmoaaW.PrintWords
set_option linter.unusedVariables false
/-- no longer than the model's longest text -/
def bStr (s : ByteArray) : Prop := s.size ≤ 9223372036854775807
/-- What an argument of a type holds, read as the kind kd; B: how long its texts are. -/
structure Opens {α : Type} (P : Program) (t : TypeId) (kd : Kd α) (B : α → Prop) : Prop where
  size : P.cellsOf t = kd.sz
  opened : ∀ {H : Type} {enc : TypeId × Value → H} {w : World} {base : Nat} {sp : Nat → Bool} {held : Bool} {fuel : Nat} {cs : List Value} {x : DataW H × List MemPlace},
    DataW.trod enc P w base sp held fuel t cs = some x → ∃ a, kd.K w a cs ∧ B a
theorem Opens.as {α : Type} {P : Program} {t : TypeId} {kd : Kd α} {B B' : α → Prop} (h : Opens P t kd B) (hB : ∀ a, B a → B' a) : Opens P t kd B' :=
  ⟨h.size, fun hx => by obtain ⟨a, ha, hb⟩ := h.opened hx; exact ⟨a, ha, hB a hb⟩⟩
theorem opens_bool {P : Program} {t : TypeId} (ht : P.underlying t = some .bool) (hs : P.cellsOf t = 1) : Opens P t Kd.bool (fun _ => True) :=
  ⟨hs, fun h => by obtain ⟨b, rfl, _⟩ := DataW.trod_bool ht h; exact ⟨b, rfl, trivial⟩⟩
theorem opens_int {P : Program} {t : TypeId} {k : IntKind} (ht : P.underlying t = some (.int k)) (hs : P.cellsOf t = 1) : Opens P t (Kd.int k) (fun _ => True) :=
  ⟨hs, fun h => by obtain ⟨b, rfl, _⟩ := DataW.trod_int ht h; exact ⟨b, rfl, trivial⟩⟩
theorem opens_string {P : Program} {t : TypeId} (ht : P.underlying t = some .string) (hs : P.cellsOf t = 1) : Opens P t Kd.string bStr :=
  ⟨hs, fun h => by obtain ⟨b, rfl, _, hb⟩ := DataW.trod_string ht h; exact ⟨b, rfl, hb⟩⟩
theorem list_of {α : Type} (p : Nat → α → Prop) : ∀ n : Nat, (∀ i, i < n → ∃ y, p i y) → ∃ l : List α, l.length = n ∧ ∀ i y, l[i]? = some y → p i y
  | 0, _ => ⟨[], rfl, fun i y h => by simp at h⟩
  | n + 1, h => by
    obtain ⟨l, hl, hp⟩ := list_of p n (fun i hi => h i (by omega))
    obtain ⟨y, hy⟩ := h n (by omega)
    refine ⟨l ++ [y], by simp [hl], fun i z hz => ?_⟩
    rcases Nat.lt_trichotomy i n with hi | rfl | hi
    · rw [List.getElem?_append_left (by omega)] at hz
      exact hp i z hz
    · rw [List.getElem?_append_right (by omega), hl, Nat.sub_self] at hz
      simp at hz
      subst hz
      exact hy
    · rw [List.getElem?_eq_none (by simp [hl]; omega)] at hz
      simp at hz
theorem addr_add_add (a : Addr) (i j : Nat) : (a.add i).add j = a.add (i + j) := by
  unfold Addr.add
  by_cases hi : i = 0 <;> by_cases hj : j = 0 <;> simp [hi, hj, Nat.add_assoc]
theorem opens_slice {α : Type} {P : Program} {t e : TypeId} {kd : Kd α} {B : α → Prop} (ht : P.underlying t = some (.slice e)) (hs : P.cellsOf t = 1) (he : Opens P e kd B) (q : Nat) : Opens P t (Kd.slice q kd) (fun l => l.length ≤ 9223372036854775807 ∧ ∀ y ∈ l, B y) := by
  refine ⟨hs, fun {H enc w base sp held fuel cs x} h => ?_⟩
  rcases DataW.trod_slice ht h with ⟨rfl, _⟩ | ⟨a, len, cap, elems, rest, n, _, rfl, _, _, hl, hm, hlen, hel, _⟩
  · exact ⟨[], ⟨none, 0, rfl, Nat.le_refl _, rfl, by simp, fun h => absurd h (by simp)⟩, by simp, by simp⟩
  · obtain ⟨l, hll, hp⟩ := list_of (fun i y => B y ∧ ∃ c, c.length = kd.sz ∧ kd.K w y c ∧ ∀ j u, c[j]? = some u → w.cell? (a.add (i * kd.sz + j)) = some u) len (fun i hi => by
      have h1 := hel i hi
      rw [List.getElem?_eq_getElem (by omega)] at h1
      obtain ⟨cs', h2, h3⟩ := Option.bind_eq_some_iff.1 h1
      obtain ⟨y, hy, hby⟩ := he.opened h3
      obtain ⟨_, h4, h5⟩ := World.cells?_some h2
      refine ⟨y, hby, cs', by rw [h4, he.size], hy, fun j u hu => ?_⟩
      have hj : j < P.cellsOf e := by rw [← h4]; exact (List.getElem?_eq_some_iff.1 hu).1
      rw [← addr_add_add, ← he.size, h5 j hj, hu])
    subst hll
    refine ⟨l, ⟨some a, cap, rfl, hl, rfl, Nat.le_trans hl (Nat.le_trans hm (by decide)), fun _ => ⟨a, rfl, fun j p hj => (hp j p hj).2⟩⟩, Nat.le_trans hl (Nat.le_trans hm (by decide)), fun y hy => ?_⟩
    obtain ⟨i, hi, rfl⟩ := List.mem_iff_getElem.1 hy
    exact (hp i _ (List.getElem?_eq_getElem hi)).1
theorem opens_iso {α β : Type} {P : Program} {t : TypeId} {kd : Kd α} {B : α → Prop} (h : Opens P t kd B) (f : β → α) (hf : ∀ b, ∃ a, f a = b) : Opens P t (Kd.iso kd f) (fun b => B (f b)) :=
  ⟨h.size, fun hx => by obtain ⟨a, ha⟩ := h.opened hx; obtain ⟨b, rfl⟩ := hf a; exact ⟨b, ha⟩⟩
/-- The fields of a struct from the offset o on. -/
structure OpensL {α : Type} (P : Program) (fs : List Field) (o : Nat) (kd : Kd α) (B : α → Prop) : Prop where
  opened : ∀ {H : Type} {enc : TypeId × Value → H} {w : World} {base : Nat} {sp : Nat → Bool} {held : Bool} {fuel : Nat} (cs : List Value), cs.length = o + kd.sz →
    (∀ f ∈ fs, ∃ x, DataW.trod enc P w base sp held fuel f.type ((cs.drop f.offset).take (P.cellsOf f.type)) = some x) → ∃ a, kd.K w a (cs.drop o) ∧ B a
theorem opensL_one {α : Type} {P : Program} {f : Field} {o : Nat} {kd : Kd α} {B : α → Prop} (ho : f.offset = o) (h : Opens P f.type kd B) : OpensL P [f] o kd B := by
  refine ⟨fun {H enc w base sp held fuel} cs hcs hf => ?_⟩
  obtain ⟨x, hx⟩ := hf f (by simp)
  obtain ⟨a, ha, hb⟩ := h.opened hx
  rw [ho, h.size, List.take_of_length_le (by simp [hcs])] at ha
  exact ⟨a, ha, hb⟩
theorem opensL_cons {α β : Type} {P : Program} {f : Field} {fs : List Field} {o : Nat} {kd : Kd α} {kd' : Kd β} {B : α → Prop} {B' : β → Prop} (ho : f.offset = o) (h : Opens P f.type kd B) (hr : OpensL P fs (o + kd.sz) kd' B') : OpensL P (f :: fs) o (Kd.pair kd kd') (fun p => B p.1 ∧ B' p.2) := by
  refine ⟨fun {H enc w base sp held fuel} cs hcs hf => ?_⟩
  obtain ⟨x, hx⟩ := hf f (by simp)
  obtain ⟨a, ha, hba⟩ := h.opened hx
  have hcs' : cs.length = o + kd.sz + kd'.sz := by rw [hcs]; show o + (kd.sz + kd'.sz) = _; omega
  obtain ⟨b, hb, hbb⟩ := hr.opened cs hcs' (fun g hg => hf g (by simp [hg]))
  rw [ho, h.size] at ha
  refine ⟨(a, b), ⟨(cs.drop o).take kd.sz, (cs.drop (o + kd.sz)), ?_, ha, hb⟩, hba, hbb⟩
  rw [← List.drop_drop, List.take_append_drop]
theorem opens_struct {α : Type} {P : Program} {t : TypeId} {fs : List Field} {kd : Kd α} {B : α → Prop} (ht : P.underlying t = some (.struct ⟨fs⟩)) (hs : P.cellsOf t = kd.sz) (h : OpensL P fs 0 kd B) : Opens P t kd B := by
  refine ⟨hs, fun {H enc w base sp held fuel cs x} hx => ?_⟩
  obtain ⟨xs, n, _, _, hl, hlen, hf⟩ := DataW.trod_struct ht hx
  obtain ⟨a, ha, hb⟩ := h.opened (enc := enc) (w := w) (base := base) (sp := sp) (held := held) (fuel := n) cs (by rw [hl, hs]; omega) (fun f hfm => by
    obtain ⟨i, hi, rfl⟩ := List.mem_iff_getElem.1 hfm
    have h1 := hf i fs[i] (by simp [hi])
    exact ⟨xs[i]'(by rw [hlen]; simpa using hi), by rw [h1, List.getElem?_eq_getElem]⟩)
  exact ⟨a, by simpa using ha, hb⟩
theorem opens_isoL {α β : Type} {P : Program} {fs : List Field} {o : Nat} {kd : Kd α} {B : α → Prop} (h : OpensL P fs o kd B) (f : β → α) (hf : ∀ b, ∃ a, f a = b) : OpensL P fs o (Kd.iso kd f) (fun b => B (f b)) := by
  refine ⟨fun {H enc w base sp held fuel} cs hcs hx => ?_⟩
  obtain ⟨a, ha⟩ := h.opened cs hcs hx
  obtain ⟨b, rfl⟩ := hf a
  exact ⟨b, ha⟩
/-- an argument's value, opened -/
theorem Opens.argB {α : Type} {P : Program} {t : TypeId} {kd : Kd α} {B : α → Prop} (h : Opens P t kd B) {H : Type} {enc : TypeId × Value → H} {w : World} {base : Nat} {sp : Nat → Bool} {held : Bool} {v : Value} {d : DataW H} {ps : List MemPlace}
    (hv : DataW.Trod enc P w base sp held t v d ps) : ∃ a, kd.K w a v.cells.toList ∧ B a := by
  obtain ⟨fuel, hf⟩ := hv
  exact h.opened hf
theorem Opens.arg {α : Type} {P : Program} {t : TypeId} {kd : Kd α} {B : α → Prop} (h : Opens P t kd B) {H : Type} {enc : TypeId × Value → H} {w : World} {base : Nat} {sp : Nat → Bool} {held : Bool} {v : Value} {d : DataW H} {ps : List MemPlace}
    (hv : DataW.Trod enc P w base sp held t v d ps) : ∃ a, kd.K w a v.cells.toList := by
  obtain ⟨a, ha, _⟩ := h.argB hv
  exact ⟨a, ha⟩
/-- An argument's row is no longer than its weight allows. -/
theorem sized_row {H : Type} {enc : TypeId × Value → H} {P : Program} {W : World} {base : Nat} {spare : Nat → Bool} {held : Bool} {t e : TypeId} {a : Option Addr} {len cap : Nat} {d : DataW H} {ps : List MemPlace} {ts : List TypeId} {ds : List (DataW H)} {j : Nat}
    (hsz : (DataW.weightsEach P ts ds).all (· ≤ reachBytes) = true) (ht : ts[j]? = some t) (hd : ds[j]? = some d) (hu : P.underlying t = some (.slice e)) {B : Nat} (hB : P.bytesOf e = B)
    (h : DataW.Trod enc P W base spare held t (.slice a len cap) d ps) : len * B ≤ 140737488351232 := by
  obtain ⟨fuel, hf⟩ := h
  rcases DataW.trod_slice hu hf with ⟨hcs, _⟩ | ⟨x, l, c, elems, rest, n, _, hcs, hx, _, hl, _, hlen, _⟩
  · simp [Value.cells] at hcs
    obtain ⟨rfl, rfl, rfl⟩ := hcs
    simp
  · simp [Value.cells] at hcs
    obtain ⟨rfl, rfl, rfl⟩ := hcs
    obtain ⟨rfl, _⟩ := Prod.mk.inj hx
    have z := sized_slice hsz ht hd hu
    rw [hB, List.length_map, List.length_map, hlen] at z
    exact Nat.le_trans (Nat.mul_le_mul_right _ (Nat.le_add_right _ _)) z
def bVal (x : Val) : Prop := True ∧ bStr (x.sym) ∧ True
theorem opens_Val : Opens Try.prog 43 k43 bVal :=
  Opens.as (opens_struct Try.underlying43 (by kernel_rfl) (opens_isoL (opensL_cons rfl (opens_bool (by kernel_rfl) (by kernel_rfl)) (opensL_cons rfl (opens_string (by kernel_rfl) (by kernel_rfl)) (opensL_one rfl (opens_int (by kernel_rfl) (by kernel_rfl))))) _ (fun b => ⟨⟨b.1, b.2.1, b.2.2⟩, rfl⟩))) (fun _ h => h)
def bTerm (x : Term) : Prop := True ∧ bStr (x.name) ∧ bVal (x.val)
theorem opens_Term : Opens Try.prog 45 k45 bTerm :=
  Opens.as (opens_struct Try.underlying45 (by kernel_rfl) (opens_isoL (opensL_cons rfl (opens_bool (by kernel_rfl) (by kernel_rfl)) (opensL_cons rfl (opens_string (by kernel_rfl) (by kernel_rfl)) (opensL_one rfl opens_Val))) _ (fun b => ⟨⟨b.1, b.2.1, b.2.2⟩, rfl⟩))) (fun _ h => h)
def bAtom (x : Atom) : Prop := bStr (x.pred) ∧ (x.args.length ≤ 9223372036854775807 ∧ ∀ y ∈ x.args, bTerm (y))
theorem opens_Atom : Opens Try.prog 24 k24 bAtom :=
  Opens.as (opens_struct Try.underlying24 (by kernel_rfl) (opens_isoL (opensL_cons rfl (opens_string (by kernel_rfl) (by kernel_rfl)) (opensL_one rfl (opens_slice (by kernel_rfl) (by kernel_rfl) opens_Term 45))) _ (fun b => ⟨⟨b.1, b.2⟩, rfl⟩))) (fun _ h => h)
def bLiter (x : Liter) : Prop := True ∧ bAtom (x.atom) ∧ bStr (x.op) ∧ bTerm (x.l) ∧ bTerm (x.r)
theorem opens_Liter : Opens Try.prog 47 k47 bLiter :=
  Opens.as (opens_struct Try.underlying47 (by kernel_rfl) (opens_isoL (opensL_cons rfl (opens_int (by kernel_rfl) (by kernel_rfl)) (opensL_cons rfl opens_Atom (opensL_cons rfl (opens_string (by kernel_rfl) (by kernel_rfl)) (opensL_cons rfl opens_Term (opensL_one rfl opens_Term))))) _ (fun b => ⟨⟨b.1, b.2.1, b.2.2.1, b.2.2.2.1, b.2.2.2.2⟩, rfl⟩))) (fun _ h => h)
def bRule (x : Rule) : Prop := bAtom (x.head) ∧ (x.body.length ≤ 9223372036854775807 ∧ ∀ y ∈ x.body, bLiter (y))
theorem opens_Rule : Opens Try.prog 27 k27 bRule :=
  Opens.as (opens_struct Try.underlying27 (by kernel_rfl) (opens_isoL (opensL_cons rfl opens_Atom (opensL_one rfl (opens_slice (by kernel_rfl) (by kernel_rfl) opens_Liter 47))) _ (fun b => ⟨⟨b.1, b.2⟩, rfl⟩))) (fun _ h => h)
def bDecl (x : Decl) : Prop := bStr (x.pred) ∧ True
theorem opens_Decl : Opens Try.prog 137 k137 bDecl :=
  Opens.as (opens_struct Try.underlying137 (by kernel_rfl) (opens_isoL (opensL_cons rfl (opens_string (by kernel_rfl) (by kernel_rfl)) (opensL_one rfl (opens_int (by kernel_rfl) (by kernel_rfl)))) _ (fun b => ⟨⟨b.1, b.2⟩, rfl⟩))) (fun _ h => h)
def bProg (x : Prog) : Prop := (x.decls.length ≤ 9223372036854775807 ∧ ∀ y ∈ x.decls, bDecl (y)) ∧ (x.rules.length ≤ 9223372036854775807 ∧ ∀ y ∈ x.rules, bRule (y))
theorem opens_Prog : Opens Try.prog 66 k66 bProg :=
  Opens.as (opens_struct Try.underlying66 (by kernel_rfl) (opens_isoL (opensL_cons rfl (opens_slice (by kernel_rfl) (by kernel_rfl) opens_Decl 137) (opensL_one rfl (opens_slice (by kernel_rfl) (by kernel_rfl) opens_Rule 27))) _ (fun b => ⟨⟨b.1, b.2⟩, rfl⟩))) (fun _ h => h)
end Go.Proofs.Ythpejcnldecmoaa.H
/- SafeTells: what any rule binds, which variable isn't first, and which rule of any program, is as the document says. Conditions: the statement's own. -/
namespace Go.Proofs.Ythpejcnldecmoaa.H
open Go.RowKit Go.Proofs.YthpejcnldecmoaaW.PrintWords
set_option linter.unusedVariables false
set_option linter.unusedSimpArgs false
set_option linter.unusedSectionVars false
def notIn (b : List ByteArray) (s : ByteArray) : Bool := !mem s b
def firstT (b : List ByteArray) : List Term → Option ByteArray
  | [] => none
  | t :: l => if t.isVar && notIn b t.name then some t.name else firstT b l
theorem find_names (b : List ByteArray) : ∀ (l : List Term) (acc : List ByteArray), (namesGo acc l).find? (notIn b) = (acc.find? (notIn b)).or (firstT b l)
  | [], acc => by simp [namesGo, firstT]
  | t :: l, acc => by
    unfold namesGo firstT
    by_cases hv : t.isVar = true
    · by_cases hm : t.name ∈ acc
      · rw [if_neg (by rw [mem_iff.2 hm]; simp), find_names b l acc]
        by_cases hn : notIn b t.name = true
        · have : (acc.find? (notIn b)).isSome = true := by
            rw [List.find?_isSome]; exact ⟨t.name, hm, hn⟩
          obtain ⟨x, hx⟩ := Option.isSome_iff_exists.1 this
          rw [hx]; simp
        · rw [if_neg (by simp [hv, hn])]
      · have hmf : mem t.name acc = false := by rw [← Bool.not_eq_true, mem_iff]; exact hm
        rw [if_pos (by simp [hv, hmf]), find_names b l _, List.find?_append]
        by_cases hn : notIn b t.name = true
        · rw [if_pos (by simp [hv, hn])]
          simp [hn]
        · rw [if_neg (by simp [hv, hn])]
          simp [hn]
    · rw [if_neg (by simp [hv]), if_neg (by simp [hv]), find_names b l acc]
theorem idx_find {p : ByteArray → Bool} : ∀ (l : List ByteArray) (i : Nat), match l.find? p with
    | none => idxP p l i < 0
    | some s => ∃ k : Nat, idxP p l i = ((i + k : Nat) : Int) ∧ l[k]? = some s
  | [], i => by simp [idxP]
  | x :: l, i => by
    unfold idxP
    by_cases h : p x = true
    · rw [List.find?_cons_of_pos h, if_pos h]
      exact ⟨0, rfl, rfl⟩
    · rw [List.find?_cons_of_neg h, if_neg h]
      have := idx_find (p := p) l (i + 1)
      revert this
      cases l.find? p with
      | none => exact id
      | some s =>
        rintro ⟨k, h1, h2⟩
        exact ⟨k + 1, by rw [h1]; congr 1; omega, by simpa using h2⟩
/-- what is told, out of the first loose ones -/
def tell : Int → List (Option ByteArray) → ByteArray × Int × Int
  | _, [] => ((⟨#[]⟩ : ByteArray), 0, 0)
  | i, some s :: _ => (s, i, 6)
  | i, none :: r => tell (i + 1) r
theorem chk_tell (b : List ByteArray) : ∀ (us : List (List ByteArray)) (i : Nat), i + us.length ≤ 100000 → chk b i us = tell ((i : Int) - 1) (us.map fun u => u.find? (notIn b))
  | [], i, _ => rfl
  | u :: us, i, h => by
    rw [chk, List.map_cons]
    have hi := idx_find (p := notIn b) u 0
    have hw : wrap64 ((-1) + (i : Int)) = (i : Int) - 1 := by simp at h; unfold wrap64; omega
    change (if idxP (notIn b) u 0 ≥ 0 then (rdOf ByteArray.empty u (idxP (notIn b) u 0), wrap64 ((-1) + (i : Int)), 6) else chk b (i + 1) us) = _
    revert hi
    cases u.find? (notIn b) with
    | none =>
      intro hi
      have hi' : idxP (notIn b) u 0 < 0 := hi
      rw [if_neg (by omega), chk_tell b us (i + 1) (by simp at h; omega)]
      show _ = tell ((i : Int) - 1 + 1) _
      congr 1
      omega
    | some s =>
      rintro ⟨k, h1, h2⟩
      rw [h1, if_pos (by omega), hw, Nat.zero_add]
      show (_, _, _) = (s, (i : Int) - 1, (6 : Int))
      rw [show rdOf ByteArray.empty u ((k : Nat) : Int) = s from getD_at h2 _]
def firstL (b : List ByteArray) (y : Liter) : Option ByteArray := if y.kind = 2 then firstT b y.atom.args else if y.kind = 3 then firstT b [y.l, y.r] else none
theorem find_used (b : List ByteArray) (y : Liter) : (usedS y).find? (notIn b) = firstL b y := by
  unfold usedS firstL
  split
  · simpa [names] using find_names b y.atom.args []
  · split
    · simpa [names] using find_names b [y.l, y.r] []
    · rfl
theorem chkS_tell (hd : List Term) (body : List Liter) (hb : body.length ≤ 1000) : chkS hd body = tell (-1) (firstT (boundS body) hd :: body.map (firstL (boundS body))) := by
  unfold chkS
  rw [chk_tell _ _ 0 (by simp; omega), List.map_cons, List.map_map]
  congr 2
  · simpa [names] using find_names (boundS body) hd []
  · refine List.map_congr_left fun y _ => ?_
    exact find_used (boundS body) y
section
variable (p : ByteArray) (hd : List Term) (body : List Liter) (hb : body.length ≤ 30) (ha : ∀ y ∈ body, y.atom.args.length ≤ 30)
include hb ha
theorem loose_l0 (l : List Term) (hl : l.length ≤ 1000000) : ∀ (r : List Term) (n : Nat), l.drop n = r → Ev (fun k => lambrequinref09_loose.l0 k l n p hd body) (match firstT (boundS body) r with | some s => (s, true) | none => ((⟨#[]⟩ : ByteArray), false))
  | [], n, h => by
    refine Ev.step (fun k => by rw [lambrequinref09_loose.l0]) ?_
    exact Ev.neg (drop_end h) (Ev.now _)
  | y :: r, n, h => by
    obtain ⟨h1, h2, h3, h4, h5⟩ := drop_more h (by omega)
    have ih := loose_l0 l hl r (n + 1) h4
    refine Ev.step (fun k => by rw [lambrequinref09_loose.l0]) ?_
    refine Ev.pos h1 (Ev.pos h2 ?_)
    rw [show rd_T45 l n = y from h3 _, h5]
    unfold firstT
    by_cases hv : y.isVar = true
    · refine Ev.pos hv (Ev.bind (Binds_ev p hd body y.name (by omega) (fun z hz => by have := ha z hz; omega)) ?_)
      by_cases hm : y.name ∈ boundS body
      · rw [bindsB_iff.2 hm, if_neg (by simp [notIn, mem_iff.2 hm])]
        exact Ev.pos rfl ih
      · have hbf : bindsB body y.name = false := by rw [← Bool.not_eq_true, bindsB_iff]; exact hm
        have hmf : mem y.name (boundS body) = false := by rw [← Bool.not_eq_true, mem_iff]; exact hm
        rw [hbf, if_pos (by simp [hv, notIn, hmf])]
        exact Ev.neg (by simp) (Ev.now _)
    · rw [if_neg (by simp [hv])]
      exact Ev.neg hv ih
theorem rCheck_l0 : ∀ (r : List Liter) (n : Nat), body.drop n = r → Ev (fun k => lambrequinref09_Check.l0 k n p hd body) (tell (n : Int) (r.map (firstL (boundS body))))
  | [], n, h => by
    refine Ev.step (fun k => by rw [lambrequinref09_Check.l0]) ?_
    exact Ev.neg (drop_end h) (Ev.now _)
  | y :: r, n, h => by
    obtain ⟨h1, h2, h3, h4, h5⟩ := drop_more h (by omega)
    have hy : y ∈ body := by
      have : y ∈ body.drop n := by rw [h]; simp
      exact List.mem_of_mem_drop this
    have hya := ha y hy
    have ih := rCheck_l0 r (n + 1) h4
    refine Ev.step (fun k => by rw [lambrequinref09_Check.l0]) ?_
    refine Ev.pos h1 (Ev.pos h2 ?_)
    rw [show rd_T47 body n = y from h3 _, h5, List.map_cons]
    have next : firstL (boundS body) y = none → tell (n : Int) (firstL (boundS body) y :: r.map (firstL (boundS body))) = tell ((n + 1 : Nat) : Int) (r.map (firstL (boundS body))) := by
      intro e; rw [e]; rfl
    by_cases k2 : y.kind = 2
    · have e : firstL (boundS body) y = firstT (boundS body) y.atom.args := by unfold firstL; rw [if_pos k2]
      have hq := loose_l0 p hd body hb ha y.atom.args (by omega) y.atom.args 0 rfl
      refine Ev.pos k2 ?_
      cases hf : firstT (boundS body) y.atom.args with
      | none =>
        rw [hf] at hq
        exact Ev.bind hq (Ev.neg (by simp) (Ev.iff ih (next (e.trans hf)).symm))
      | some s =>
        rw [hf] at hq
        exact Ev.bind hq (Ev.pos rfl (Ev.some (by rw [e, hf]; rfl)))
    · refine Ev.neg k2 ?_
      by_cases k3 : y.kind = 3
      · have e : firstL (boundS body) y = firstT (boundS body) [y.l, y.r] := by unfold firstL; rw [if_neg k2, if_pos k3]
        have hq := loose_l0 p hd body hb ha [y.l, y.r] (by simp) [y.l, y.r] 0 rfl
        refine Ev.pos k3 ?_
        cases hf : firstT (boundS body) [y.l, y.r] with
        | none =>
          rw [hf] at hq
          exact Ev.bind hq (Ev.neg (by simp) (Ev.iff ih (next (e.trans hf)).symm))
        | some s =>
          rw [hf] at hq
          exact Ev.bind hq (Ev.pos rfl (Ev.some (by rw [e, hf]; rfl)))
      · have e : firstL (boundS body) y = none := by unfold firstL; rw [if_neg k2, if_neg k3]
        exact Ev.neg k3 (Ev.iff ih (next e).symm)
theorem rCheck_ev (hh : hd.length ≤ 30) : Ev (fun k => lambrequinref09_Check.f k p hd body) (chkS hd body) := by
  rw [chkS_tell hd body (by omega)]
  have hq := loose_l0 p hd body hb ha hd (by omega) hd 0 rfl
  unfold lambrequinref09_Check.f
  cases hf : firstT (boundS body) hd with
  | none =>
    rw [hf] at hq
    exact Ev.bind hq (Ev.neg (by simp) (Ev.iff (rCheck_l0 p hd body hb ha body 0 rfl) rfl))
  | some s =>
    rw [hf] at hq
    exact Ev.bind hq (Ev.pos rfl (Ev.now _))
theorem rBound_l0 : ∀ (r : List Liter) (n : Nat) (acc : List ByteArray), body.drop n = r → n ≤ body.length → acc.length ≤ n * 30 → Ev (fun k => lambrequinref09_Bound.l0 k acc n p hd body) (setS (acc ++ boundL r))
  | [], n, acc, h, hn, hc => by
    refine Ev.step (fun k => by rw [lambrequinref09_Bound.l0]) ?_
    exact Ev.neg (drop_end h) (Ev.bind (Sorted_ev acc (by omega)) (Ev.some (by simp [boundL])))
  | y :: r, n, acc, h, hn, hc => by
    obtain ⟨h1, h2, h3, h4, h5⟩ := drop_more h (by omega)
    have hy : y ∈ body := by
      have : y ∈ body.drop n := by rw [h]; simp
      exact List.mem_of_mem_drop this
    have hya := ha y hy
    have hnl := names_len y.atom.args
    have h2n : n + 1 ≤ body.length := by omega
    have hac : (acc ++ names y.atom.args).length ≤ (n + 1) * 30 := by rw [List.length_append]; omega
    have hac2 : acc.length ≤ (n + 1) * 30 := by omega
    refine Ev.step (fun k => by rw [lambrequinref09_Bound.l0]) ?_
    refine Ev.pos h1 (Ev.pos h2 ?_)
    rw [show rd_T47 body n = y from h3 _, h5]
    by_cases hk : y.kind = 1
    · refine Ev.pos hk (Ev.bind (Vars_ev _ _ (by omega)) (Ev.pos (by omega) ?_))
      refine Ev.iff (rBound_l0 r (n + 1) (acc ++ names y.atom.args) h4 h2n hac) ?_
      rw [boundL_cons, if_pos hk, List.append_assoc]
    · exact Ev.neg hk (Ev.iff (rBound_l0 r (n + 1) acc h4 h2n hac2) (by rw [boundL_cons, if_neg hk, List.nil_append]))
theorem rBound_ev : Ev (fun k => lambrequinref09_Bound.f k p hd body) (boundS body) := rBound_l0 p hd body hb ha body 0 [] rfl (by omega) (by simp)
end
def allGo : Nat → List Rule → Int × ByteArray × Int × Int
  | _, [] => (0, (⟨#[]⟩ : ByteArray), 0, 0)
  | i, g :: r => if (chkS g.head.args g.body).2.2 = 0 then allGo (i + 1) r else ((i : Int), (chkS g.head.args g.body).1, (chkS g.head.args g.body).2.1, (chkS g.head.args g.body).2.2)
section
variable (ds : List Decl) (l : List Rule) (hl : l.length ≤ 50) (hf : ∀ g ∈ l, few30 g.head.args g.body = true)
include hl hf
theorem sAll_l0 : ∀ (r : List Rule) (n : Nat), l.drop n = r → Ev (fun k => safe_All.l0 k l (l.length : Int) n) (allGo n r)
  | [], n, h => by
    refine Ev.step (fun k => by rw [safe_All.l0]) ?_
    exact Ev.neg (drop_end h) (Ev.now _)
  | y :: r, n, h => by
    obtain ⟨h1, h2, h3, h4, h5⟩ := drop_more h (by omega)
    have hy : y ∈ l := by
      have : y ∈ l.drop n := by rw [h]; simp
      exact List.mem_of_mem_drop this
    obtain ⟨g1, g2, g3⟩ := few30_iff.1 (hf y hy)
    refine Ev.step (fun k => by rw [safe_All.l0]) ?_
    refine Ev.pos h1 (Ev.pos h2 (Ev.pos h1 ?_))
    rw [show rd_T27 l n = y from h3 _, h5]
    refine Ev.bind (Check_ev _ _ _ (by omega) (by omega) (fun z hz => by have := g3 z hz; omega)) ?_
    by_cases c : (chkS y.head.args y.body).2.2 = 0
    · exact Ev.iff (Ev.pos c (sAll_l0 r (n + 1) h4)) (by rw [allGo, if_pos c])
    · exact Ev.iff (Ev.neg c (Ev.now _)) (by rw [allGo, if_neg c])
theorem rAll_l0 : ∀ (r : List Rule) (n : Nat), l.drop n = r → Ev (fun k => lambrequinref09_All.l0 k n ds l) (allGo n r)
  | [], n, h => by
    refine Ev.step (fun k => by rw [lambrequinref09_All.l0]) ?_
    exact Ev.neg (drop_end h) (Ev.now _)
  | y :: r, n, h => by
    obtain ⟨h1, h2, h3, h4, h5⟩ := drop_more h (by omega)
    have hy : y ∈ l := by
      have : y ∈ l.drop n := by rw [h]; simp
      exact List.mem_of_mem_drop this
    obtain ⟨g1, g2, g3⟩ := few30_iff.1 (hf y hy)
    refine Ev.step (fun k => by rw [lambrequinref09_All.l0]) ?_
    refine Ev.pos h1 (Ev.pos h2 ?_)
    rw [show rd_T27 l n = y from h3 _, h5]
    refine Ev.bind (rCheck_ev y.head.pred y.head.args y.body g1 g3 g2) ?_
    by_cases c : (chkS y.head.args y.body).2.2 = 0
    · exact Ev.iff (Ev.pos c (rAll_l0 r (n + 1) h4)) (by rw [allGo, if_pos c])
    · exact Ev.iff (Ev.neg c (Ev.now _)) (by rw [allGo, if_neg c])
end
theorem Tells_l0 (p : ByteArray) (hd : List Term) (body : List Liter) (ds : List Decl) (l : List Rule) (hb : body.length ≤ 30) (hh : hd.length ≤ 30) (ha : ∀ y ∈ body, y.atom.args.length ≤ 30) (hl : l.length ≤ 50) (hbo : ∀ g ∈ l, g.body.length ≤ 9223372036854775807) : ∀ (r : List Rule) (n : Nat), l.drop n = r → (∀ g ∈ l.take n, few30 g.head.args g.body = true) →
    Ev (fun k => lambrequinlaw09_SafeTells.l0 k true n p hd body ds l) true
  | [], n, h, hf => by
    have hz : l.length ≤ n := by
      have := congrArg List.length h
      simp at this
      omega
    rw [List.take_of_length_le hz] at hf
    have ha0 : ∀ y ∈ body, y.atom.args.length ≤ 1000 := fun y hy => by have := ha y hy; omega
    refine Ev.step (fun k => by rw [lambrequinlaw09_SafeTells.l0]) ?_
    refine Ev.neg (drop_end h) (Ev.bind (Check_ev p hd body (by omega) (by omega) ha0) (Ev.bind (rCheck_ev p hd body hb ha hh) ?_))
    refine Ev.bind (sAll_l0 l hl hf l 0 rfl) (Ev.bind (rAll_l0 ds l hl hf l 0 rfl) ?_)
    refine Ev.step (fun k => by rw [lambrequinlaw09_SafeTells.j3]) ?_
    refine Ev.pos rfl (Ev.pos rfl (Ev.pos rfl (Ev.pos rfl (Ev.pos rfl (Ev.pos rfl (Ev.pos rfl (Ev.pos rfl ?_)))))))
    have hnl := names_len hd
    refine Ev.bind (sVars_ev p hd (by omega)) (Ev.bind (Vars_ev p hd (by omega)) (Ev.bind (Same_ev _ _ (by omega)) ?_))
    refine Ev.pos (by simp) (Ev.bind (Bound_ev p hd body (by omega) ha0) (Ev.bind (rBound_ev p hd body hb ha) (Ev.bind (Same_ev _ _ (by have := boundS_len (body := body) (by omega) ha0; omega)) (Ev.some (by simp)))))
  | y :: r, n, h, hf => by
    obtain ⟨h1, h2, h3, h4, h5⟩ := drop_more h (by omega)
    have hy : l[n]? = some y := by
      have := congrArg (fun z => z[0]?) h
      simpa using this
    refine Ev.step (fun k => by rw [lambrequinlaw09_SafeTells.l0]) ?_
    refine Ev.pos h1 (Ev.pos h2 ?_)
    rw [show rd_T27 l n = y from h3 _, h5]
    refine Ev.bind (few30_ev _ _ _ (hbo y (List.mem_of_getElem? hy))) ?_
    cases c : few30 y.head.args y.body with
    | false => exact Ev.neg (by simp) (Ev.now _)
    | true =>
      refine Ev.pos rfl (Tells_l0 p hd body ds l hb hh ha hl hbo r (n + 1) h4 fun g hg => ?_)
      rw [List.take_add_one, hy] at hg
      rcases List.mem_append.1 hg with hg | hg
      · exact hf g hg
      · simp at hg; rw [hg]; exact c
theorem SafeTells_pure (x0 : Rule) (n1 : x0.head.args.length ≤ 9223372036854775807) (n2 : x0.body.length ≤ 9223372036854775807) (x1 : Prog) (m1 : x1.decls.length ≤ 9223372036854775807) (m2 : x1.rules.length ≤ 9223372036854775807) (b1 : bProg x1) :
    ∃ k, lambrequinlaw09_SafeTells.f k x0.head.pred x0.head.args x0.body x1.decls x1.rules = some true := by
  refine Ev.rounds (g := fun k => lambrequinlaw09_SafeTells.f k x0.head.pred x0.head.args x0.body x1.decls x1.rules) ?_
  unfold lambrequinlaw09_SafeTells.f
  refine Ev.pure (a := true) rfl ?_
  have up : Ev (fun k => lambrequinlaw09_SafeTells.j1 k true true x0.head.pred x0.head.args x0.body x1.decls x1.rules) true := by
    refine Ev.step (fun k => by rw [lambrequinlaw09_SafeTells.j1]) ?_
    exact Ev.pos rfl (Ev.now _)
  refine Ev.step (fun k => by rw [lambrequinlaw09_SafeTells.j0]) ?_
  by_cases c : (x1.rules.length : Int) > 50
  · exact Ev.pos c up
  · refine Ev.neg c (Ev.bind (few30_ev _ _ _ n2) ?_)
    cases hf : few30 x0.head.args x0.body with
    | false => exact up
    | true =>
      obtain ⟨hb, hh, ha⟩ := few30_iff.1 hf
      refine Ev.step (fun k => by rw [lambrequinlaw09_SafeTells.j1]) ?_
      refine Ev.neg (by simp) ?_
      exact Tells_l0 x0.head.pred x0.head.args x0.body x1.decls x1.rules hb hh ha (by omega) (fun g hg => (b1.2.2 g hg).2.1) x1.rules 0 rfl (by simp)
theorem SafeTells_walk (w : World) (x0 : Rule) (A0_1 : Option Addr) (c0_1 : Nat) (l0_1 : x0.head.args.length ≤ c0_1) (g0_1 : Kd.C k45 w A0_1 x0.head.args.length x0.head.args) (A0_2 : Option Addr) (c0_2 : Nat) (l0_2 : x0.body.length ≤ c0_2) (g0_2 : Kd.C k47 w A0_2 x0.body.length x0.body) (x1 : Prog) (A1_0 : Option Addr) (c1_0 : Nat) (l1_0 : x1.decls.length ≤ c1_0) (g1_0 : Kd.C k137 w A1_0 x1.decls.length x1.decls) (A1_1 : Option Addr) (c1_1 : Nat) (l1_1 : x1.rules.length ≤ c1_1) (g1_1 : Kd.C k27 w A1_1 x1.rules.length x1.rules) (b1 : bProg x1) :
    Calls Try.prog 13 #[.agg #[.string x0.head.pred, .slice A0_1 x0.head.args.length c0_1, .slice A0_2 x0.body.length c0_2], .agg #[.slice A1_0 x1.decls.length c1_0, .slice A1_1 x1.rules.length c1_1]] w fun e w' => e = .returned (.bool true) ∧ Below w.heap.size w w' := by
  obtain ⟨k, h⟩ := SafeTells_pure x0 g0_1.2.1 g0_2.2.1 x1 g1_0.2.1 g1_1.2.1 b1
  exact (lambrequinlaw09_SafeTells.calls k x0.head.pred A0_1 c0_1 x0.head.args A0_2 c0_2 x0.body A1_0 c1_0 x1.decls A1_1 c1_1 x1.rules true w g0_1 l0_1 g0_2 l0_2 g1_0 l1_0 g1_1 l1_1 h).mono (fun e w' h' => ⟨h'.1, h'.2⟩)
end Go.Proofs.Ythpejcnldecmoaa.H
namespace Go.Proofs.Ythpejcnldecmoaa.safeTells
open Go.ChangeShapes Go.WideShapes Go.ChangeAt Go.RowKit Go.Proofs.Ythpejcnldecmoaa.H Go.Proofs.YthpejcnldecmoaaW.PrintWords
open Go.ChangeMaps (open_string shut_string)
set_option linter.unusedVariables false
theorem own : ownKnob Try.prog.godebug = none := by kernel_rfl
theorem laidOut : laidOutB Try.prog = true := by kernel_rfl
set_option maxRecDepth 100000 in
theorem lifted (os : Os) (started : os.Started) (H : Type) (enc : TypeId × Value → H) :
    ReturnsInHanded {} Try.checked os 13 .any (Rows.safeTellsSpec.pre6 enc Try.prog Try.f13 Rows.safeTellsRow.domain false) (Rows.safeTellsSpec.post enc Try.prog Try.f13 false true false false) := by
  refine returnsInHanded_of_change_sized (C := Try.checked) own started (by kernel_rfl) Try.func13
    (ChangeSpec.witness6 (enc := enc) (C := Try.checked) false ⟨#[], #[.agg #[.string ⟨#[]⟩, .slice none 0 0, .slice none 0 0], .agg #[.slice none 0 0, .slice none 0 0]], []⟩ 8 (by kernel_rfl) (by kernel_rfl) (by kernel_rfl) (by kernel_rfl)) ?_
  intro W base args ds gs before hval0 hW hcnd hsz0 _
  have hsz : (DataW.weightsEach Try.prog (Try.f13.params.toList ++ Rows.safeTellsSpec.plain.varTypes Try.prog) (ds ++ gs)).all (· ≤ reachBytes) = true := hsz0
  have hval : ∀ (j : Nat) t v, Try.f13.params[j]? = some t → args[j]? = some v → Value.okWide Try.prog W .any base t v := hval0
  have hW' := hW
  obtain ⟨p, q, hA0, hV, rfl, hfz, hnd⟩ := hW
  have hA : DataW.TrodAll enc Try.prog W 0 (fun _ => true) true Try.f13.params.toList args.toList ds p := hA0
  rw [Try.params13] at hA hval hsz
  obtain ⟨v0, vs0, d0, ds0, p0, q0, hargs, rfl, rfl, h0, r0⟩ := trodAll_cons hA
  obtain ⟨v1, vs1, d1, ds1, p1, q1, rfl, rfl, rfl, h1, r1⟩ := trodAll_cons r0
  obtain ⟨rfl, rfl, rfl⟩ := trodAll_nil r1
  obtain rfl : args = #[v0, v1] := by cases args; simp_all
  obtain ⟨rfl, rfl⟩ := trodVars_none hV
  have k0 := h0
  have lt0 : ∀ x ∈ p0, x.block < W.heap.size := by obtain ⟨m, hm⟩ := k0; exact DataW.trod_lt m _ _ _ hm
  obtain ⟨cs0, rfl, -⟩ := okWide_struct Try.underlying27 (hval 0 27 v0 rfl rfl)
  obtain ⟨x0, g0⟩ := opens_Rule.arg k0
  obtain ⟨A0_1, c0_1, A0_2, c0_2, e0, l0_1, g0_1, l0_2, g0_2⟩ := k27_open g0
  obtain ⟨cl0⟩ := cs0
  obtain rfl : cl0 = _ := e0
  have k1 := h1
  have lt1 : ∀ x ∈ p1, x.block < W.heap.size := by obtain ⟨m, hm⟩ := k1; exact DataW.trod_lt m _ _ _ hm
  obtain ⟨cs1, rfl, -⟩ := okWide_struct Try.underlying66 (hval 1 66 v1 rfl rfl)
  obtain ⟨x1, g1, b1⟩ := opens_Prog.argB k1
  obtain ⟨A1_0, c1_0, A1_1, c1_1, e1, l1_0, g1_0, l1_1, g1_1⟩ := k66_open g1
  obtain ⟨cl1⟩ := cs1
  obtain rfl : cl1 = _ := e1
  clear hA0 hval0 hsz0 hsz
  refine (SafeTells_walk W x0 A0_1 c0_1 l0_1 g0_1 A0_2 c0_2 l0_2 g0_2 x1 A1_0 c1_0 l1_0 g1_0 A1_1 c1_1 l1_1 g1_1 b1).mono fun e W' ⟨he, bel⟩ => ?_
  subst he
  exact ⟨_, rfl, _, _, _, [], _, [], hW', trodAll_mk1 (shut_bool Try.underlying4 _), (trodAll_cons_mk (Below.trod laidOut (by kernel_rfl) (of_decide_eq_true (by kernel_rfl)) k0 bel lt0) (trodAll_cons_mk (Below.trod laidOut (by kernel_rfl) (of_decide_eq_true (by kernel_rfl)) k1 bel lt1) trodAll_mk0)), rfl, bel.frame _, fun h => by cases h⟩
theorem over : Rows.safeTellsRow.holds Try.pinned (OpenSpec.ofChange Rows.safeTellsSpec) :=
  OpenClaim.holds_of_wide 13 Try.f13 rfl rfl rfl rfl rfl rfl rfl ⟨rfl, rfl, rfl, rfl, rfl⟩ rfl rfl rfl rfl rfl (by kernel_rfl) Try.func13 (by kernel_rfl)
    (of_decide_eq_true (by kernel_rfl)) (by unfold Func.isWrapper; first | (rw [if_pos (by decide +kernel)]; kernel_rfl) | (rw [if_neg (by decide +kernel)]; exact ⟨rfl, rfl⟩))
    (fun os started H enc _ => lifted os started H enc)
theorem proved : Rows.SafeTellsSaid := over
end Go.Proofs.Ythpejcnldecmoaa.safeTells
namespace Go.Proofs.Ythpejcnldecmoaa
theorem safeTells_holds : Rows.SafeTellsSaid := safeTells.proved
#print axioms safeTells_holds
end Go.Proofs.Ythpejcnldecmoaa