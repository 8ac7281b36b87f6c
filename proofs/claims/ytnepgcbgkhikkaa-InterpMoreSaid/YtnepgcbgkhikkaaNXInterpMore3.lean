/- RowInterpMore of the seat's law InterpMore: the law holds, under the statement's own conditions. -/
import Derived.Test.YtnepgcbgkhikkaaNXInterpMore
import Derived.OpenShut
import Derived.SizedLaws
import Derived.DataReads
import Derived.Test.YtnepgcbgkhikkaaNXInterpMore1
import Derived.Test.YtnepgcbgkhikkaaNXInterpMore2
import Derived.Test.YtnepgcbgkhikkaaRows
import Derived.Test.YtnepgcbgkhikkaaNW
import Derived.WalkKit
import Derived.ProofKit
import Derived.ShutString
import Derived.ChangeOld
import Derived.Below
import Derived.Carry
namespace Go.Proofs.Ytnepgcbgkhikkaa.H
open Go.RowKit Go.Proofs.YtnepgcbgkhikkaaW.PrintWords
set_option linter.unusedVariables false
/-- no longer than the model's longest text -/
def bStr (s : ByteArray) : Prop := s.size ≤ 9223372036854775807
/-- What an argument of a type holds, read as the kind kd; B: how long its texts are. -/
structure Opens {α : Type} (P : Program) (t : TypeId) (kd : Kd α) (B : α → Prop) : Prop where
  size : P.cellsOf t = kd.sz
  opened : ∀ {H : Type} {enc : TypeId × Value → H} {w : World} {base : Nat} {sp : Nat → Bool} {held : Bool} {fuel : Nat} {cs : List Value} {x : DataW H × List MemPlace},
    DataW.trod enc P w base sp held fuel t cs = some x → ∃ a, kd.K w a cs ∧ B a
theorem Opens.as {α : Type} {P : Program} {t : TypeId} {kd : Kd α} {B B' : α → Prop} (h : Opens P t kd B) (hB : ∀ a, B a → B' a) : Opens P t kd B' :=
  ⟨h.size, fun hx => by obtain ⟨a, ha, hb⟩ := h.opened hx; exact ⟨a, ha, hB a hb⟩⟩
theorem opens_bool {P : Program} {t : TypeId} (ht : P.underlying t = some .bool) (hs : P.cellsOf t = 1) : Opens P t Kd.bool (fun _ => True) :=
  ⟨hs, fun h => by obtain ⟨b, rfl, _⟩ := DataW.trod_bool ht h; exact ⟨b, rfl, trivial⟩⟩
theorem opens_int {P : Program} {t : TypeId} {k : IntKind} (ht : P.underlying t = some (.int k)) (hs : P.cellsOf t = 1) : Opens P t (Kd.int k) (fun _ => True) :=
  ⟨hs, fun h => by obtain ⟨b, rfl, _⟩ := DataW.trod_int ht h; exact ⟨b, rfl, trivial⟩⟩
theorem opens_string {P : Program} {t : TypeId} (ht : P.underlying t = some .string) (hs : P.cellsOf t = 1) : Opens P t Kd.string bStr :=
  ⟨hs, fun h => by obtain ⟨b, rfl, _, hb⟩ := DataW.trod_string ht h; exact ⟨b, rfl, hb⟩⟩
theorem list_of {α : Type} (p : Nat → α → Prop) : ∀ n : Nat, (∀ i, i < n → ∃ y, p i y) → ∃ l : List α, l.length = n ∧ ∀ i y, l[i]? = some y → p i y
  | 0, _ => ⟨[], rfl, fun i y h => by simp at h⟩
  | n + 1, h => by
    obtain ⟨l, hl, hp⟩ := list_of p n (fun i hi => h i (by omega))
    obtain ⟨y, hy⟩ := h n (by omega)
    refine ⟨l ++ [y], by simp [hl], fun i z hz => ?_⟩
    rcases Nat.lt_trichotomy i n with hi | rfl | hi
    · rw [List.getElem?_append_left (by omega)] at hz
      exact hp i z hz
    · rw [List.getElem?_append_right (by omega), hl, Nat.sub_self] at hz
      simp at hz
      subst hz
      exact hy
    · rw [List.getElem?_eq_none (by simp [hl]; omega)] at hz
      simp at hz
theorem addr_add_add (a : Addr) (i j : Nat) : (a.add i).add j = a.add (i + j) := by
  unfold Addr.add
  by_cases hi : i = 0 <;> by_cases hj : j = 0 <;> simp [hi, hj, Nat.add_assoc]
theorem opens_slice {α : Type} {P : Program} {t e : TypeId} {kd : Kd α} {B : α → Prop} (ht : P.underlying t = some (.slice e)) (hs : P.cellsOf t = 1) (he : Opens P e kd B) (q : Nat) : Opens P t (Kd.slice q kd) (fun l => l.length ≤ 9223372036854775807 ∧ ∀ y ∈ l, B y) := by
  refine ⟨hs, fun {H enc w base sp held fuel cs x} h => ?_⟩
  rcases DataW.trod_slice ht h with ⟨rfl, _⟩ | ⟨a, len, cap, elems, rest, n, _, rfl, _, _, hl, hm, hlen, hel, _⟩
  · exact ⟨[], ⟨none, 0, rfl, Nat.le_refl _, rfl, by simp, fun h => absurd h (by simp)⟩, by simp, by simp⟩
  · obtain ⟨l, hll, hp⟩ := list_of (fun i y => B y ∧ ∃ c, c.length = kd.sz ∧ kd.K w y c ∧ ∀ j u, c[j]? = some u → w.cell? (a.add (i * kd.sz + j)) = some u) len (fun i hi => by
      have h1 := hel i hi
      rw [List.getElem?_eq_getElem (by omega)] at h1
      obtain ⟨cs', h2, h3⟩ := Option.bind_eq_some_iff.1 h1
      obtain ⟨y, hy, hby⟩ := he.opened h3
      obtain ⟨_, h4, h5⟩ := World.cells?_some h2
      refine ⟨y, hby, cs', by rw [h4, he.size], hy, fun j u hu => ?_⟩
      have hj : j < P.cellsOf e := by rw [← h4]; exact (List.getElem?_eq_some_iff.1 hu).1
      rw [← addr_add_add, ← he.size, h5 j hj, hu])
    subst hll
    refine ⟨l, ⟨some a, cap, rfl, hl, rfl, Nat.le_trans hl (Nat.le_trans hm (by decide)), fun _ => ⟨a, rfl, fun j p hj => (hp j p hj).2⟩⟩, Nat.le_trans hl (Nat.le_trans hm (by decide)), fun y hy => ?_⟩
    obtain ⟨i, hi, rfl⟩ := List.mem_iff_getElem.1 hy
    exact (hp i _ (List.getElem?_eq_getElem hi)).1
theorem opens_iso {α β : Type} {P : Program} {t : TypeId} {kd : Kd α} {B : α → Prop} (h : Opens P t kd B) (f : β → α) (hf : ∀ b, ∃ a, f a = b) : Opens P t (Kd.iso kd f) (fun b => B (f b)) :=
  ⟨h.size, fun hx => by obtain ⟨a, ha⟩ := h.opened hx; obtain ⟨b, rfl⟩ := hf a; exact ⟨b, ha⟩⟩
/-- The fields of a struct from the offset o on. -/
structure OpensL {α : Type} (P : Program) (fs : List Field) (o : Nat) (kd : Kd α) (B : α → Prop) : Prop where
  opened : ∀ {H : Type} {enc : TypeId × Value → H} {w : World} {base : Nat} {sp : Nat → Bool} {held : Bool} {fuel : Nat} (cs : List Value), cs.length = o + kd.sz →
    (∀ f ∈ fs, ∃ x, DataW.trod enc P w base sp held fuel f.type ((cs.drop f.offset).take (P.cellsOf f.type)) = some x) → ∃ a, kd.K w a (cs.drop o) ∧ B a
theorem opensL_one {α : Type} {P : Program} {f : Field} {o : Nat} {kd : Kd α} {B : α → Prop} (ho : f.offset = o) (h : Opens P f.type kd B) : OpensL P [f] o kd B := by
  refine ⟨fun {H enc w base sp held fuel} cs hcs hf => ?_⟩
  obtain ⟨x, hx⟩ := hf f (by simp)
  obtain ⟨a, ha, hb⟩ := h.opened hx
  rw [ho, h.size, List.take_of_length_le (by simp [hcs])] at ha
  exact ⟨a, ha, hb⟩
theorem opensL_cons {α β : Type} {P : Program} {f : Field} {fs : List Field} {o : Nat} {kd : Kd α} {kd' : Kd β} {B : α → Prop} {B' : β → Prop} (ho : f.offset = o) (h : Opens P f.type kd B) (hr : OpensL P fs (o + kd.sz) kd' B') : OpensL P (f :: fs) o (Kd.pair kd kd') (fun p => B p.1 ∧ B' p.2) := by
  refine ⟨fun {H enc w base sp held fuel} cs hcs hf => ?_⟩
  obtain ⟨x, hx⟩ := hf f (by simp)
  obtain ⟨a, ha, hba⟩ := h.opened hx
  have hcs' : cs.length = o + kd.sz + kd'.sz := by rw [hcs]; show o + (kd.sz + kd'.sz) = _; omega
  obtain ⟨b, hb, hbb⟩ := hr.opened cs hcs' (fun g hg => hf g (by simp [hg]))
  rw [ho, h.size] at ha
  refine ⟨(a, b), ⟨(cs.drop o).take kd.sz, (cs.drop (o + kd.sz)), ?_, ha, hb⟩, hba, hbb⟩
  rw [← List.drop_drop, List.take_append_drop]
theorem opens_struct {α : Type} {P : Program} {t : TypeId} {fs : List Field} {kd : Kd α} {B : α → Prop} (ht : P.underlying t = some (.struct ⟨fs⟩)) (hs : P.cellsOf t = kd.sz) (h : OpensL P fs 0 kd B) : Opens P t kd B := by
  refine ⟨hs, fun {H enc w base sp held fuel cs x} hx => ?_⟩
  obtain ⟨xs, n, _, _, hl, hlen, hf⟩ := DataW.trod_struct ht hx
  obtain ⟨a, ha, hb⟩ := h.opened (enc := enc) (w := w) (base := base) (sp := sp) (held := held) (fuel := n) cs (by rw [hl, hs]; omega) (fun f hfm => by
    obtain ⟨i, hi, rfl⟩ := List.mem_iff_getElem.1 hfm
    have h1 := hf i fs[i] (by simp [hi])
    exact ⟨xs[i]'(by rw [hlen]; simpa using hi), by rw [h1, List.getElem?_eq_getElem]⟩)
  exact ⟨a, by simpa using ha, hb⟩
theorem opens_isoL {α β : Type} {P : Program} {fs : List Field} {o : Nat} {kd : Kd α} {B : α → Prop} (h : OpensL P fs o kd B) (f : β → α) (hf : ∀ b, ∃ a, f a = b) : OpensL P fs o (Kd.iso kd f) (fun b => B (f b)) := by
  refine ⟨fun {H enc w base sp held fuel} cs hcs hx => ?_⟩
  obtain ⟨a, ha⟩ := h.opened cs hcs hx
  obtain ⟨b, rfl⟩ := hf a
  exact ⟨b, ha⟩
/-- an argument's value, opened -/
theorem Opens.argB {α : Type} {P : Program} {t : TypeId} {kd : Kd α} {B : α → Prop} (h : Opens P t kd B) {H : Type} {enc : TypeId × Value → H} {w : World} {base : Nat} {sp : Nat → Bool} {held : Bool} {v : Value} {d : DataW H} {ps : List MemPlace}
    (hv : DataW.Trod enc P w base sp held t v d ps) : ∃ a, kd.K w a v.cells.toList ∧ B a := by
  obtain ⟨fuel, hf⟩ := hv
  exact h.opened hf
theorem Opens.arg {α : Type} {P : Program} {t : TypeId} {kd : Kd α} {B : α → Prop} (h : Opens P t kd B) {H : Type} {enc : TypeId × Value → H} {w : World} {base : Nat} {sp : Nat → Bool} {held : Bool} {v : Value} {d : DataW H} {ps : List MemPlace}
    (hv : DataW.Trod enc P w base sp held t v d ps) : ∃ a, kd.K w a v.cells.toList := by
  obtain ⟨a, ha, _⟩ := h.argB hv
  exact ⟨a, ha⟩
/-- An argument's row is no longer than its weight allows. -/
theorem sized_row {H : Type} {enc : TypeId × Value → H} {P : Program} {W : World} {base : Nat} {spare : Nat → Bool} {held : Bool} {t e : TypeId} {a : Option Addr} {len cap : Nat} {d : DataW H} {ps : List MemPlace} {ts : List TypeId} {ds : List (DataW H)} {j : Nat}
    (hsz : (DataW.weightsEach P ts ds).all (· ≤ reachBytes) = true) (ht : ts[j]? = some t) (hd : ds[j]? = some d) (hu : P.underlying t = some (.slice e)) {B : Nat} (hB : P.bytesOf e = B)
    (h : DataW.Trod enc P W base spare held t (.slice a len cap) d ps) : len * B ≤ 140737488351232 := by
  obtain ⟨fuel, hf⟩ := h
  rcases DataW.trod_slice hu hf with ⟨hcs, _⟩ | ⟨x, l, c, elems, rest, n, _, hcs, hx, _, hl, _, hlen, _⟩
  · simp [Value.cells] at hcs
    obtain ⟨rfl, rfl, rfl⟩ := hcs
    simp
  · simp [Value.cells] at hcs
    obtain ⟨rfl, rfl, rfl⟩ := hcs
    obtain ⟨rfl, _⟩ := Prod.mk.inj hx
    have z := sized_slice hsz ht hd hu
    rw [hB, List.length_map, List.length_map, hlen] at z
    exact Nat.le_trans (Nat.mul_le_mul_right _ (Nat.le_add_right _ _)) z
def bStmt (x : Stmt) : Prop := True ∧ bStr (x.x) ∧ bStr (x.y) ∧ bStr (x.z) ∧ bStr (x.op) ∧ True ∧ True ∧ True
theorem opens_Stmt : Opens Try.prog 30 k30 bStmt :=
  Opens.as (opens_struct Try.underlying30 (by kernel_rfl) (opens_isoL (opensL_cons rfl (opens_int (by kernel_rfl) (by kernel_rfl)) (opensL_cons rfl (opens_string (by kernel_rfl) (by kernel_rfl)) (opensL_cons rfl (opens_string (by kernel_rfl) (by kernel_rfl)) (opensL_cons rfl (opens_string (by kernel_rfl) (by kernel_rfl)) (opensL_cons rfl (opens_string (by kernel_rfl) (by kernel_rfl)) (opensL_cons rfl (opens_int (by kernel_rfl) (by kernel_rfl)) (opensL_cons rfl (opens_int (by kernel_rfl) (by kernel_rfl)) (opensL_one rfl (opens_int (by kernel_rfl) (by kernel_rfl)))))))))) _ (fun b => ⟨⟨b.1, b.2.1, b.2.2.1, b.2.2.2.1, b.2.2.2.2.1, b.2.2.2.2.2.1, b.2.2.2.2.2.2.1, b.2.2.2.2.2.2.2⟩, rfl⟩))) (fun _ h => h)
def bVar (x : Var) : Prop := bStr (x.name) ∧ True ∧ True ∧ True
theorem opens_Var : Opens Try.prog 54 k54 bVar :=
  Opens.as (opens_struct Try.underlying54 (by kernel_rfl) (opens_isoL (opensL_cons rfl (opens_string (by kernel_rfl) (by kernel_rfl)) (opensL_cons rfl (opens_int (by kernel_rfl) (by kernel_rfl)) (opensL_cons rfl (opens_int (by kernel_rfl) (by kernel_rfl)) (opensL_one rfl (opens_bool (by kernel_rfl) (by kernel_rfl)))))) _ (fun b => ⟨⟨b.1, b.2.1, b.2.2.1, b.2.2.2⟩, rfl⟩))) (fun _ h => h)
def bVisit (x : Visit) : Prop := True ∧ (x.vars.length ≤ 9223372036854775807 ∧ ∀ y ∈ x.vars, bVar (y))
theorem opens_Visit : Opens Try.prog 52 k52 bVisit :=
  Opens.as (opens_struct Try.underlying52 (by kernel_rfl) (opens_isoL (opensL_cons rfl (opens_int (by kernel_rfl) (by kernel_rfl)) (opensL_one rfl (opens_slice (by kernel_rfl) (by kernel_rfl) opens_Var 54))) _ (fun b => ⟨⟨b.1, b.2⟩, rfl⟩))) (fun _ h => h)
def bScript (x : Script) : Prop := (x.l.length ≤ 9223372036854775807 ∧ ∀ y ∈ x.l, bStmt (y)) ∧ (x.ins.length ≤ 9223372036854775807 ∧ ∀ y ∈ x.ins, True) ∧ (x.ora.length ≤ 9223372036854775807 ∧ ∀ y ∈ x.ora, True) ∧ True
theorem opens_Script : Opens Try.prog 43 k43 bScript :=
  Opens.as (opens_struct Try.underlying43 (by kernel_rfl) (opens_isoL (opensL_cons rfl (opens_slice (by kernel_rfl) (by kernel_rfl) opens_Stmt 30) (opensL_cons rfl (opens_slice (by kernel_rfl) (by kernel_rfl) (opens_int (t := 2) (by kernel_rfl) (by kernel_rfl)) 2) (opensL_cons rfl (opens_slice (by kernel_rfl) (by kernel_rfl) (opens_bool (t := 4) (by kernel_rfl) (by kernel_rfl)) 4) (opensL_one rfl (opens_int (by kernel_rfl) (by kernel_rfl)))))) _ (fun b => ⟨⟨b.1, b.2.1, b.2.2.1, b.2.2.2⟩, rfl⟩))) (fun _ h => h)
def bRVar (x : RVar) : Prop := bStr (x.name) ∧ True ∧ True ∧ True
theorem opens_RVar : Opens Try.prog 68 k68 bRVar :=
  Opens.as (opens_struct Try.underlying68 (by kernel_rfl) (opens_isoL (opensL_cons rfl (opens_string (by kernel_rfl) (by kernel_rfl)) (opensL_cons rfl (opens_int (by kernel_rfl) (by kernel_rfl)) (opensL_cons rfl (opens_int (by kernel_rfl) (by kernel_rfl)) (opensL_one rfl (opens_bool (by kernel_rfl) (by kernel_rfl)))))) _ (fun b => ⟨⟨b.1, b.2.1, b.2.2.1, b.2.2.2⟩, rfl⟩))) (fun _ h => h)
def bRVisit (x : RVisit) : Prop := True ∧ (x.vars.length ≤ 9223372036854775807 ∧ ∀ y ∈ x.vars, bRVar (y))
theorem opens_RVisit : Opens Try.prog 67 k67 bRVisit :=
  Opens.as (opens_struct Try.underlying67 (by kernel_rfl) (opens_isoL (opensL_cons rfl (opens_int (by kernel_rfl) (by kernel_rfl)) (opensL_one rfl (opens_slice (by kernel_rfl) (by kernel_rfl) opens_RVar 68))) _ (fun b => ⟨⟨b.1, b.2⟩, rfl⟩))) (fun _ h => h)
def bRState (x : RState) : Prop := True ∧ (x.vars.length ≤ 9223372036854775807 ∧ ∀ y ∈ x.vars, bRVar (y)) ∧ (x.ins.length ≤ 9223372036854775807 ∧ ∀ y ∈ x.ins, True) ∧ (x.ora.length ≤ 9223372036854775807 ∧ ∀ y ∈ x.ora, True)
theorem opens_RState : Opens Try.prog 77 k77 bRState :=
  Opens.as (opens_struct Try.underlying77 (by kernel_rfl) (opens_isoL (opensL_cons rfl (opens_int (by kernel_rfl) (by kernel_rfl)) (opensL_cons rfl (opens_slice (by kernel_rfl) (by kernel_rfl) opens_RVar 68) (opensL_cons rfl (opens_slice (by kernel_rfl) (by kernel_rfl) (opens_int (t := 2) (by kernel_rfl) (by kernel_rfl)) 2) (opensL_one rfl (opens_slice (by kernel_rfl) (by kernel_rfl) (opens_bool (t := 4) (by kernel_rfl) (by kernel_rfl)) 4))))) _ (fun b => ⟨⟨b.1, b.2.1, b.2.2.1, b.2.2.2⟩, rfl⟩))) (fun _ h => h)
end Go.Proofs.Ytnepgcbgkhikkaa.H
/- an argument opened, and how long its rows and texts are -/
namespace Go.Proofs.Ytnepgcbgkhikkaa.H
open Go.RowKit Go.Proofs.YtnepgcbgkhikkaaW.PrintWords
set_option linter.unusedVariables false
def bWStr (s : ByteArray) : Prop := s.size ≤ 140737488351232
def fits {H : Type} (P : Program) (t : TypeId) (d : DataW H) : Prop := ∀ n ∈ d.weights P t, n ≤ reachBytes
structure OpensW {α : Type} (P : Program) (t : TypeId) (kd : Kd α) (B : α → Prop) : Prop where
  size : P.cellsOf t = kd.sz
  opened : ∀ {H : Type} {enc : TypeId × Value → H} {w : World} {base : Nat} {sp : Nat → Bool} {held : Bool} {fuel : Nat} {cs : List Value} {x : DataW H × List MemPlace},
    DataW.trod enc P w base sp held fuel t cs = some x → ∃ a, kd.K w a cs ∧ (fits P t x.1 → B a)
theorem OpensW.as {α : Type} {P : Program} {t : TypeId} {kd : Kd α} {B B' : α → Prop} (h : OpensW P t kd B) (hB : ∀ a, B a → B' a) : OpensW P t kd B' :=
  ⟨h.size, fun hx => by obtain ⟨a, ha, hb⟩ := h.opened hx; exact ⟨a, ha, fun hw => hB a (hb hw)⟩⟩
theorem opensW_bool {P : Program} {t : TypeId} (ht : P.underlying t = some .bool) (hs : P.cellsOf t = 1) : OpensW P t Kd.bool (fun _ => True) :=
  ⟨hs, fun h => by obtain ⟨b, rfl, _⟩ := DataW.trod_bool ht h; exact ⟨b, rfl, fun _ => trivial⟩⟩
theorem opensW_int {P : Program} {t : TypeId} {k : IntKind} (ht : P.underlying t = some (.int k)) (hs : P.cellsOf t = 1) : OpensW P t (Kd.int k) (fun _ => True) :=
  ⟨hs, fun h => by obtain ⟨b, rfl, _⟩ := DataW.trod_int ht h; exact ⟨b, rfl, fun _ => trivial⟩⟩
theorem opensW_string {P : Program} {t : TypeId} (ht : P.underlying t = some .string) (hs : P.cellsOf t = 1) : OpensW P t Kd.string bWStr :=
  ⟨hs, fun h => by
    obtain ⟨b, rfl, rfl, hb⟩ := DataW.trod_string ht h
    refine ⟨b, rfl, fun hw => ?_⟩
    have := hw b.data.toList.length (by simp [DataW.weights])
    rw [Array.length_toList] at this
    exact this⟩
theorem weightsAll_mem {H : Type} {P : Program} {e : TypeId} {n : Nat} : ∀ {ds : List (DataW H)} {d : DataW H}, d ∈ ds → n ∈ d.weights P e → n ∈ DataW.weightsAll P e ds
  | [], d, h, _ => by simp at h
  | x :: r, d, h, hn => by
    rw [DataW.weightsAll, List.mem_append]
    rcases List.mem_cons.1 h with rfl | h
    · exact .inl hn
    · exact .inr (weightsAll_mem h hn)
theorem opensW_slice {α : Type} {P : Program} {t e : TypeId} {kd : Kd α} {B : α → Prop} (ht : P.underlying t = some (.slice e)) (hs : P.cellsOf t = 1) (he : OpensW P e kd B) (q : Nat) {N : Nat} (hN : P.bytesOf e = N) : OpensW P t (Kd.slice q kd) (fun l => l.length * N ≤ 140737488351232 ∧ ∀ y ∈ l, B y) := by
  refine ⟨hs, fun {H enc w base sp held fuel cs x} h => ?_⟩
  rcases DataW.trod_slice ht h with ⟨rfl, rfl⟩ | ⟨a, len, cap, elems, rest, n, _, rfl, rfl, _, hl, hm, hlen, hel, _⟩
  · exact ⟨[], ⟨none, 0, rfl, Nat.le_refl _, rfl, by simp, fun h => absurd h (by simp)⟩, fun _ => ⟨by simp, by simp⟩⟩
  · obtain ⟨l, hll, hp⟩ := list_of (fun i y => (∀ d, elems[i]? = some d → fits P e d.1 → B y) ∧ ∃ c, c.length = kd.sz ∧ kd.K w y c ∧ ∀ j u, c[j]? = some u → w.cell? (a.add (i * kd.sz + j)) = some u) len (fun i hi => by
      have h1 := hel i hi
      rw [List.getElem?_eq_getElem (by omega)] at h1
      obtain ⟨cs', h2, h3⟩ := Option.bind_eq_some_iff.1 h1
      obtain ⟨y, hy, hby⟩ := he.opened h3
      obtain ⟨_, h4, h5⟩ := World.cells?_some h2
      refine ⟨y, fun d hd hw => hby ?_, cs', by rw [h4, he.size], hy, fun j u hu => ?_⟩
      · rw [List.getElem?_eq_getElem (by omega)] at hd
        rw [Option.some.inj hd]; exact hw
      · have hj : j < P.cellsOf e := by rw [← h4]; exact (List.getElem?_eq_some_iff.1 hu).1
        rw [← addr_add_add, ← he.size, h5 j hj, hu])
    subst hll
    refine ⟨l, ⟨some a, cap, rfl, hl, rfl, Nat.le_trans hl (Nat.le_trans hm (by decide)), fun _ => ⟨a, rfl, fun j p hj => (hp j p hj).2⟩⟩, fun hw => ⟨?_, fun y hy => ?_⟩⟩
    · have := hw _ (by simp only [DataW.weights, ht]; exact List.mem_cons_self)
      rw [List.length_map, List.length_map, hlen, hN] at this
      exact Nat.le_trans (Nat.mul_le_mul_right _ (Nat.le_add_right _ _)) this
    · obtain ⟨i, hi, rfl⟩ := List.mem_iff_getElem.1 hy
      have hie : i < elems.length := by omega
      refine (hp i _ (List.getElem?_eq_getElem hi)).1 elems[i] (List.getElem?_eq_getElem hie) (fun n hn => hw n ?_)
      simp only [DataW.weights, ht]
      exact List.mem_cons_of_mem _ (List.mem_append_left _ (weightsAll_mem (List.mem_map.2 ⟨elems[i], List.getElem_mem hie, rfl⟩) hn))
structure OpensLW {α : Type} (P : Program) (fs : List Field) (o : Nat) (kd : Kd α) (B : α → Prop) : Prop where
  opened : ∀ {H : Type} {enc : TypeId × Value → H} {w : World} {base : Nat} {sp : Nat → Bool} {held : Bool} {fuel : Nat} (F : Prop) (cs : List Value), cs.length = o + kd.sz →
    (∀ f ∈ fs, ∃ x, DataW.trod enc P w base sp held fuel f.type ((cs.drop f.offset).take (P.cellsOf f.type)) = some x ∧ (F → fits P f.type x.1)) → ∃ a, kd.K w a (cs.drop o) ∧ (F → B a)
theorem opensLW_one {α : Type} {P : Program} {f : Field} {o : Nat} {kd : Kd α} {B : α → Prop} (ho : f.offset = o) (h : OpensW P f.type kd B) : OpensLW P [f] o kd B := by
  refine ⟨fun {H enc w base sp held fuel} F cs hcs hf => ?_⟩
  obtain ⟨x, hx, hF⟩ := hf f (by simp)
  obtain ⟨a, ha, hb⟩ := h.opened hx
  rw [ho, h.size, List.take_of_length_le (by simp [hcs])] at ha
  exact ⟨a, ha, fun q => hb (hF q)⟩
theorem opensLW_cons {α β : Type} {P : Program} {f : Field} {fs : List Field} {o : Nat} {kd : Kd α} {kd' : Kd β} {B : α → Prop} {B' : β → Prop} (ho : f.offset = o) (h : OpensW P f.type kd B) (hr : OpensLW P fs (o + kd.sz) kd' B') : OpensLW P (f :: fs) o (Kd.pair kd kd') (fun p => B p.1 ∧ B' p.2) := by
  refine ⟨fun {H enc w base sp held fuel} F cs hcs hf => ?_⟩
  obtain ⟨x, hx, hF⟩ := hf f (by simp)
  obtain ⟨a, ha, hba⟩ := h.opened hx
  have hcs' : cs.length = o + kd.sz + kd'.sz := by rw [hcs]; show o + (kd.sz + kd'.sz) = _; omega
  obtain ⟨b, hb, hbb⟩ := hr.opened F cs hcs' (fun g hg => hf g (by simp [hg]))
  rw [ho, h.size] at ha
  refine ⟨(a, b), ⟨(cs.drop o).take kd.sz, (cs.drop (o + kd.sz)), ?_, ha, hb⟩, fun q => ⟨hba (hF q), hbb q⟩⟩
  rw [← List.drop_drop, List.take_append_drop]
theorem opensW_struct {α : Type} {P : Program} {t : TypeId} {fs : List Field} {kd : Kd α} {B : α → Prop} (ht : P.underlying t = some (.struct ⟨fs⟩)) (hs : P.cellsOf t = kd.sz) (h : OpensLW P fs 0 kd B) : OpensW P t kd B := by
  refine ⟨hs, fun {H enc w base sp held fuel cs x} hx => ?_⟩
  obtain ⟨xs, n, _, rfl, hl, hlen, hf⟩ := DataW.trod_struct ht hx
  obtain ⟨a, ha, hb⟩ := h.opened (enc := enc) (w := w) (base := base) (sp := sp) (held := held) (fuel := n) (fits P t (.agg (xs.map (·.1)))) cs (by rw [hl, hs]; omega) (fun f hfm => by
    obtain ⟨i, hi, rfl⟩ := List.mem_iff_getElem.1 hfm
    have h1 := hf i fs[i] (by simp [hi])
    have hix : i < xs.length := by rw [hlen]; simpa using hi
    refine ⟨xs[i], by rw [h1, List.getElem?_eq_getElem], fun hw n hn => hw n ?_⟩
    simp only [DataW.weights, ht]
    exact DataW.weights_mem_each (j := i) (by simp [hi]) (by rw [List.getElem?_map, List.getElem?_eq_getElem hix]; rfl) n hn)
  exact ⟨a, by simpa using ha, hb⟩
theorem opensW_isoL {α β : Type} {P : Program} {fs : List Field} {o : Nat} {kd : Kd α} {B : α → Prop} (h : OpensLW P fs o kd B) (f : β → α) (hf : ∀ b, ∃ a, f a = b) : OpensLW P fs o (Kd.iso kd f) (fun b => B (f b)) := by
  refine ⟨fun {H enc w base sp held fuel} F cs hcs hx => ?_⟩
  obtain ⟨a, ha⟩ := h.opened F cs hcs hx
  obtain ⟨b, rfl⟩ := hf a
  exact ⟨b, ha⟩
/-- an argument's value, opened -/
theorem OpensW.argB {α : Type} {P : Program} {t : TypeId} {kd : Kd α} {B : α → Prop} (h : OpensW P t kd B) {H : Type} {enc : TypeId × Value → H} {w : World} {base : Nat} {sp : Nat → Bool} {held : Bool} {v : Value} {d : DataW H} {ps : List MemPlace} {ts : List TypeId} {ds : List (DataW H)} {j : Nat}
    (hsz : (DataW.weightsEach P ts ds).all (· ≤ reachBytes) = true) (ht : ts[j]? = some t) (hd : ds[j]? = some d) (hv : DataW.Trod enc P w base sp held t v d ps) : ∃ a, kd.K w a v.cells.toList ∧ B a := by
  obtain ⟨fuel, hf⟩ := hv
  obtain ⟨a, ha, hb⟩ := h.opened hf
  refine ⟨a, ha, hb (fun n hn => ?_)⟩
  have := List.all_eq_true.1 hsz n (DataW.weights_mem_each ht hd n hn)
  simpa using this
def bWStmt (x : Stmt) : Prop := True ∧ bWStr (x.x) ∧ bWStr (x.y) ∧ bWStr (x.z) ∧ bWStr (x.op) ∧ True ∧ True ∧ True
theorem opensW_Stmt : OpensW Try.prog 30 k30 bWStmt :=
  OpensW.as (opensW_struct Try.underlying30 (by kernel_rfl) (opensW_isoL (opensLW_cons rfl (opensW_int (by kernel_rfl) (by kernel_rfl)) (opensLW_cons rfl (opensW_string (by kernel_rfl) (by kernel_rfl)) (opensLW_cons rfl (opensW_string (by kernel_rfl) (by kernel_rfl)) (opensLW_cons rfl (opensW_string (by kernel_rfl) (by kernel_rfl)) (opensLW_cons rfl (opensW_string (by kernel_rfl) (by kernel_rfl)) (opensLW_cons rfl (opensW_int (by kernel_rfl) (by kernel_rfl)) (opensLW_cons rfl (opensW_int (by kernel_rfl) (by kernel_rfl)) (opensLW_one rfl (opensW_int (by kernel_rfl) (by kernel_rfl)))))))))) _ (fun b => ⟨⟨b.1, b.2.1, b.2.2.1, b.2.2.2.1, b.2.2.2.2.1, b.2.2.2.2.2.1, b.2.2.2.2.2.2.1, b.2.2.2.2.2.2.2⟩, rfl⟩))) (fun _ h => h)
def bWVar (x : Var) : Prop := bWStr (x.name) ∧ True ∧ True ∧ True
theorem opensW_Var : OpensW Try.prog 54 k54 bWVar :=
  OpensW.as (opensW_struct Try.underlying54 (by kernel_rfl) (opensW_isoL (opensLW_cons rfl (opensW_string (by kernel_rfl) (by kernel_rfl)) (opensLW_cons rfl (opensW_int (by kernel_rfl) (by kernel_rfl)) (opensLW_cons rfl (opensW_int (by kernel_rfl) (by kernel_rfl)) (opensLW_one rfl (opensW_bool (by kernel_rfl) (by kernel_rfl)))))) _ (fun b => ⟨⟨b.1, b.2.1, b.2.2.1, b.2.2.2⟩, rfl⟩))) (fun _ h => h)
def bWVisit (x : Visit) : Prop := True ∧ (x.vars.length * 40 ≤ 140737488351232 ∧ ∀ y ∈ x.vars, bWVar (y))
theorem opensW_Visit : OpensW Try.prog 52 k52 bWVisit :=
  OpensW.as (opensW_struct Try.underlying52 (by kernel_rfl) (opensW_isoL (opensLW_cons rfl (opensW_int (by kernel_rfl) (by kernel_rfl)) (opensLW_one rfl (opensW_slice (by kernel_rfl) (by kernel_rfl) opensW_Var 54 (by kernel_rfl)))) _ (fun b => ⟨⟨b.1, b.2⟩, rfl⟩))) (fun _ h => h)
def bWScript (x : Script) : Prop := (x.l.length * 96 ≤ 140737488351232 ∧ ∀ y ∈ x.l, bWStmt (y)) ∧ (x.ins.length * 8 ≤ 140737488351232 ∧ ∀ y ∈ x.ins, True) ∧ (x.ora.length * 1 ≤ 140737488351232 ∧ ∀ y ∈ x.ora, True) ∧ True
theorem opensW_Script : OpensW Try.prog 43 k43 bWScript :=
  OpensW.as (opensW_struct Try.underlying43 (by kernel_rfl) (opensW_isoL (opensLW_cons rfl (opensW_slice (by kernel_rfl) (by kernel_rfl) opensW_Stmt 30 (by kernel_rfl)) (opensLW_cons rfl (opensW_slice (by kernel_rfl) (by kernel_rfl) (opensW_int (t := 2) (by kernel_rfl) (by kernel_rfl)) 2 (by kernel_rfl)) (opensLW_cons rfl (opensW_slice (by kernel_rfl) (by kernel_rfl) (opensW_bool (t := 4) (by kernel_rfl) (by kernel_rfl)) 4 (by kernel_rfl)) (opensLW_one rfl (opensW_int (by kernel_rfl) (by kernel_rfl)))))) _ (fun b => ⟨⟨b.1, b.2.1, b.2.2.1, b.2.2.2⟩, rfl⟩))) (fun _ h => h)
def bWRVar (x : RVar) : Prop := bWStr (x.name) ∧ True ∧ True ∧ True
theorem opensW_RVar : OpensW Try.prog 68 k68 bWRVar :=
  OpensW.as (opensW_struct Try.underlying68 (by kernel_rfl) (opensW_isoL (opensLW_cons rfl (opensW_string (by kernel_rfl) (by kernel_rfl)) (opensLW_cons rfl (opensW_int (by kernel_rfl) (by kernel_rfl)) (opensLW_cons rfl (opensW_int (by kernel_rfl) (by kernel_rfl)) (opensLW_one rfl (opensW_bool (by kernel_rfl) (by kernel_rfl)))))) _ (fun b => ⟨⟨b.1, b.2.1, b.2.2.1, b.2.2.2⟩, rfl⟩))) (fun _ h => h)
def bWRVisit (x : RVisit) : Prop := True ∧ (x.vars.length * 40 ≤ 140737488351232 ∧ ∀ y ∈ x.vars, bWRVar (y))
theorem opensW_RVisit : OpensW Try.prog 67 k67 bWRVisit :=
  OpensW.as (opensW_struct Try.underlying67 (by kernel_rfl) (opensW_isoL (opensLW_cons rfl (opensW_int (by kernel_rfl) (by kernel_rfl)) (opensLW_one rfl (opensW_slice (by kernel_rfl) (by kernel_rfl) opensW_RVar 68 (by kernel_rfl)))) _ (fun b => ⟨⟨b.1, b.2⟩, rfl⟩))) (fun _ h => h)
def bWRState (x : RState) : Prop := True ∧ (x.vars.length * 40 ≤ 140737488351232 ∧ ∀ y ∈ x.vars, bWRVar (y)) ∧ (x.ins.length * 8 ≤ 140737488351232 ∧ ∀ y ∈ x.ins, True) ∧ (x.ora.length * 1 ≤ 140737488351232 ∧ ∀ y ∈ x.ora, True)
theorem opensW_RState : OpensW Try.prog 77 k77 bWRState :=
  OpensW.as (opensW_struct Try.underlying77 (by kernel_rfl) (opensW_isoL (opensLW_cons rfl (opensW_int (by kernel_rfl) (by kernel_rfl)) (opensLW_cons rfl (opensW_slice (by kernel_rfl) (by kernel_rfl) opensW_RVar 68 (by kernel_rfl)) (opensLW_cons rfl (opensW_slice (by kernel_rfl) (by kernel_rfl) (opensW_int (t := 2) (by kernel_rfl) (by kernel_rfl)) 2 (by kernel_rfl)) (opensLW_one rfl (opensW_slice (by kernel_rfl) (by kernel_rfl) (opensW_bool (t := 4) (by kernel_rfl) (by kernel_rfl)) 4 (by kernel_rfl)))))) _ (fun b => ⟨⟨b.1, b.2.1, b.2.2.1, b.2.2.2⟩, rfl⟩))) (fun _ h => h)
end Go.Proofs.Ytnepgcbgkhikkaa.H
/- InterpMore: with more visits allowed the ones that were come first; without a script it is as with as many zeros. Conditions: the statement's own. -/
namespace Go.Proofs.Ytnepgcbgkhikkaa.H
open Go.RowKit Go.Proofs.YtnepgcbgkhikkaaW.PrintWords
set_option linter.unusedVariables false
set_option linter.unusedSimpArgs false
set_option linter.unusedSectionVars false
/-- the same states, but that zeros are left of the inputs -/
def SameZ (a b : St) : Prop := a.n = b.n ∧ a.ora = b.ora ∧ a.vs = b.vs ∧ ∃ zs, b.ins = a.ins ++ zs ∧ ∀ z ∈ zs, z = 0
theorem headZ {l zs : List Int} (h : ∀ z ∈ zs, z = 0) : (l ++ zs).headD 0 = l.headD 0 := by
  cases l with
  | cons a l => rfl
  | nil =>
    cases zs with
    | nil => rfl
    | cons z zs => simp [h z (by simp)]
theorem same_next {l : List Stmt} {a b : St} (h : SameZ a b) : SameZ (nextS l a) (nextS l b) := by
  obtain ⟨h1, h2, h3, zs, h4, h5⟩ := h
  unfold nextS
  rw [← h1]
  cases e : l[a.n.toNat]? with
  | none => exact ⟨h1, h2, h3, zs, h4, h5⟩
  | some st =>
    have hd : b.ins.headD 0 = a.ins.headD 0 := by rw [h4, headZ h5]
    have hm : madeV st a.n.toNat b.vs b.ins = madeV st a.n.toNat a.vs a.ins := by unfold madeV; rw [hd, h3]
    refine ⟨by simp only [h2, h3], by simp only [h2], ?_, ?_⟩
    · simp only [stepV, hm, h3]
    · simp only [stepI]
      split
      · rw [h4]
        cases a.ins with
        | nil => exact ⟨zs.tail, by simp, fun z hz => h5 z (List.mem_of_mem_tail hz)⟩
        | cons x r => exact ⟨zs, by simp, h5⟩
      · exact ⟨zs, h4, h5⟩
theorem same_sN {l : List Stmt} {a b : St} (h : SameZ a b) : ∀ k, SameZ (sN l a k) (sN l b k)
  | 0 => h
  | k + 1 => same_next (same_sN h k)
theorem same_vis {a b : St} (h : SameZ a b) : visS a = visS b := by
  unfold visS
  rw [h.1, h.2.2.1]
theorem visN_same {l : List Stmt} {a b : St} (h : SameZ a b) (m : Nat) : visN l a m = visN l b m := by
  unfold visN
  apply List.map_congr_left
  intro i _
  exact same_vis (same_sN h i)
/-- how many visits are answered -/
def upTo (l : List Stmt) (s : St) (most : Int) (m : Nat) : Prop := (∀ i, i < m → inS l (sN l s i)) ∧ (m = 0 ∨ (m : Int) ≤ most) ∧ (¬ inS l (sN l s m) ∨ most ≤ (m : Int))
theorem upTo_le {l : List Stmt} {a b : St} {p q : Int} {m n : Nat} (hs : ∀ k, (sN l a k).n = (sN l b k).n) (hm : upTo l a p m) (hn : upTo l b q n) (hpq : p ≤ q) : m ≤ n := by
  rcases Nat.lt_or_ge n m with h | h
  · exfalso
    have h1 := hm.1 n h
    have h2 : inS l (sN l b n) := by unfold inS at h1 ⊢; rw [← hs]; exact h1
    rcases hn.2.2 with h3 | h3
    · exact h3 h2
    · have := hm.2.1; omega
  · exact h
section
variable (l : List Stmt) (s : St) (m n : Nat) (hmn : m ≤ n) (hm : n ≤ 1000) (hv : ∀ i, i < m → (sN l s i).vs.length ≤ 10000)
include hmn hm hv
theorem Mo_l1 (i : Nat) (hi : i < m) (R : Bool) (go : Ev (fun k => lambrequinlaw22_InterpMore.l0 k true (visN l s m) (visN l s n) (visN l s m) ((i + 1 : Nat) : Int)) R) : ∀ (r : List Var) (j : Nat), (sN l s i).vs.drop j = r →
    Ev (fun k => lambrequinlaw22_InterpMore.l1 k true (visN l s m) (visN l s n) (visN l s m) i j) R
  | [], j, h => by
    have hvi := hv i hi
    refine Ev.step (fun k => by rw [lambrequinlaw22_InterpMore.l1]) (Ev.pos (by omega) (Ev.pos (by rw [visN_len]; omega) ?_))
    rw [vis_at hi]
    have e1 : (visS (sN l s i)).vars = (sN l s i).vs := rfl
    rw [e1, wrap_up (n := i) (by omega)]
    exact Ev.neg (drop_end h) go
  | v :: r, j, h => by
    have hvi := hv i hi
    obtain ⟨h1, h2, h3, h4, h5⟩ := drop_more h (by omega)
    have ih := Mo_l1 i hi R go r (j + 1) h4
    refine Ev.step (fun k => by rw [lambrequinlaw22_InterpMore.l1]) (Ev.pos (by omega) (Ev.pos (by rw [visN_len]; omega) ?_))
    rw [vis_at hi, vis_at (show i < n by omega)]
    have e1 : (visS (sN l s i)).vars = (sN l s i).vs := rfl
    rw [e1]
    refine Ev.pos h1 (Ev.pos h2 (Ev.pos (by rw [visN_len]; omega) (Ev.pos h1 (Ev.neg ?_ (Ev.pos (by rw [visN_len]; omega) (Ev.pos h1 (Ev.neg ?_ ?_)))))))
    · simp
    · simp
    · rw [h5]; exact ih
theorem Mo_l0 : ∀ (d i : Nat), i + d = m → Ev (fun k => lambrequinlaw22_InterpMore.l0 k true (visN l s m) (visN l s n) (visN l s m) i) true
  | 0, i, hd => by
    exact Ev.step (fun k => by rw [lambrequinlaw22_InterpMore.l0]) (Ev.neg (by rw [visN_len]; omega) (Ev.now _))
  | d + 1, i, hd => by
    refine Ev.step (fun k => by rw [lambrequinlaw22_InterpMore.l0]) (Ev.pos (by rw [visN_len]; omega) (Ev.pos (by omega) (Ev.pos (by rw [visN_len]; omega) ?_)))
    rw [vis_at (show i < m by omega), vis_at (show i < n by omega)]
    refine Ev.pos rfl (Ev.pos (by rw [visN_len]; omega) (Ev.pos rfl (Ev.pos rfl ?_)))
    refine Ev.step (fun k => by rw [lambrequinlaw22_InterpMore.j2]) (Ev.neg (by simp) ?_)
    exact Mo_l1 l s m n hmn hm hv i (by omega) true (Mo_l0 d (i + 1) (by omega)) (sN l s i).vs 0 rfl
end
theorem InterpMore_pure (x0 : Script) (n1 : x0.l.length ≤ 9223372036854775807) (n2 : x0.ins.length ≤ 9223372036854775807) (n3 : x0.ora.length ≤ 9223372036854775807) (b0 : bWScript x0) (a1 : Int) (w1 : (Lit.int .u8 a1).wf = true) : ∃ k, lambrequinlaw22_InterpMore.f k x0.l x0.ins x0.ora x0.most a1 = some true := by
  obtain ⟨l, ins, ora, most⟩ := x0
  obtain ⟨-, ⟨q1, -⟩, -⟩ := b0
  replace q1 : ins.length * 8 ≤ 140737488351232 := q1
  refine Ev.rounds (g := fun k => lambrequinlaw22_InterpMore.f k l ins ora most a1) ?_
  unfold lambrequinlaw22_InterpMore.f
  refine Ev.pure shown22 (Ev.pure (few_eq l ins ora most) ?_)
  by_cases hf : l.length ≤ 25 ∧ most ≤ 60
  case neg => exact Ev.neg (by simpa using hf) (Ev.now _)
  refine Ev.pos (by simpa using hf) ?_
  have hu : 0 ≤ a1 ∧ a1 ≤ 255 := by
    have w := w1
    simp only [Lit.wf, Bool.and_eq_true, decide_eq_true_eq] at w
    have h1 : IntKind.u8.min = 0 := by decide
    have h2 : IntKind.u8.max = 255 := by decide
    omega
  have ht : Int.tmod a1 20 = a1 % 20 := Int.tmod_eq_emod_of_nonneg hu.1
  generalize hp : wrap64 ((mx most 0) + (wrap64 (Int.tmod a1 20))) = p
  have hp2 : most ≤ p ∧ 0 ≤ p ∧ p ≤ 80 := by
    rw [ht] at hp
    unfold mx wrap64 at hp
    split at hp <;> omega
  obtain ⟨m, hr, h1, h2, h3⟩ := Run_spec l ins ora most (by omega)
  obtain ⟨n, hr', h1', h2', h3'⟩ := Run_spec l ins ora p (by omega)
  obtain ⟨c, hr3, h1c, h2c, h3c⟩ := Run_spec l (ins ++ [0, 0]) ora most (by omega)
  rw [mostV_small (by omega)] at h2 h3 h2' h3' h2c h3c
  have hz : SameZ (s0 l ins ora) (s0 l (ins ++ [0, 0]) ora) := ⟨rfl, rfl, rfl, [0, 0], rfl, by simp⟩
  have hmn : m ≤ n := upTo_le (fun _ => rfl) ⟨h1, h2, h3⟩ ⟨h1', h2', h3'⟩ hp2.1
  have hmc : m = c := Nat.le_antisymm (upTo_le (fun k => (same_sN hz k).1) ⟨h1, h2, h3⟩ ⟨h1c, h2c, h3c⟩ (Int.le_refl _)) (upTo_le (fun k => (same_sN hz k).1.symm) ⟨h1c, h2c, h3c⟩ ⟨h1, h2, h3⟩ (Int.le_refl _))
  subst hmc
  rw [← visN_same hz] at hr3
  refine Ev.pure hr (Ev.pure hr' (Ev.pure rfl (Ev.pos (by simp; omega) (Ev.pure rfl (Ev.pure rfl (Ev.pos (by simp; omega) (Ev.pure hr3 (Ev.neg (by rw [visN_len, visN_len]; omega) ?_))))))))
  have e0 : (((visN l (s0 l ins ora) m).length : Int) != ((visN l (s0 l ins ora) m).length : Int)) = false := by simp
  rw [e0]
  refine Ev.step (fun k => by rw [lambrequinlaw22_InterpMore.j0]) (Ev.neg (by simp) ?_)
  refine Mo_l0 l (s0 l ins ora) m n hmn (by omega) (fun i hi => ?_) m 0 (by omega)
  have := congrArg List.length (names_sN (names_s0 l ins ora) i (fun j hj => h1 j (by omega)))
  have hn := names_len l
  rw [List.length_map] at this
  unfold nmsV at this
  omega
theorem InterpMore_walk (w : World) (x0 : Script) (A0_0 : Option Addr) (c0_0 : Nat) (l0_0 : x0.l.length ≤ c0_0) (g0_0 : Kd.C k30 w A0_0 x0.l.length x0.l) (A0_1 : Option Addr) (c0_1 : Nat) (l0_1 : x0.ins.length ≤ c0_1) (g0_1 : Kd.C (Kd.int .i64) w A0_1 x0.ins.length x0.ins) (A0_2 : Option Addr) (c0_2 : Nat) (l0_2 : x0.ora.length ≤ c0_2) (g0_2 : Kd.C Kd.bool w A0_2 x0.ora.length x0.ora) (b0 : bWScript x0) (a1 : Int) (w1 : (Lit.int .u8 a1).wf = true) :
    Calls Try.prog 8 #[.agg #[.slice A0_0 x0.l.length c0_0, .slice A0_1 x0.ins.length c0_1, .slice A0_2 x0.ora.length c0_2, .int .i64 x0.most], .int .u8 a1] w fun e w' => e = .returned (.bool true) ∧ Below w.heap.size w w' := by
  obtain ⟨k, h⟩ := InterpMore_pure x0 g0_0.2.1 g0_1.2.1 g0_2.2.1 b0 a1 w1
  exact (lambrequinlaw22_InterpMore.calls k A0_0 c0_0 x0.l A0_1 c0_1 x0.ins A0_2 c0_2 x0.ora x0.most a1 true w g0_0 l0_0 g0_1 l0_1 g0_2 l0_2 h).mono (fun e w' h' => ⟨h'.1, h'.2⟩)
end Go.Proofs.Ytnepgcbgkhikkaa.H
namespace Go.Proofs.Ytnepgcbgkhikkaa.interpMore
open Go.ChangeShapes Go.WideShapes Go.ChangeAt Go.RowKit Go.Proofs.Ytnepgcbgkhikkaa.H Go.Proofs.YtnepgcbgkhikkaaW.PrintWords
open Go.ChangeMaps (open_string shut_string)
set_option linter.unusedVariables false
theorem own : ownKnob Try.prog.godebug = none := by kernel_rfl
theorem laidOut : laidOutB Try.prog = true := by kernel_rfl
set_option maxRecDepth 100000 in
theorem lifted (os : Os) (started : os.Started) (H : Type) (enc : TypeId × Value → H) :
    ReturnsInHanded {} Try.checked os 8 .any (Rows.interpMoreSpec.pre6 enc Try.prog Try.f8 Rows.interpMoreRow.domain false) (Rows.interpMoreSpec.post enc Try.prog Try.f8 false true false false) := by
  refine returnsInHanded_of_change_sized (C := Try.checked) own started (by kernel_rfl) Try.func8
    (ChangeSpec.witness6 (enc := enc) (C := Try.checked) false ⟨#[], #[.agg #[.slice none 0 0, .slice none 0 0, .slice none 0 0, .int .i64 0], .int .u8 0], []⟩ 8 (by kernel_rfl) (by kernel_rfl) (by kernel_rfl) (by kernel_rfl)) ?_
  intro W base args ds gs before hval0 hW hcnd hsz0 _
  have hsz : (DataW.weightsEach Try.prog (Try.f8.params.toList ++ Rows.interpMoreSpec.plain.varTypes Try.prog) (ds ++ gs)).all (· ≤ reachBytes) = true := hsz0
  have hval : ∀ (j : Nat) t v, Try.f8.params[j]? = some t → args[j]? = some v → Value.okWide Try.prog W .any base t v := hval0
  have hW' := hW
  obtain ⟨p, q, hA0, hV, rfl, hfz, hnd⟩ := hW
  have hA : DataW.TrodAll enc Try.prog W 0 (fun _ => true) true Try.f8.params.toList args.toList ds p := hA0
  rw [Try.params8] at hA hval hsz
  obtain ⟨v0, vs0, d0, ds0, p0, q0, hargs, rfl, rfl, h0, r0⟩ := trodAll_cons hA
  obtain ⟨v1, vs1, d1, ds1, p1, q1, rfl, rfl, rfl, h1, r1⟩ := trodAll_cons r0
  obtain ⟨rfl, rfl, rfl⟩ := trodAll_nil r1
  obtain rfl : args = #[v0, v1] := by cases args; simp_all
  obtain ⟨rfl, rfl⟩ := trodVars_none hV
  have k0 := h0
  have lt0 : ∀ x ∈ p0, x.block < W.heap.size := by obtain ⟨m, hm⟩ := k0; exact DataW.trod_lt m _ _ _ hm
  obtain ⟨cs0, rfl, -⟩ := okWide_struct Try.underlying43 (hval 0 43 v0 rfl rfl)
  obtain ⟨x0, g0, b0⟩ := opensW_Script.argB hsz (j := 0) rfl rfl k0
  obtain ⟨A0_0, c0_0, A0_1, c0_1, A0_2, c0_2, e0, l0_0, g0_0, l0_1, g0_1, l0_2, g0_2⟩ := k43_open g0
  obtain ⟨cl0⟩ := cs0
  obtain rfl : cl0 = _ := e0
  obtain ⟨a1, rfl, rfl, rfl, w1⟩ := open_int Try.underlying5 (hval 1 5 v1 rfl rfl) h1
  clear hA0 hval0 hsz0 hsz
  refine (InterpMore_walk W x0 A0_0 c0_0 l0_0 g0_0 A0_1 c0_1 l0_1 g0_1 A0_2 c0_2 l0_2 g0_2 b0 a1 w1).mono fun e W' ⟨he, bel⟩ => ?_
  subst he
  exact ⟨_, rfl, _, _, _, [], _, [], hW', trodAll_mk1 (shut_bool Try.underlying4 _), (trodAll_cons_mk (Below.trod laidOut (by kernel_rfl) (of_decide_eq_true (by kernel_rfl)) k0 bel lt0) (trodAll_cons_mk (shut_int Try.underlying5 w1) trodAll_mk0)), rfl, bel.frame _, fun h => by cases h⟩
theorem over : Rows.interpMoreRow.holds Try.pinned (OpenSpec.ofChange Rows.interpMoreSpec) :=
  OpenClaim.holds_of_wide 8 Try.f8 rfl rfl rfl rfl rfl rfl rfl ⟨rfl, rfl, rfl, rfl, rfl⟩ rfl rfl rfl rfl rfl (by kernel_rfl) Try.func8 (by kernel_rfl)
    (of_decide_eq_true (by kernel_rfl)) (by unfold Func.isWrapper; first | (rw [if_pos (by decide +kernel)]; kernel_rfl) | (rw [if_neg (by decide +kernel)]; exact ⟨rfl, rfl⟩))
    (fun os started H enc _ => lifted os started H enc)
theorem proved : Rows.InterpMoreSaid := over
end Go.Proofs.Ytnepgcbgkhikkaa.interpMore
namespace Go.Proofs.Ytnepgcbgkhikkaa
theorem interpMore_holds : Rows.InterpMoreSaid := interpMore.proved
#print axioms interpMore_holds
end Go.Proofs.Ytnepgcbgkhikkaa
