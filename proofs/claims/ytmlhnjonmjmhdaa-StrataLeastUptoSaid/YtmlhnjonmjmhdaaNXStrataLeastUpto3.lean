/- RowStrataLeastUpto of the seat's law StrataLeastUpto: the law holds, under the statement's own conditions. -/
import Derived.Test.YtmlhnjonmjmhdaaNXStrataLeastUpto2
import Derived.Test.YtmlhnjonmjmhdaaNXStrataLeastUpto1
import Derived.Deep.DeepMust
import Derived.Test.YtmlhnjonmjmhdaaNXStrataLeastUpto
import Derived.OpenShut
import Derived.SizedLaws
import Derived.DataReads
import Derived.Test.YtmlhnjonmjmhdaaRows
import Derived.JoinedCond
import Derived.JoinedAt
import Derived.Test.YtmlhnjonmjmhdaaNW
import Derived.Sort.Walk0
set_option linter.unusedVariables false
set_option linter.unusedSimpArgs false
set_option linter.unusedSectionVars false
/- the document's examples at the head of all laws of layer 11 -/
namespace Go.Proofs.Ytmlhnjonmjmhdaa.H
open Go.RowKit Go.Proofs.YtmlhnjonmjmhdaaW.PrintWords Go.Proofs.YtmlhnjonmjmhdaaW.PrintLast Go.Proofs.YtmlhnjonmjmhdaaW.PrintMore
def rl11 (h : ByteArray) (k : Int) (b : ByteArray) : Rule := ⟨⟨h, []⟩, [⟨k, ⟨b, []⟩, ⟨#[]⟩, noTerm, noTerm⟩]⟩
def ex11a : List Rule := [rl11 ⟨#[112]⟩ 2 ⟨#[113]⟩, rl11 ⟨#[113]⟩ 1 ⟨#[114]⟩]
def ex11b : List Rule := [rl11 ⟨#[112]⟩ 2 ⟨#[112]⟩]
def lambrequinlaw11_shown.f (k : Nat) : Option Bool := (strata_Of.f k [] ex11a).bind fun x => (strata_Of.f k [] ex11b).bind fun y => if x = ([1, 0, 0], [], 0) ∧ y = ([], [⟨#[112]⟩, ⟨#[112]⟩], 7) then some true else none
theorem lambrequinlaw11_shown.mono : ∀ k, LeO (lambrequinlaw11_shown.f k) (lambrequinlaw11_shown.f (k + 1)) := by
  intro k
  unfold lambrequinlaw11_shown.f
  exact LeO.bind (strata_Of.mono _ _ k) (fun _ => LeO.bind (strata_Of.mono _ _ k) (fun _ => LeO.refl _))
theorem rl11_K {W : World} {b b' : Nat} {ok ok' : Nat → Prop} {x : Rule} {u v : Value} (h1 : Kd.R k69 69 W b ok u x.head.args) (h2 : Kd.R k71 71 W b' ok' v x.body) : k64.K W x [.string x.head.pred, u, v] := by
  obtain ⟨A, c, rfl, l, g⟩ := Kd.R_reads h1
  obtain ⟨A', c', rfl, l', g'⟩ := Kd.R_reads h2
  exact k64_mk W x l g l' g'
theorem sh11_rule (h : ByteArray) (k : Int) (b : ByteArray) (w : World) :
    Calls Try.prog 50 #[.string h, .int .i64 k, .string b] w fun e w' => ∃ u v : Value, e = .returned (.agg #[.string h, u, v]) ∧ Aside0 (k64.K w' (rl11 h k b) [.string h, u, v]) ∧ Aside0 (Below w.heap.size w w') := by
  refine (lambrequinlaw11_rule.calls h k b _ _ _ w rfl).mono ?_
  rintro e w' ⟨u, v, rfl, h1, h2, hb⟩
  exact ⟨u, v, rfl, ⟨rl11_K (x := rl11 h k b) h1 (Kd.S_R h2)⟩, ⟨hb⟩⟩
theorem keep11 {w w' : World} {x : Rule} {cs : List Value} (h : Aside0 (k64.K w x cs)) (hb : Aside0 (Below w.heap.size w w')) : Aside0 (k64.K w' x cs) := ⟨Kd.K_below _ hb.out h.out⟩
theorem rep11 (W : World) : Reps (Kd.string.K W) Kd.string.sz [⟨#[112]⟩, ⟨#[112]⟩] [.string ⟨#[112]⟩, .string ⟨#[112]⟩] := by
  have h0 : Reps (Kd.string.K W) 1 ([] : List ByteArray) [] := Reps.none _ _
  have h1 : Reps (Kd.string.K W) 1 ([] ++ [(⟨#[112]⟩ : ByteArray)]) ([] ++ [.string ⟨#[112]⟩]) := Reps.snoc h0 rfl rfl
  exact Reps.snoc h1 (show Kd.string.K W (⟨#[112]⟩ : ByteArray) [.string ⟨#[112]⟩] from rfl) rfl
theorem keepI11 {w w' : World} {A : Option Addr} {c : Nat} (h : Aside0 (Kd.C (Kd.int .i64) w A 3 [1, 0, 0] ∧ 3 ≤ c)) (hb : Aside0 (Below w.heap.size w w')) : Aside0 (Kd.C (Kd.int .i64) w' A 3 [1, 0, 0] ∧ 3 ≤ c) := ⟨Kd.C_below h.out.1 hb.out, h.out.2⟩
theorem sh11_a (K : Nat) (hk : Aside0 (strata_Of.f K [] ex11a = some ([1, 0, 0], [], 0))) (W W' : World) (u1 v1 u2 v2 : Value) (h1 : Aside0 (k64.K W (rl11 ⟨#[112]⟩ 2 ⟨#[113]⟩) [.string ⟨#[112]⟩, u1, v1])) (h2 : Aside0 (k64.K W (rl11 ⟨#[113]⟩ 1 ⟨#[114]⟩) [.string ⟨#[113]⟩, u2, v2])) (hW : W' = W.alloc (.cells #[.string ⟨#[112]⟩, u1, v1, .string ⟨#[113]⟩, u2, v2] 64)) :
    Calls Try.prog 29 #[.agg #[.slice none 0 0, .slice (some ⟨W.heap.size, 0, none⟩) 2 2]] W' fun e w' => ∃ (A B : Option Addr) (c d : Nat), e = .returned (.tuple #[.slice A 3 c, .slice B 0 d, .int .i64 0]) ∧ Aside0 (Kd.C (Kd.int .i64) w' A 3 [1, 0, 0] ∧ 3 ≤ c) ∧ Aside0 (Below W.heap.size W w') := by
  subst hW
  have hb := below_alloc (Below.refl W.heap.size W) (.cells #[.string ⟨#[112]⟩, u1, v1, .string ⟨#[113]⟩, u2, v2] 64)
  have hc : Kd.C k64 (W.alloc (.cells #[.string ⟨#[112]⟩, u1, v1, .string ⟨#[113]⟩, u2, v2] 64)) (some ⟨W.heap.size, 0, none⟩) 2 ex11a := C_cells (blk_new W _) (Reps.snoc (Reps.snoc (Reps.none _ _) (Kd.K_below _ hb h1.out) rfl) (Kd.K_below _ hb h2.out) rfl) (by decide)
  refine (strata_Of.calls K none 0 [] (some ⟨W.heap.size, 0, none⟩) 2 ex11a _ _ _ _ (Kd.C_nil _ _) (Nat.le_refl 0) hc (Nat.le_refl 2) hk.out).mono ?_
  rintro e w' ⟨x, y, rfl, hx, hy, hb'⟩
  obtain ⟨A, c, rfl, l, g⟩ := Kd.R_reads hx
  obtain ⟨B, d, rfl, l', g'⟩ := Kd.R_reads hy
  exact ⟨A, B, c, d, rfl, ⟨g, l⟩, ⟨Below.then hb hb'⟩⟩
theorem sh11_b (K : Nat) (hk : Aside0 (strata_Of.f K [] ex11b = some ([], [⟨#[112]⟩, ⟨#[112]⟩], 7))) (W W' : World) (u1 v1 : Value) (h1 : Aside0 (k64.K W (rl11 ⟨#[112]⟩ 2 ⟨#[112]⟩) [.string ⟨#[112]⟩, u1, v1])) (hW : W' = W.alloc (.cells #[.string ⟨#[112]⟩, u1, v1] 64)) :
    Calls Try.prog 29 #[.agg #[.slice none 0 0, .slice (some ⟨W.heap.size, 0, none⟩) 1 1]] W' fun e w' => ∃ (A B : Option Addr) (c d : Nat), e = .returned (.tuple #[.slice A 0 c, .slice B 2 d, .int .i64 7]) ∧ Aside0 (Kd.C Kd.string w' B 2 [⟨#[112]⟩, ⟨#[112]⟩] ∧ 2 ≤ d) ∧ Aside0 (Below W.heap.size W w') := by
  subst hW
  have hb := below_alloc (Below.refl W.heap.size W) (.cells #[.string ⟨#[112]⟩, u1, v1] 64)
  have hc : Kd.C k64 (W.alloc (.cells #[.string ⟨#[112]⟩, u1, v1] 64)) (some ⟨W.heap.size, 0, none⟩) 1 ex11b := C_cells (blk_new W _) (Reps.snoc (Reps.none _ _) (Kd.K_below _ hb h1.out) rfl) (by decide)
  refine (strata_Of.calls K none 0 [] (some ⟨W.heap.size, 0, none⟩) 1 ex11b _ _ _ _ (Kd.C_nil _ _) (Nat.le_refl 0) hc (Nat.le_refl 1) hk.out).mono ?_
  rintro e w' ⟨x, y, rfl, hx, hy, hb'⟩
  obtain ⟨A, c, rfl, l, g⟩ := Kd.R_reads hx
  obtain ⟨B, d, rfl, l', g'⟩ := Kd.R_reads hy
  exact ⟨A, B, c, d, rfl, ⟨g', l'⟩, ⟨Below.then hb hb'⟩⟩
set_option maxRecDepth 100000 in
set_option maxHeartbeats 4000000 in
theorem lambrequinlaw11_shown.calls (k : Nat) (r : Bool) (w : World) (h : lambrequinlaw11_shown.f k = some r) :
    Calls Try.prog 27 #[] w fun e w' => e = .returned (.bool r) ∧ Below w.heap.size w w' := by
  unfold lambrequinlaw11_shown.f at h
  obtain ⟨x, hx, h1⟩ := Option.bind_eq_some_iff.1 h
  obtain ⟨y, hy, h2⟩ := Option.bind_eq_some_iff.1 h1
  clear h h1
  split at h2
  case isFalse => cases h2
  rename_i hxy
  obtain ⟨rfl, rfl⟩ := hxy
  obtain rfl := Option.some.inj h2
  clear h2
  obtain ⟨K1, hi⟩ := Ev.rounds (g := fun k => lambrequinref10_Ints.f k [1, 0, 0] [1, 0, 0]) (Ints_refl [1, 0, 0] (by decide))
  have HI := Aside0.mk hi
  have hs : ∃ K2, lambrequinref09_Same.f K2 [⟨#[112]⟩, ⟨#[112]⟩] [⟨#[112]⟩, ⟨#[112]⟩] = some true := ⟨5, by first | kernel_rfl | decide +kernel | (simp [lambrequinref09_Same.f, lambrequinref09_Same.l0, rdOf, wrap64])⟩
  obtain ⟨K2, hs⟩ := hs
  have HS := Aside0.mk hs
  have HX := Aside0.mk hx
  have HY := Aside0.mk hy
  clear hi hs hx hy
  have hu1 := Try.underlying50
  have hu2 := Try.underlying64
  go_enter Try.func27, Try.ntmps27
  go_wp2_with (first
    | (go_at_call 50; (first
      | ((with_reducible refine (sh11_rule ⟨#[112]⟩ 2 ⟨#[113]⟩ _).mono ?_); rintro e w1 ⟨u1, v1, rfl, F1, B1⟩)
      | ((with_reducible refine (sh11_rule ⟨#[113]⟩ 1 ⟨#[114]⟩ _).mono ?_); rintro e w2 ⟨u2, v2, rfl, F2, B2⟩; replace F1 := keep11 F1 B2)
      | ((with_reducible refine (sh11_rule ⟨#[112]⟩ 2 ⟨#[112]⟩ _).mono ?_); rintro e w4 ⟨u3, v3, rfl, F4, B4⟩; replace F3 := keepI11 F3 B4)))
    | (go_at_call 29; (first
      | ((with_reducible refine (sh11_a k HX w2 _ u1 v1 u2 v2 F1 F2 rfl).mono ?_); rintro e w3 ⟨A, A', c, c', rfl, F3, B3⟩)
      | ((with_reducible refine (sh11_b k HY w4 _ u3 v3 F4 rfl).mono ?_); rintro e w5 ⟨D, D', d, d', rfl, F5, B5⟩; replace F3 := keepI11 F3 B5)))
    | (go_at_call 19; go_must (refine (lambrequinref10_Ints.calls K1 _ _ [1, 0, 0] _ _ [1, 0, 0] true _ (Kd.C_alloc F3.out.1 _) F3.out.2 (C_cells (blk_new w5 _) (Kd.reps_scalar [1, 0, 0]) (by decide)) (by decide) HI.out).mono ?_); rintro e w6 ⟨rfl, b6⟩; have F6 := Aside0.mk (Kd.C_below (Kd.C_alloc F5.out.1 _) b6.below); have B6 : Aside0 (Below w5.heap.size w5 w6) := ⟨Below.then (below_alloc (Below.refl _ _) _) b6.below⟩; clear b6)
    | (go_at_call 31; go_must (refine (lambrequinref09_Same.calls K2 _ _ [⟨#[112]⟩, ⟨#[112]⟩] _ _ [⟨#[112]⟩, ⟨#[112]⟩] true _ (Kd.C_alloc F6.out _) F5.out.2 (C_cells (blk_new w6 _) (rep11 _) (by decide)) (by decide) HS.out).mono ?_); rintro e w7 ⟨rfl, b7⟩; have B7 : Aside0 (Below w6.heap.size w6 w7) := ⟨Below.then (below_alloc (Below.refl _ _) _) b7.below⟩; clear b7))
  go_ret
  exact ⟨rfl, Below.then B1.out (Below.then B2.out (Below.then B3.out (Below.then B4.out (Below.then B5.out (Below.then B6.out B7.out)))))⟩
end Go.Proofs.Ytmlhnjonmjmhdaa.H
namespace Go.Proofs.Ytmlhnjonmjmhdaa.H
open Go.RowKit Go.Proofs.YtmlhnjonmjmhdaaW.PrintWords
/-- no longer than the model's longest text -/
def bStr (s : ByteArray) : Prop := s.size ≤ 9223372036854775807
/-- What an argument of a type holds, read as the kind kd; B: how long its texts are. -/
structure Opens {α : Type} (P : Program) (t : TypeId) (kd : Kd α) (B : α → Prop) : Prop where
  size : P.cellsOf t = kd.sz
  opened : ∀ {H : Type} {enc : TypeId × Value → H} {w : World} {base : Nat} {sp : Nat → Bool} {held : Bool} {fuel : Nat} {cs : List Value} {x : DataW H × List MemPlace},
    DataW.trod enc P w base sp held fuel t cs = some x → ∃ a, kd.K w a cs ∧ B a
theorem Opens.as {α : Type} {P : Program} {t : TypeId} {kd : Kd α} {B B' : α → Prop} (h : Opens P t kd B) (hB : ∀ a, B a → B' a) : Opens P t kd B' :=
  ⟨h.size, fun hx => by obtain ⟨a, ha, hb⟩ := h.opened hx; exact ⟨a, ha, hB a hb⟩⟩
theorem opens_bool {P : Program} {t : TypeId} (ht : P.underlying t = some .bool) (hs : P.cellsOf t = 1) : Opens P t Kd.bool (fun _ => True) :=
  ⟨hs, fun h => by obtain ⟨b, rfl, _⟩ := DataW.trod_bool ht h; exact ⟨b, rfl, trivial⟩⟩
theorem opens_int {P : Program} {t : TypeId} {k : IntKind} (ht : P.underlying t = some (.int k)) (hs : P.cellsOf t = 1) : Opens P t (Kd.int k) (fun _ => True) :=
  ⟨hs, fun h => by obtain ⟨b, rfl, _⟩ := DataW.trod_int ht h; exact ⟨b, rfl, trivial⟩⟩
theorem opens_string {P : Program} {t : TypeId} (ht : P.underlying t = some .string) (hs : P.cellsOf t = 1) : Opens P t Kd.string bStr :=
  ⟨hs, fun h => by obtain ⟨b, rfl, _, hb⟩ := DataW.trod_string ht h; exact ⟨b, rfl, hb⟩⟩
theorem list_of {α : Type} (p : Nat → α → Prop) : ∀ n : Nat, (∀ i, i < n → ∃ y, p i y) → ∃ l : List α, l.length = n ∧ ∀ i y, l[i]? = some y → p i y
  | 0, _ => ⟨[], rfl, fun i y h => by simp at h⟩
  | n + 1, h => by
    obtain ⟨l, hl, hp⟩ := list_of p n (fun i hi => h i (by omega))
    obtain ⟨y, hy⟩ := h n (by omega)
    refine ⟨l ++ [y], by simp [hl], fun i z hz => ?_⟩
    rcases Nat.lt_trichotomy i n with hi | rfl | hi
    · rw [List.getElem?_append_left (by omega)] at hz
      exact hp i z hz
    · rw [List.getElem?_append_right (by omega), hl, Nat.sub_self] at hz
      simp at hz
      subst hz
      exact hy
    · rw [List.getElem?_eq_none (by simp [hl]; omega)] at hz
      simp at hz
theorem addr_add_add (a : Addr) (i j : Nat) : (a.add i).add j = a.add (i + j) := by
  unfold Addr.add
  by_cases hi : i = 0 <;> by_cases hj : j = 0 <;> simp [hi, hj, Nat.add_assoc]
theorem opens_slice {α : Type} {P : Program} {t e : TypeId} {kd : Kd α} {B : α → Prop} (ht : P.underlying t = some (.slice e)) (hs : P.cellsOf t = 1) (he : Opens P e kd B) (q : Nat) : Opens P t (Kd.slice q kd) (fun l => l.length ≤ 9223372036854775807 ∧ ∀ y ∈ l, B y) := by
  refine ⟨hs, fun {H enc w base sp held fuel cs x} h => ?_⟩
  rcases DataW.trod_slice ht h with ⟨rfl, _⟩ | ⟨a, len, cap, elems, rest, n, _, rfl, _, _, hl, hm, hlen, hel, _⟩
  · exact ⟨[], ⟨none, 0, rfl, Nat.le_refl _, rfl, by simp, fun h => absurd h (by simp)⟩, by simp, by simp⟩
  · obtain ⟨l, hll, hp⟩ := list_of (fun i y => B y ∧ ∃ c, c.length = kd.sz ∧ kd.K w y c ∧ ∀ j u, c[j]? = some u → w.cell? (a.add (i * kd.sz + j)) = some u) len (fun i hi => by
      have h1 := hel i hi
      rw [List.getElem?_eq_getElem (by omega)] at h1
      obtain ⟨cs', h2, h3⟩ := Option.bind_eq_some_iff.1 h1
      obtain ⟨y, hy, hby⟩ := he.opened h3
      obtain ⟨_, h4, h5⟩ := World.cells?_some h2
      refine ⟨y, hby, cs', by rw [h4, he.size], hy, fun j u hu => ?_⟩
      have hj : j < P.cellsOf e := by rw [← h4]; exact (List.getElem?_eq_some_iff.1 hu).1
      rw [← addr_add_add, ← he.size, h5 j hj, hu])
    subst hll
    refine ⟨l, ⟨some a, cap, rfl, hl, rfl, Nat.le_trans hl (Nat.le_trans hm (by decide)), fun _ => ⟨a, rfl, fun j p hj => (hp j p hj).2⟩⟩, Nat.le_trans hl (Nat.le_trans hm (by decide)), fun y hy => ?_⟩
    obtain ⟨i, hi, rfl⟩ := List.mem_iff_getElem.1 hy
    exact (hp i _ (List.getElem?_eq_getElem hi)).1
theorem opens_iso {α β : Type} {P : Program} {t : TypeId} {kd : Kd α} {B : α → Prop} (h : Opens P t kd B) (f : β → α) (hf : ∀ b, ∃ a, f a = b) : Opens P t (Kd.iso kd f) (fun b => B (f b)) :=
  ⟨h.size, fun hx => by obtain ⟨a, ha⟩ := h.opened hx; obtain ⟨b, rfl⟩ := hf a; exact ⟨b, ha⟩⟩
/-- The fields of a struct from the offset o on. -/
structure OpensL {α : Type} (P : Program) (fs : List Field) (o : Nat) (kd : Kd α) (B : α → Prop) : Prop where
  opened : ∀ {H : Type} {enc : TypeId × Value → H} {w : World} {base : Nat} {sp : Nat → Bool} {held : Bool} {fuel : Nat} (cs : List Value), cs.length = o + kd.sz →
    (∀ f ∈ fs, ∃ x, DataW.trod enc P w base sp held fuel f.type ((cs.drop f.offset).take (P.cellsOf f.type)) = some x) → ∃ a, kd.K w a (cs.drop o) ∧ B a
theorem opensL_one {α : Type} {P : Program} {f : Field} {o : Nat} {kd : Kd α} {B : α → Prop} (ho : f.offset = o) (h : Opens P f.type kd B) : OpensL P [f] o kd B := by
  refine ⟨fun {H enc w base sp held fuel} cs hcs hf => ?_⟩
  obtain ⟨x, hx⟩ := hf f (by simp)
  obtain ⟨a, ha, hb⟩ := h.opened hx
  rw [ho, h.size, List.take_of_length_le (by simp [hcs])] at ha
  exact ⟨a, ha, hb⟩
theorem opensL_cons {α β : Type} {P : Program} {f : Field} {fs : List Field} {o : Nat} {kd : Kd α} {kd' : Kd β} {B : α → Prop} {B' : β → Prop} (ho : f.offset = o) (h : Opens P f.type kd B) (hr : OpensL P fs (o + kd.sz) kd' B') : OpensL P (f :: fs) o (Kd.pair kd kd') (fun p => B p.1 ∧ B' p.2) := by
  refine ⟨fun {H enc w base sp held fuel} cs hcs hf => ?_⟩
  obtain ⟨x, hx⟩ := hf f (by simp)
  obtain ⟨a, ha, hba⟩ := h.opened hx
  have hcs' : cs.length = o + kd.sz + kd'.sz := by rw [hcs]; show o + (kd.sz + kd'.sz) = _; omega
  obtain ⟨b, hb, hbb⟩ := hr.opened cs hcs' (fun g hg => hf g (by simp [hg]))
  rw [ho, h.size] at ha
  refine ⟨(a, b), ⟨(cs.drop o).take kd.sz, (cs.drop (o + kd.sz)), ?_, ha, hb⟩, hba, hbb⟩
  rw [← List.drop_drop, List.take_append_drop]
theorem opens_struct {α : Type} {P : Program} {t : TypeId} {fs : List Field} {kd : Kd α} {B : α → Prop} (ht : P.underlying t = some (.struct ⟨fs⟩)) (hs : P.cellsOf t = kd.sz) (h : OpensL P fs 0 kd B) : Opens P t kd B := by
  refine ⟨hs, fun {H enc w base sp held fuel cs x} hx => ?_⟩
  obtain ⟨xs, n, _, _, hl, hlen, hf⟩ := DataW.trod_struct ht hx
  obtain ⟨a, ha, hb⟩ := h.opened (enc := enc) (w := w) (base := base) (sp := sp) (held := held) (fuel := n) cs (by rw [hl, hs]; omega) (fun f hfm => by
    obtain ⟨i, hi, rfl⟩ := List.mem_iff_getElem.1 hfm
    have h1 := hf i fs[i] (by simp [hi])
    exact ⟨xs[i]'(by rw [hlen]; simpa using hi), by rw [h1, List.getElem?_eq_getElem]⟩)
  exact ⟨a, by simpa using ha, hb⟩
/-- an array of two numbers -/
theorem opens_arr2 {P : Program} {t e : TypeId} {k : IntKind} (ht : P.underlying t = some (.array 2 e)) (hu : P.underlying e = some (.int k)) (hs : P.cellsOf t = 2) (he : P.cellsOf e = 1) :
    Opens P t (Kd.pair (Kd.int k) (Kd.int k)) (fun p => (Lit.int k p.1).wf = true ∧ (Lit.int k p.2).wf = true) := by
  refine ⟨hs, fun {H enc w base sp held fuel cs x} hx => ?_⟩
  obtain ⟨xs, m, _, _, hl, hlen, hel⟩ := DataW.trod_array ht hx
  rw [hs] at hl
  match cs, hl with
  | [c0, c1], _ =>
    match xs, hlen with
    | [x0, x1], _ =>
      have h0 := hel 0 (by decide)
      have h1 := hel 1 (by decide)
      rw [he] at h0 h1
      obtain ⟨a, ea, _, wa⟩ := DataW.trod_int hu (show DataW.trod enc P w base sp held m e [c0] = some x0 from h0)
      obtain ⟨b, eb, _, wb⟩ := DataW.trod_int hu (show DataW.trod enc P w base sp held m e [c1] = some x1 from h1)
      cases ea; cases eb
      exact ⟨(a, b), ⟨[.int k a], [.int k b], rfl, rfl, rfl⟩, wa, wb⟩
theorem okWide_array {P : Program} {w : World} {r : Reach} {base : Nat} {t e : TypeId} {n : Nat} {v : Value} (ht : P.underlying t = some (.array n e)) (h : Value.okWide P w r base t v) : ∃ cs, v = .agg cs ∧ cs.size = P.cellsOf t := by
  simp only [Value.okWide, ht] at h
  obtain ⟨cs, h1, h2, _⟩ := h
  exact ⟨cs, h1, h2⟩
theorem opens_isoL {α β : Type} {P : Program} {fs : List Field} {o : Nat} {kd : Kd α} {B : α → Prop} (h : OpensL P fs o kd B) (f : β → α) (hf : ∀ b, ∃ a, f a = b) : OpensL P fs o (Kd.iso kd f) (fun b => B (f b)) := by
  refine ⟨fun {H enc w base sp held fuel} cs hcs hx => ?_⟩
  obtain ⟨a, ha⟩ := h.opened cs hcs hx
  obtain ⟨b, rfl⟩ := hf a
  exact ⟨b, ha⟩
/-- an argument's value, opened -/
theorem Opens.argB {α : Type} {P : Program} {t : TypeId} {kd : Kd α} {B : α → Prop} (h : Opens P t kd B) {H : Type} {enc : TypeId × Value → H} {w : World} {base : Nat} {sp : Nat → Bool} {held : Bool} {v : Value} {d : DataW H} {ps : List MemPlace}
    (hv : DataW.Trod enc P w base sp held t v d ps) : ∃ a, kd.K w a v.cells.toList ∧ B a := by
  obtain ⟨fuel, hf⟩ := hv
  exact h.opened hf
theorem Opens.arg {α : Type} {P : Program} {t : TypeId} {kd : Kd α} {B : α → Prop} (h : Opens P t kd B) {H : Type} {enc : TypeId × Value → H} {w : World} {base : Nat} {sp : Nat → Bool} {held : Bool} {v : Value} {d : DataW H} {ps : List MemPlace}
    (hv : DataW.Trod enc P w base sp held t v d ps) : ∃ a, kd.K w a v.cells.toList := by
  obtain ⟨a, ha, _⟩ := h.argB hv
  exact ⟨a, ha⟩
/-- An argument's row is no longer than its weight allows. -/
theorem sized_row {H : Type} {enc : TypeId × Value → H} {P : Program} {W : World} {base : Nat} {spare : Nat → Bool} {held : Bool} {t e : TypeId} {a : Option Addr} {len cap : Nat} {d : DataW H} {ps : List MemPlace} {ts : List TypeId} {ds : List (DataW H)} {j : Nat}
    (hsz : (DataW.weightsEach P ts ds).all (· ≤ reachBytes) = true) (ht : ts[j]? = some t) (hd : ds[j]? = some d) (hu : P.underlying t = some (.slice e)) {B : Nat} (hB : P.bytesOf e = B)
    (h : DataW.Trod enc P W base spare held t (.slice a len cap) d ps) : len * B ≤ 140737488351232 := by
  obtain ⟨fuel, hf⟩ := h
  rcases DataW.trod_slice hu hf with ⟨hcs, _⟩ | ⟨x, l, c, elems, rest, n, _, hcs, hx, _, hl, _, hlen, _⟩
  · simp [Value.cells] at hcs
    obtain ⟨rfl, rfl, rfl⟩ := hcs
    simp
  · simp [Value.cells] at hcs
    obtain ⟨rfl, rfl, rfl⟩ := hcs
    obtain ⟨rfl, _⟩ := Prod.mk.inj hx
    have z := sized_slice hsz ht hd hu
    rw [hB, List.length_map, List.length_map, hlen] at z
    exact Nat.le_trans (Nat.mul_le_mul_right _ (Nat.le_add_right _ _)) z
def bVal (x : Val) : Prop := True ∧ bStr (x.sym) ∧ True
theorem opens_Val : Opens Try.prog 67 k67 bVal :=
  Opens.as (opens_struct Try.underlying67 (by kernel_rfl) (opens_isoL (opensL_cons rfl (opens_bool (by kernel_rfl) (by kernel_rfl)) (opensL_cons rfl (opens_string (by kernel_rfl) (by kernel_rfl)) (opensL_one rfl (opens_int (by kernel_rfl) (by kernel_rfl))))) _ (fun b => ⟨⟨b.1, b.2.1, b.2.2⟩, rfl⟩))) (fun _ h => h)
def bTerm (x : Term) : Prop := True ∧ bStr (x.name) ∧ bVal (x.val)
theorem opens_Term : Opens Try.prog 69 k69 bTerm :=
  Opens.as (opens_struct Try.underlying69 (by kernel_rfl) (opens_isoL (opensL_cons rfl (opens_bool (by kernel_rfl) (by kernel_rfl)) (opensL_cons rfl (opens_string (by kernel_rfl) (by kernel_rfl)) (opensL_one rfl opens_Val))) _ (fun b => ⟨⟨b.1, b.2.1, b.2.2⟩, rfl⟩))) (fun _ h => h)
def bAtom (x : Atom) : Prop := bStr (x.pred) ∧ (x.args.length ≤ 9223372036854775807 ∧ ∀ y ∈ x.args, bTerm (y))
theorem opens_Atom : Opens Try.prog 61 k61 bAtom :=
  Opens.as (opens_struct Try.underlying61 (by kernel_rfl) (opens_isoL (opensL_cons rfl (opens_string (by kernel_rfl) (by kernel_rfl)) (opensL_one rfl (opens_slice (by kernel_rfl) (by kernel_rfl) opens_Term 69))) _ (fun b => ⟨⟨b.1, b.2⟩, rfl⟩))) (fun _ h => h)
def bLiter (x : Liter) : Prop := True ∧ bAtom (x.atom) ∧ bStr (x.op) ∧ bTerm (x.l) ∧ bTerm (x.r)
theorem opens_Liter : Opens Try.prog 71 k71 bLiter :=
  Opens.as (opens_struct Try.underlying71 (by kernel_rfl) (opens_isoL (opensL_cons rfl (opens_int (by kernel_rfl) (by kernel_rfl)) (opensL_cons rfl opens_Atom (opensL_cons rfl (opens_string (by kernel_rfl) (by kernel_rfl)) (opensL_cons rfl opens_Term (opensL_one rfl opens_Term))))) _ (fun b => ⟨⟨b.1, b.2.1, b.2.2.1, b.2.2.2.1, b.2.2.2.2⟩, rfl⟩))) (fun _ h => h)
def bRule (x : Rule) : Prop := bAtom (x.head) ∧ (x.body.length ≤ 9223372036854775807 ∧ ∀ y ∈ x.body, bLiter (y))
theorem opens_Rule : Opens Try.prog 64 k64 bRule :=
  Opens.as (opens_struct Try.underlying64 (by kernel_rfl) (opens_isoL (opensL_cons rfl opens_Atom (opensL_one rfl (opens_slice (by kernel_rfl) (by kernel_rfl) opens_Liter 71))) _ (fun b => ⟨⟨b.1, b.2⟩, rfl⟩))) (fun _ h => h)
def bDecl (x : Decl) : Prop := bStr (x.pred) ∧ True
theorem opens_Decl : Opens Try.prog 96 k96 bDecl :=
  Opens.as (opens_struct Try.underlying96 (by kernel_rfl) (opens_isoL (opensL_cons rfl (opens_string (by kernel_rfl) (by kernel_rfl)) (opensL_one rfl (opens_int (by kernel_rfl) (by kernel_rfl)))) _ (fun b => ⟨⟨b.1, b.2⟩, rfl⟩))) (fun _ h => h)
def bProg (x : Prog) : Prop := (x.decls.length ≤ 9223372036854775807 ∧ ∀ y ∈ x.decls, bDecl (y)) ∧ (x.rules.length ≤ 9223372036854775807 ∧ ∀ y ∈ x.rules, bRule (y))
theorem opens_Prog : Opens Try.prog 50 k50 bProg :=
  Opens.as (opens_struct Try.underlying50 (by kernel_rfl) (opens_isoL (opensL_cons rfl (opens_slice (by kernel_rfl) (by kernel_rfl) opens_Decl 96) (opensL_one rfl (opens_slice (by kernel_rfl) (by kernel_rfl) opens_Rule 64))) _ (fun b => ⟨⟨b.1, b.2⟩, rfl⟩))) (fun _ h => h)
def bIPair (x : IPair) : Prop := (Lit.int .i64 x.fst).wf = true ∧ (Lit.int .i64 x.snd).wf = true
theorem opens_IPair : Opens Try.prog 27 k27 bIPair :=
  Opens.as (opens_iso (opens_arr2 Try.underlying27 Try.underlying3 (by kernel_rfl) (by kernel_rfl)) _ (fun b => ⟨⟨b.1, b.2⟩, rfl⟩)) (fun _ h => h)
def bBPair (x : BPair) : Prop := (Lit.int .u8 x.fst).wf = true ∧ (Lit.int .u8 x.snd).wf = true
theorem opens_BPair : Opens Try.prog 45 k45 bBPair :=
  Opens.as (opens_iso (opens_arr2 Try.underlying45 Try.underlying5 (by kernel_rfl) (by kernel_rfl)) _ (fun b => ⟨⟨b.1, b.2⟩, rfl⟩)) (fun _ h => h)
end Go.Proofs.Ytmlhnjonmjmhdaa.H
/- what an argument of bounded bulk holds ('..UptoSaid') -/
namespace Go.Proofs.Ytmlhnjonmjmhdaa.H
open Go.RowKit Go.Proofs.YtmlhnjonmjmhdaaW.PrintWords
open Go.Proofs.Ytmlhnjonmjmhdaa.Rows (uptoBulk uptoBulkAll)
theorem bulkAll_sum {H : Type} : ∀ l : List (DataW H), uptoBulkAll l = (l.map uptoBulk).sum
  | [] => by simp [uptoBulkAll]
  | d :: r => by simp [uptoBulkAll, bulkAll_sum r]
theorem sum_le_of {α β : Type} (f : α → Nat) (g : β → Nat) : ∀ (l : List α) (m : List β), l.length = m.length → (∀ (i : Nat) y e, l[i]? = some y → m[i]? = some e → f y ≤ g e) → (l.map f).sum ≤ (m.map g).sum
  | [], _, _, _ => by simp
  | _ :: _, [], h, _ => by simp at h
  | y :: l, e :: m, h, hp => by
    rw [List.map_cons, List.map_cons, List.sum_cons, List.sum_cons]
    exact Nat.add_le_add (hp 0 y e rfl rfl) (sum_le_of f g l m (by simpa using h) (fun i y' e' h1 h2 => hp (i + 1) y' e' (by simpa using h1) (by simpa using h2)))
structure OpensU {α : Type} (P : Program) (t : TypeId) (kd : Kd α) (sz : α → Nat) : Prop where
  size : P.cellsOf t = kd.sz
  opened : ∀ {H : Type} {enc : TypeId × Value → H} {w : World} {base : Nat} {sp : Nat → Bool} {held : Bool} {fuel : Nat} {cs : List Value} {x : DataW H × List MemPlace},
    DataW.trod enc P w base sp held fuel t cs = some x → ∃ a, kd.K w a cs ∧ sz a ≤ uptoBulk x.1
theorem OpensU.as {α : Type} {P : Program} {t : TypeId} {kd : Kd α} {sz sz' : α → Nat} (h : OpensU P t kd sz) (hs : ∀ a, sz' a ≤ sz a) : OpensU P t kd sz' :=
  ⟨h.size, fun hx => by obtain ⟨a, ha, hb⟩ := h.opened hx; exact ⟨a, ha, Nat.le_trans (hs a) hb⟩⟩
theorem opensU_bool {P : Program} {t : TypeId} (ht : P.underlying t = some .bool) (hs : P.cellsOf t = 1) : OpensU P t Kd.bool (fun _ => 1) :=
  ⟨hs, fun h => by obtain ⟨b, rfl, rfl⟩ := DataW.trod_bool ht h; exact ⟨b, rfl, by simp [uptoBulk]⟩⟩
theorem opensU_int {P : Program} {t : TypeId} {k : IntKind} (ht : P.underlying t = some (.int k)) (hs : P.cellsOf t = 1) : OpensU P t (Kd.int k) (fun _ => 1) :=
  ⟨hs, fun h => by obtain ⟨b, rfl, rfl, _⟩ := DataW.trod_int ht h; exact ⟨b, rfl, by simp [uptoBulk]⟩⟩
/-- a number: of size 1, were it none of its kind: greater than any bound -/
def szB (k : IntKind) (v : Int) : Nat := if (Lit.int k v).wf = true then 1 else 1048577
theorem szB_ge (k : IntKind) (v : Int) : 1 ≤ szB k v := by unfold szB; split <;> omega
theorem szB_wf {k : IntKind} {v : Int} (h : szB k v ≤ 1048576) : (Lit.int k v).wf = true := by
  unfold szB at h
  split at h
  · assumption
  · omega
theorem opensU_intB {P : Program} {t : TypeId} {k : IntKind} (ht : P.underlying t = some (.int k)) (hs : P.cellsOf t = 1) : OpensU P t (Kd.int k) (szB k) :=
  ⟨hs, fun h => by obtain ⟨b, rfl, rfl, hw⟩ := DataW.trod_int ht h; exact ⟨b, rfl, by unfold szB; rw [if_pos hw]; simp [uptoBulk]⟩⟩
theorem opensU_string {P : Program} {t : TypeId} (ht : P.underlying t = some .string) (hs : P.cellsOf t = 1) : OpensU P t Kd.string (fun s => s.size + 1) :=
  ⟨hs, fun h => by obtain ⟨b, rfl, rfl, hb⟩ := DataW.trod_string ht h; exact ⟨b, rfl, by simp [uptoBulk]⟩⟩
theorem opensU_slice {α : Type} {P : Program} {t e : TypeId} {kd : Kd α} {sz : α → Nat} (ht : P.underlying t = some (.slice e)) (hs : P.cellsOf t = 1) (he : OpensU P e kd sz) (q : Nat) : OpensU P t (Kd.slice q kd) (fun l => (l.map sz).sum + 1) := by
  refine ⟨hs, fun {H enc w base sp held fuel cs x} h => ?_⟩
  rcases DataW.trod_slice ht h with ⟨rfl, hx⟩ | ⟨a, len, cap, elems, rest, n, _, rfl, hx, _, hl, hm, hlen, hel, _⟩
  · exact ⟨[], ⟨none, 0, rfl, Nat.le_refl _, rfl, by simp, fun h => absurd h (by simp)⟩, by rw [hx]; simp [uptoBulk]⟩
  · obtain ⟨l, hll, hp⟩ := list_of (fun i y => (∀ d, elems[i]? = some d → sz y ≤ uptoBulk d.1) ∧ ∃ c, c.length = kd.sz ∧ kd.K w y c ∧ ∀ j u, c[j]? = some u → w.cell? (a.add (i * kd.sz + j)) = some u) len (fun i hi => by
      have h1 := hel i hi
      rw [List.getElem?_eq_getElem (by omega)] at h1
      obtain ⟨cs', h2, h3⟩ := Option.bind_eq_some_iff.1 h1
      obtain ⟨y, hy, hby⟩ := he.opened h3
      obtain ⟨_, h4, h5⟩ := World.cells?_some h2
      refine ⟨y, fun d hd => ?_, cs', by rw [h4, he.size], hy, fun j u hu => ?_⟩
      · rw [List.getElem?_eq_getElem (by omega)] at hd
        rw [← Option.some.inj hd]
        exact hby
      · have hj : j < P.cellsOf e := by rw [← h4]; exact (List.getElem?_eq_some_iff.1 hu).1
        rw [← addr_add_add, ← he.size, h5 j hj, hu])
    subst hll
    refine ⟨l, ⟨some a, cap, rfl, hl, rfl, Nat.le_trans hl (Nat.le_trans hm (by decide)), fun _ => ⟨a, rfl, fun j p hj => (hp j p hj).2⟩⟩, ?_⟩
    rw [hx]
    show (l.map sz).sum + 1 ≤ uptoBulkAll (elems.map (·.1)) + uptoBulkAll (rest.map (·.1)) + 1
    rw [bulkAll_sum, List.map_map]
    have := sum_le_of sz (uptoBulk ∘ fun (x : DataW H × List MemPlace) => x.1) l elems (by omega) (fun i y d h1 h2 => (hp i y h1).1 d h2)
    omega
structure OpensLU {α : Type} (P : Program) (fs : List Field) (o : Nat) (kd : Kd α) (sz : α → Nat) : Prop where
  opened : ∀ {H : Type} {enc : TypeId × Value → H} {w : World} {base : Nat} {sp : Nat → Bool} {held : Bool} {fuel : Nat} (cs : List Value) (xs : List (DataW H × List MemPlace)), cs.length = o + kd.sz → xs.length = fs.length →
    (∀ (i : Nat) f, fs[i]? = some f → DataW.trod enc P w base sp held fuel f.type ((cs.drop f.offset).take (P.cellsOf f.type)) = xs[i]?) → ∃ a, kd.K w a (cs.drop o) ∧ sz a ≤ (xs.map fun x => uptoBulk x.1).sum
theorem opensLU_one {α : Type} {P : Program} {f : Field} {o : Nat} {kd : Kd α} {sz : α → Nat} (ho : f.offset = o) (h : OpensU P f.type kd sz) : OpensLU P [f] o kd sz := by
  refine ⟨fun {H enc w base sp held fuel} cs xs hcs hxs hf => ?_⟩
  match xs, hxs with
  | [x], _ =>
    have hx := hf 0 f rfl
    obtain ⟨a, ha, hb⟩ := h.opened (show DataW.trod enc P w base sp held fuel f.type ((cs.drop f.offset).take (P.cellsOf f.type)) = some x from hx)
    rw [ho, h.size, List.take_of_length_le (by simp [hcs])] at ha
    exact ⟨a, ha, by simpa using hb⟩
theorem opensLU_cons {α β : Type} {P : Program} {f : Field} {fs : List Field} {o : Nat} {kd : Kd α} {kd' : Kd β} {sz : α → Nat} {sz' : β → Nat} (ho : f.offset = o) (h : OpensU P f.type kd sz) (hr : OpensLU P fs (o + kd.sz) kd' sz') : OpensLU P (f :: fs) o (Kd.pair kd kd') (fun p => sz p.1 + sz' p.2) := by
  refine ⟨fun {H enc w base sp held fuel} cs xs hcs hxs hf => ?_⟩
  match xs, hxs with
  | x :: xs, hxs =>
    have hx := hf 0 f rfl
    obtain ⟨a, ha, hba⟩ := h.opened (show DataW.trod enc P w base sp held fuel f.type ((cs.drop f.offset).take (P.cellsOf f.type)) = some x from hx)
    have hcs' : cs.length = o + kd.sz + kd'.sz := by rw [hcs]; show o + (kd.sz + kd'.sz) = _; omega
    obtain ⟨b, hb, hbb⟩ := hr.opened cs xs hcs' (by simpa using hxs) (fun i g hg => by have := hf (i + 1) g (by simpa using hg); simpa using this)
    rw [ho, h.size] at ha
    refine ⟨(a, b), ⟨(cs.drop o).take kd.sz, (cs.drop (o + kd.sz)), ?_, ha, hb⟩, ?_⟩
    · rw [← List.drop_drop, List.take_append_drop]
    · rw [List.map_cons, List.sum_cons]
      exact Nat.add_le_add hba hbb
theorem opensU_struct {α : Type} {P : Program} {t : TypeId} {fs : List Field} {kd : Kd α} {sz : α → Nat} (ht : P.underlying t = some (.struct ⟨fs⟩)) (hs : P.cellsOf t = kd.sz) (h : OpensLU P fs 0 kd sz) : OpensU P t kd (fun a => sz a + 1) := by
  refine ⟨hs, fun {H enc w base sp held fuel cs x} hx => ?_⟩
  obtain ⟨xs, n, _, he, hl, hlen, hf⟩ := DataW.trod_struct ht hx
  obtain ⟨a, ha, hb⟩ := h.opened (enc := enc) (w := w) (base := base) (sp := sp) (held := held) (fuel := n) cs xs (by rw [hl, hs]; omega) (by simpa using hlen) (fun i f hfi => hf i f (by simpa using hfi))
  refine ⟨a, by simpa using ha, ?_⟩
  rw [he]
  show sz a + 1 ≤ uptoBulkAll (xs.map (·.1)) + 1
  rw [bulkAll_sum, List.map_map]
  exact Nat.succ_le_succ hb
theorem opensLU_iso {α β : Type} {P : Program} {fs : List Field} {o : Nat} {kd : Kd α} {sz : α → Nat} (h : OpensLU P fs o kd sz) (f : β → α) (hf : ∀ b, ∃ a, f a = b) : OpensLU P fs o (Kd.iso kd f) (fun b => sz (f b)) := by
  refine ⟨fun {H enc w base sp held fuel} cs xs hcs hxs hx => ?_⟩
  obtain ⟨a, ha, hs⟩ := h.opened cs xs hcs hxs hx
  obtain ⟨b, rfl⟩ := hf a
  exact ⟨b, ha, hs⟩
/-- an argument's value, opened -/
theorem OpensU.arg {α : Type} {P : Program} {t : TypeId} {kd : Kd α} {sz : α → Nat} (h : OpensU P t kd sz) {H : Type} {enc : TypeId × Value → H} {w : World} {base : Nat} {sp : Nat → Bool} {held : Bool} {v : Value} {d : DataW H} {ps : List MemPlace}
    (hv : DataW.Trod enc P w base sp held t v d ps) : ∃ a, kd.K w a v.cells.toList ∧ sz a ≤ uptoBulk d := by
  obtain ⟨fuel, hf⟩ := hv
  exact h.opened hf
def sUVal (x : Val) : Nat := (1 + ((x.sym.size + 1) + 1)) + 1
theorem opensU_Val : OpensU Try.prog 67 k67 sUVal :=
  OpensU.as (opensU_struct Try.underlying67 (by kernel_rfl) (opensLU_iso (opensLU_cons rfl (opensU_bool (by kernel_rfl) (by kernel_rfl)) (opensLU_cons rfl (opensU_string (by kernel_rfl) (by kernel_rfl)) (opensLU_one rfl (opensU_int (by kernel_rfl) (by kernel_rfl))))) _ (fun b => ⟨⟨b.1, b.2.1, b.2.2⟩, rfl⟩))) (fun _ => Nat.le_refl _)
def sUTerm (x : Term) : Nat := (1 + ((x.name.size + 1) + sUVal x.val)) + 1
theorem opensU_Term : OpensU Try.prog 69 k69 sUTerm :=
  OpensU.as (opensU_struct Try.underlying69 (by kernel_rfl) (opensLU_iso (opensLU_cons rfl (opensU_bool (by kernel_rfl) (by kernel_rfl)) (opensLU_cons rfl (opensU_string (by kernel_rfl) (by kernel_rfl)) (opensLU_one rfl opensU_Val))) _ (fun b => ⟨⟨b.1, b.2.1, b.2.2⟩, rfl⟩))) (fun _ => Nat.le_refl _)
def sUAtom (x : Atom) : Nat := ((x.pred.size + 1) + ((x.args.map fun y => sUTerm y).sum + 1)) + 1
theorem opensU_Atom : OpensU Try.prog 61 k61 sUAtom :=
  OpensU.as (opensU_struct Try.underlying61 (by kernel_rfl) (opensLU_iso (opensLU_cons rfl (opensU_string (by kernel_rfl) (by kernel_rfl)) (opensLU_one rfl (opensU_slice (by kernel_rfl) (by kernel_rfl) opensU_Term 69))) _ (fun b => ⟨⟨b.1, b.2⟩, rfl⟩))) (fun _ => Nat.le_refl _)
def sULiter (x : Liter) : Nat := (1 + (sUAtom x.atom + ((x.op.size + 1) + (sUTerm x.l + sUTerm x.r)))) + 1
theorem opensU_Liter : OpensU Try.prog 71 k71 sULiter :=
  OpensU.as (opensU_struct Try.underlying71 (by kernel_rfl) (opensLU_iso (opensLU_cons rfl (opensU_int (by kernel_rfl) (by kernel_rfl)) (opensLU_cons rfl opensU_Atom (opensLU_cons rfl (opensU_string (by kernel_rfl) (by kernel_rfl)) (opensLU_cons rfl opensU_Term (opensLU_one rfl opensU_Term))))) _ (fun b => ⟨⟨b.1, b.2.1, b.2.2.1, b.2.2.2.1, b.2.2.2.2⟩, rfl⟩))) (fun _ => Nat.le_refl _)
def sURule (x : Rule) : Nat := (sUAtom x.head + ((x.body.map fun y => sULiter y).sum + 1)) + 1
theorem opensU_Rule : OpensU Try.prog 64 k64 sURule :=
  OpensU.as (opensU_struct Try.underlying64 (by kernel_rfl) (opensLU_iso (opensLU_cons rfl opensU_Atom (opensLU_one rfl (opensU_slice (by kernel_rfl) (by kernel_rfl) opensU_Liter 71))) _ (fun b => ⟨⟨b.1, b.2⟩, rfl⟩))) (fun _ => Nat.le_refl _)
def sUDecl (x : Decl) : Nat := ((x.pred.size + 1) + 1) + 1
theorem opensU_Decl : OpensU Try.prog 96 k96 sUDecl :=
  OpensU.as (opensU_struct Try.underlying96 (by kernel_rfl) (opensLU_iso (opensLU_cons rfl (opensU_string (by kernel_rfl) (by kernel_rfl)) (opensLU_one rfl (opensU_int (by kernel_rfl) (by kernel_rfl)))) _ (fun b => ⟨⟨b.1, b.2⟩, rfl⟩))) (fun _ => Nat.le_refl _)
def sUProg (x : Prog) : Nat := (((x.decls.map fun y => sUDecl y).sum + 1) + ((x.rules.map fun y => sURule y).sum + 1)) + 1
theorem opensU_Prog : OpensU Try.prog 50 k50 sUProg :=
  OpensU.as (opensU_struct Try.underlying50 (by kernel_rfl) (opensLU_iso (opensLU_cons rfl (opensU_slice (by kernel_rfl) (by kernel_rfl) opensU_Decl 96) (opensLU_one rfl (opensU_slice (by kernel_rfl) (by kernel_rfl) opensU_Rule 64))) _ (fun b => ⟨⟨b.1, b.2⟩, rfl⟩))) (fun _ => Nat.le_refl _)
end Go.Proofs.Ytmlhnjonmjmhdaa.H
/- strata.Of, and the document's examples -/
namespace Go.Proofs.Ytmlhnjonmjmhdaa.H
open Go.RowKit Go.Proofs.YtmlhnjonmjmhdaaW.PrintWords
/-- the predicates' names -/
abbrev namesP (ds : List Decl) (rs : List Rule) : List ByteArray := setS (usesN ds rs)
theorem namesP_len (ds : List Decl) (rs : List Rule) : (namesP ds rs).length ≤ (usesN ds rs).length := setS_len _
theorem of_l0 {p : List ByteArray} {r : List Int} (hp : p.length ≤ 1000000) (hr : r.length ≤ 1000000) (hb : ∀ v ∈ r, 0 ≤ v ∧ v < (p.length : Int)) : ∀ (d : List Int) (i : Nat) (acc : List ByteArray), r.drop i = d → acc.length + d.length ≤ 1000000 →
    Ev (fun k => strata_Of.l0 k p acc r (r.length : Int) (i : Int)) ([], acc ++ d.map fun v => p.getD v.toNat ByteArray.empty, 7)
  | [], i, acc, hd, ha => by
    refine Ev.step (fun k => by rw [strata_Of.l0]) ?_
    exact Ev.neg (drop_end hd) (Ev.some (by simp))
  | y :: d, i, acc, hd, ha => by
    obtain ⟨h1, h2, h3, h4, h5⟩ := drop_more hd (by omega)
    have e : rd r (i : Int) = y := h3 _
    have hy := hb y (List.mem_of_mem_drop (by rw [hd]; exact List.mem_cons_self))
    rw [List.length_cons] at ha
    have next := of_l0 hp hr hb d (i + 1) (acc ++ [p.getD y.toNat ByteArray.empty]) h4 (by rw [List.length_append, List.length_singleton]; omega)
    rw [List.append_assoc] at next
    refine Ev.step (fun k => by rw [strata_Of.l0]) ?_
    rw [e, h5]
    clear h5
    exact Ev.pos h1 (Ev.pos h2 (Ev.pos h1 (Ev.pos hy.1 (Ev.pos hy.2 (Ev.pos (by omega) next)))))
section
variable {ds : List Decl} {rs : List Rule} (hb : ∀ r ∈ rs, r.body.length ≤ 1000000) (hu : (usesN ds rs).length ≤ 100)
include hb hu
theorem Of_no {lev : List Int} (hr : Ev (fun k => strata_ring.f k ((namesP ds rs).length : Int) (allE (namesP ds rs) rs) (negE (namesP ds rs) rs)) []) (hl : Ev (fun k => strata_levels.f k ((namesP ds rs).length : Int) (allE (namesP ds rs) rs) (negE (namesP ds rs) rs)) lev) : Ev (fun k => strata_Of.f k ds rs) (lev, [], 0) := by
  have hn := namesP_len ds rs
  unfold strata_Of.f
  exact Ev.bind (Preds_ev hb (by omega)) (Ev.neg (by show ¬ ((namesP ds rs).length : Int) > 1000; omega) (Ev.bind (Edges_ev (p := namesP ds rs) (by omega) hb (by omega)) (Ev.bind hr (Ev.neg (by decide) (Ev.bind hl (Ev.now _))))))
theorem Of_ring {r : List Int} (hr : Ev (fun k => strata_ring.f k ((namesP ds rs).length : Int) (allE (namesP ds rs) rs) (negE (namesP ds rs) rs)) r) (h0 : 0 < r.length) (h1 : r.length ≤ 1000000) (h2 : ∀ v ∈ r, 0 ≤ v ∧ v < ((namesP ds rs).length : Int)) :
    Ev (fun k => strata_Of.f k ds rs) ([], r.map fun v => (namesP ds rs).getD v.toNat ByteArray.empty, 7) := by
  have hn := namesP_len ds rs
  unfold strata_Of.f
  refine Ev.bind (Preds_ev hb (by omega)) (Ev.neg (by show ¬ ((namesP ds rs).length : Int) > 1000; omega) (Ev.bind (Edges_ev (p := namesP ds rs) (by omega) hb (by omega)) (Ev.bind hr (Ev.pos (by omega) ?_))))
  have := of_l0 (p := namesP ds rs) (by omega) h1 h2 r 0 [] rfl (by simp only [List.length_nil]; omega)
  exact this
/-- what strata.Of tells -/
theorem Of_ex : (∃ lev, Ev (fun k => strata_Of.f k ds rs) (lev, [], 0) ∧ lev.length = (namesP ds rs).length ∧ (∀ v ∈ lev, 0 ≤ v ∧ v ≤ 1000) ∧ (∀ e ∈ allE (namesP ds rs) rs, lev.getD e.snd.toNat 0 ≤ lev.getD e.fst.toNat 0) ∧ (∀ e ∈ negE (namesP ds rs) rs, lev.getD e.snd.toNat 0 < lev.getD e.fst.toNat 0) ∧ ∀ f, Num (allE (namesP ds rs) rs) (negE (namesP ds rs) rs) f → ∀ i, i < (namesP ds rs).length → lev.getD i 0 ≤ f i) ∨
    ∃ w, Ev (fun k => strata_Of.f k ds rs) ([], w, 7) ∧ ∃ e ∈ negE (namesP ds rs) rs, Rch (rws (namesP ds rs).length (allE (namesP ds rs) rs)) e.snd.toNat e.fst.toNat := by
  have hn := namesP_len ds rs
  have ha : inE (namesP ds rs).length (allE (namesP ds rs) rs) := allE_in ds rs
  obtain ⟨ha1, ha2⟩ := allE_len (ds := ds) (rs := rs) (namesP ds rs)
  obtain ⟨r, hr, h⟩ := Ring_ev (n := (namesP ds rs).length) (by omega) (by omega) (by omega) ha (fun e he => ha e (neg_all he))
  rcases h with ⟨h1, h2⟩ | ⟨⟨h1, h2, h3⟩, h4⟩
  · subst h1
    obtain ⟨lev, hl, h3⟩ := Levels_ev (n := (namesP ds rs).length) (by omega) (by omega) (by omega) ha (fun e he => neg_all he) h2
    exact .inl ⟨lev, Of_no hb hu hr hl, h3⟩
  · exact .inr ⟨_, Of_ring hb hu hr h1 h2 h3, h4⟩
end
theorem sum_ge {α : Type} (f : α → Nat) (c : Nat) (h : ∀ a, c ≤ f a) : ∀ l : List α, l.length * c ≤ (l.map f).sum
  | [] => by simp
  | a :: l => by
    have := sum_ge f c h l
    have := h a
    rw [List.map_cons, List.sum_cons, List.length_cons, Nat.succ_mul]
    omega
theorem mem_le_sum {α : Type} (f : α → Nat) : ∀ {l : List α} {a : α}, a ∈ l → f a ≤ (l.map f).sum
  | _ :: l, a, h => by
    rw [List.map_cons, List.sum_cons]
    rcases List.mem_cons.1 h with rfl | h
    · omega
    · have := mem_le_sum f h
      omega
theorem liter_ge (b : Liter) : 4 ≤ sULiter b := by unfold sULiter sUTerm sUVal; omega
theorem rule_ge (r : Rule) : r.body.length * 4 + 2 ≤ sURule r := by
  have := sum_ge (fun y => sULiter y) 4 liter_ge r.body
  unfold sURule
  omega
theorem ruleN_small (r : Rule) : (ruleN r).length ≤ sURule r := by
  have h1 := rule_ge r
  have h2 := List.length_filter_le useB r.body
  rw [ruleN_len]
  omega
theorem fm_small : ∀ rs : List Rule, (rs.flatMap ruleN).length ≤ (rs.map fun y => sURule y).sum
  | [] => by simp
  | r :: rs => by
    have h1 := ruleN_small r
    have h2 := fm_small rs
    rw [List.flatMap_cons, List.length_append, List.map_cons, List.sum_cons]
    omega
theorem prog_small {x : Prog} (h : sUProg x ≤ 1048576) : (∀ r ∈ x.rules, r.body.length ≤ 1000000) ∧ (usesN x.decls x.rules).length ≤ 2000000 ∧ x.rules.length ≤ 1000000 := by
  unfold sUProg at h
  have h1 := sum_ge (fun y => sURule y) 2 (fun r => by have := rule_ge r; omega) x.rules
  have h2 := fm_small x.rules
  have h3 := sum_ge (fun y => sUDecl y) 1 (fun d => by unfold sUDecl; omega) x.decls
  refine ⟨fun r hr => ?_, ?_, by omega⟩
  · have h4 := mem_le_sum (fun y => sURule y) hr
    have h5 := rule_ge r
    omega
  · unfold usesN
    rw [List.length_append, List.length_map]
    omega
theorem setS_is {l l' : List ByteArray} (hs : (l'.map toL).Pairwise (· < ·)) (hm : ∀ x, x ∈ l ↔ x ∈ l') : setS l = l' := by
  have nd : ∀ {m : List ByteArray}, (m.map toL).Pairwise (· < ·) → (m.map toL).Nodup := fun h => List.Pairwise.imp (R := (· < ·)) (fun {a b} h => by rintro rfl; exact List.lt_irrefl a h) h
  have e : (setS l).map toL = l'.map toL := by
    refine List.Perm.eq_of_pairwise (le := (· < ·)) ?_ (setS_sorted l) hs ((List.perm_ext_iff_of_nodup (nd (setS_sorted l)) (nd hs)).2 fun x => ?_)
    · intro a b _ _ h1 h2
      exact absurd (List.lt_trans h1 h2) (List.lt_irrefl a)
    · rw [List.mem_map, List.mem_map]
      exact ⟨fun ⟨y, hy, e⟩ => ⟨y, (hm y).1 (mem_setS.1 hy), e⟩, fun ⟨y, hy, e⟩ => ⟨y, mem_setS.2 ((hm y).2 hy), e⟩⟩
  have := congrArg (List.map ofL) e
  rw [List.map_map, List.map_map] at this
  have e2 : (ofL ∘ toL) = (id : ByteArray → ByteArray) := by funext x; simp [ofL_toL]
  simpa [e2] using this
def nP : ByteArray := ⟨#[112]⟩
def nQ : ByteArray := ⟨#[113]⟩
def nR : ByteArray := ⟨#[114]⟩
theorem ex11a_n : namesP [] ex11a = [nP, nQ, nR] := by
  refine setS_is (by decide) (fun x => ?_)
  show x ∈ [nP, nQ, nQ, nR] ↔ x ∈ [nP, nQ, nR]
  simp
theorem ex11b_n : namesP [] ex11b = [nP] := by
  refine setS_is (by decide) (fun x => ?_)
  show x ∈ [nP, nP] ↔ x ∈ [nP]
  simp
theorem ex11a_all : allE [nP, nQ, nR] ex11a = [⟨0, 1⟩, ⟨1, 2⟩] := by decide +kernel
theorem ex11a_neg : negE [nP, nQ, nR] ex11a = [⟨0, 1⟩] := by decide +kernel
theorem ex11b_all : allE [nP] ex11b = [⟨0, 0⟩] := by decide +kernel
theorem ex11b_neg : negE [nP] ex11b = [⟨0, 0⟩] := by decide +kernel
theorem Of_a : Ev (fun k => strata_Of.f k [] ex11a) ([1, 0, 0], [], 0) := by
  have h := Of_ex (ds := []) (rs := ex11a) (by decide) (by decide)
  rw [ex11a_n, ex11a_all, ex11a_neg] at h
  rcases h with ⟨lev, h1, h2, h3, h4, h5, h6⟩ | ⟨w, _, e, he, hr⟩
  · have hv : lev = [1, 0, 0] := by
      match lev, h2 with
      | [a, b, c], _ =>
        have k1 := h5 ⟨0, 1⟩ List.mem_cons_self
        have k2 := h3 b (by simp)
        have k3 := h3 c (by simp)
        have hf : Num [⟨0, 1⟩, ⟨1, 2⟩] [⟨0, 1⟩] (fun i => if i = 0 then 1 else 0) := ⟨fun i => by show (0 : Int) ≤ if i = 0 then 1 else 0; split <;> omega, by decide, by decide⟩
        have k4 := h6 _ hf 0 (by decide)
        have k5 := h6 _ hf 1 (by decide)
        have k6 := h6 _ hf 2 (by decide)
        simp at k1 k4 k5 k6
        have : a = 1 := by omega
        have : b = 0 := by omega
        have : c = 0 := by omega
        subst_vars
        rfl
    rw [← hv]
    exact h1
  · exfalso
    have e1 : e = ⟨0, 1⟩ := by simpa using he
    subst e1
    have : ∀ i, Rch (rws 3 [⟨0, 1⟩, ⟨1, 2⟩]) 1 i → 1 ≤ i := by
      intro i hi
      induction hi with
      | refl => exact Nat.le_refl _
      | step _ hy ih =>
        obtain ⟨_, e, he, g1, g2⟩ := mem_rws.1 hy
        have he : e = ⟨0, 1⟩ ∨ e = ⟨1, 2⟩ := by simpa using he
        rcases he with rfl | rfl
        · simp at g1; omega
        · simp at g2; omega
    exact absurd (this 0 hr) (by decide)
theorem Of_b : Ev (fun k => strata_Of.f k [] ex11b) ([], [nP, nP], 7) := by
  have hb1 : cleanBad ((1 : Nat) : Int) [⟨0, 0⟩] = false := by decide
  obtain ⟨p, hp, hpi, _⟩ := (Path_is (n := 1) (l := [⟨0, 0⟩]) (by decide) hb1 (a := 0) (b := 0) (by decide) (by decide)).1 .refl
  have h1 := hpi.short 0 .refl
  have h2 := hpi.fst
  have hpe : p = [0] := by
    match p, h1, h2 with
    | [x], _, h2 => simp at h2; rw [h2]
  subst hpe
  have hring : Ev (fun k => strata_ring.f k ((namesP [] ex11b).length : Int) (allE (namesP [] ex11b) ex11b) (negE (namesP [] ex11b) ex11b)) [0, 0] := by
    rw [ex11b_n, ex11b_all, ex11b_neg]
    unfold strata_ring.f
    have hcl : graph_Clean.f ((1 : Nat) : Int) [⟨0, 0⟩] = some ([⟨0, 0⟩], 0) := by
      unfold graph_Clean.f
      rw [if_pos (by decide), hb1, show sortL [(⟨0, 0⟩ : IPair)] = [⟨0, 0⟩] from (sortL_eq (List.Perm.refl _) (List.pairwise_singleton _ _)).symm]
      rfl
    refine Ev.pure hcl ?_
    refine Ev.step (fun k => by rw [strata_ring.l0]) ?_
    exact Ev.pos (by decide) (Ev.pos (by decide) (Ev.pos (by decide) (Ev.bind hp (Ev.pos (by decide) (Ev.pure rfl (Ev.pos (by decide) (Ev.now _)))))))
  have h := Of_ring (ds := []) (rs := ex11b) (by decide) (by decide) hring (by decide) (by decide) (by rw [ex11b_n]; decide)
  rw [ex11b_n] at h
  exact h
theorem shown11_ev : Ev (fun k => lambrequinlaw11_shown.f k) true := by
  unfold lambrequinlaw11_shown.f
  refine Ev.bind Of_a (Ev.bind Of_b ?_)
  exact Ev.pos ⟨rfl, rfl⟩ (Ev.now _)
end Go.Proofs.Ytmlhnjonmjmhdaa.H
namespace Go.Proofs.Ytmlhnjonmjmhdaa.H
open Go.RowKit Go.Proofs.YtmlhnjonmjmhdaaW.PrintWords Go.Proofs.YtmlhnjonmjmhdaaW.PrintLast Go.Proofs.YtmlhnjonmjmhdaaW.PrintMore
attribute [local go_sem] max2_int min2_int max_two min_two max_three min_three max_four min_four
def lambrequinref09_In.l0 : Nat → List ByteArray → ByteArray → Int → Option (Bool)
 | 0, _, _, _ => none
 | k + 1, x0, x1, x5 => if x5 < (x0.length : Int) then (if 0 ≤ x5 then (if (rdOf ByteArray.empty x0 x5).toList = x1.toList then (some true) else (lambrequinref09_In.l0 k x0 x1 (wrap64 (x5 + 1)))) else (none)) else (some false)
def lambrequinref09_In.f (k : Nat) (l0 : List ByteArray) (a1 : ByteArray) : Option (Bool) := lambrequinref09_In.l0 k l0 a1 0
theorem lambrequinref09_In.mono_l : ∀ k, (∀ y0 y1 y2, LeO (lambrequinref09_In.l0 k y0 y1 y2) (lambrequinref09_In.l0 (k + 1) y0 y1 y2))
 | 0 => fun _ _ _ r h => by simp [lambrequinref09_In.l0] at h
 | k + 1 => by
  have ih0 := lambrequinref09_In.mono_l k
  ·intro y0 y1 y2
   unfold lambrequinref09_In.l0
   repeat' first
   | (with_reducible exact ih0 _ _ _)
   | (with_reducible exact LeO.refl _)
   | (with_reducible exact LeO.none _)
   | (with_reducible refine LeO.ite ?_ ?_)
   | (with_reducible refine LeO.bind ?_ (fun _ => ?_))
   | exact ih0 _ _ _
   | exact LeO.none _
   | refine LeO.ite ?_ ?_
   | refine LeO.bind ?_ (fun _ => ?_)
theorem lambrequinref09_In.mono : ∀ a0 a1 k, LeO (lambrequinref09_In.f k a0 a1) (lambrequinref09_In.f (k + 1) a0 a1) := by
 intro a0 a1 k
 have ih0 := lambrequinref09_In.mono_l k
 unfold lambrequinref09_In.f
 repeat' first
   | (with_reducible exact ih0 _ _ _)
   | (with_reducible exact LeO.refl _)
   | (with_reducible exact LeO.none _)
   | (with_reducible refine LeO.ite ?_ ?_)
   | (with_reducible refine LeO.bind ?_ (fun _ => ?_))
   | exact ih0 _ _ _
   | exact LeO.none _
   | refine LeO.ite ?_ ?_
   | refine LeO.bind ?_ (fun _ => ?_)
set_option maxHeartbeats 8000000 in
set_option maxRecDepth 100000 in
theorem lambrequinref09_In.calls (k : Nat) (A0 : Option Addr) (c0 : Nat) (l0 : List ByteArray) (a1 : ByteArray) (r : Bool) (w : World) (hr0 : Kd.C Kd.string w A0 l0.length l0) (hc0 : l0.length ≤ c0) (h : lambrequinref09_In.f k l0 a1 = some r) :
  Calls Try.prog 67 #[.slice A0 l0.length c0, .string a1] w fun e w' => e = .returned (.bool r) ∧ Drawn0 w w' := by
 have HR0 := Aside0.mk hr0
 have HC0 := Aside0.mk hc0
 clear hr0 hc0
 have H : (lambrequinref09_In.l0 k l0 a1 0) = some r := h
 clear h
 have H' := Aside0.mk H
 clear H
 go_enter Try.func67, Try.ntmps67
 go_wp2
 go_loopg [5] k (fun kq v5 w' => ∃ (x5_1 : Int), v5 = .int .i64 x5_1 ∧ Aside0 (lambrequinref09_In.l0 kq l0 a1 x5_1 = some r) ∧ Aside0 (kq ≤ k) ∧ Drawn0 w w')
 case atStart => exact ⟨(0), (by first | rfl | (simp; done) | (simp [*]; done)), H', ⟨Nat.le_refl _⟩, by repeat (first | exact Drawn0.refl _ | apply Drawn0.step)⟩
 case round =>
  clear H'
  try clear p2
  obtain ⟨x5_1, rfl, HA, HK1, ⟨m1, rfl⟩⟩ := hrel
  cases gk with
  | zero => exact absurd HA.out (by simp [lambrequinref09_In.l0])
  | succ k1 =>
   have H := HA.out
   clear HA
   simp only [lambrequinref09_In.l0] at H
   by_cases c3 : x5_1 < (l0.length : Int)
   ·rw [if_pos c3] at H
    have c3b0 : decide (x5_1 < (l0.length : Int)) = true := decide_eq_true c3
    clear c3
    by_cases c4 : 0 ≤ x5_1
    ·rw [if_pos c4] at H
     have c4b0 : decide (0 ≤ x5_1) = true := decide_eq_true c4
     clear c4
     by_cases c5 : (rdOf ByteArray.empty l0 x5_1).toList = a1.toList
     ·rw [if_pos c5] at H
      have c5b0 : ((rdOf ByteArray.empty l0 x5_1).toList == a1.toList) = true := beq_iff_eq.mpr c5
      have c5b1 : ((rdOf ByteArray.empty l0 x5_1).toList != a1.toList) = false := bne_eq_false_iff_eq.mpr c5
      clear c5
      obtain rfl := Option.some.inj H
      have p101 : 0 ≤ (x5_1 : Int) := of_decide_eq_true (by first | (with_reducible assumption) | assumption)
      have q101 : x5_1 < (l0.length : Int) := of_decide_eq_true (by first | (with_reducible assumption) | assumption)
      obtain ⟨ad101, e101, hx101_0⟩ := Kd.at_string HR0.out x5_1 p101 q101
      cases e101
      replace p101 := eq_true p101
      replace q101 := eq_true q101
      go_wp2
      go_ret
      exact ⟨by first | rfl | (simp; done) | (simp [*]; done), by repeat (first | exact Drawn0.refl _ | apply Drawn0.step)⟩
     ·rw [if_neg c5] at H
      have c5b0 : ((rdOf ByteArray.empty l0 x5_1).toList == a1.toList) = false := beq_eq_false_iff_ne.mpr c5
      have c5b1 : ((rdOf ByteArray.empty l0 x5_1).toList != a1.toList) = true := bne_iff_ne.mpr c5
      have H' := Aside0.mk H
      clear H
      have p101 : 0 ≤ (x5_1 : Int) := of_decide_eq_true (by first | (with_reducible assumption) | assumption)
      have q101 : x5_1 < (l0.length : Int) := of_decide_eq_true (by first | (with_reducible assumption) | assumption)
      obtain ⟨ad101, e101, hx101_0⟩ := Kd.at_string HR0.out x5_1 p101 q101
      cases e101
      replace p101 := eq_true p101
      replace q101 := eq_true q101
      go_wp2
      go_roundg k1
      case measure => have := HK1.out; omega
      case rel => exact ⟨(wrap64 (x5_1 + 1)), (by first | rfl | (simp; done) | (simp [*]; done)), H', ⟨by have := HK1.out; omega⟩, by repeat (first | exact Drawn0.refl _ | apply Drawn0.step)⟩
    ·rw [if_neg c4] at H
     exact absurd H (by simp)
   ·rw [if_neg c3] at H
    have c3b0 : decide (x5_1 < (l0.length : Int)) = false := decide_eq_false c3
    clear c3
    obtain rfl := Option.some.inj H
    go_wp2
    go_ret
    exact ⟨by first | rfl | (simp; done) | (simp [*]; done), by repeat (first | exact Drawn0.refl _ | apply Drawn0.step)⟩
end Go.Proofs.Ytmlhnjonmjmhdaa.H
namespace Go.Proofs.Ytmlhnjonmjmhdaa.H
open Go.RowKit Go.Proofs.YtmlhnjonmjmhdaaW.PrintWords
theorem bytesLess_swap (a b : List UInt8) : (!(Op.bytesLess a b || a == b)) = Op.bytesLess b a := by
  induction a generalizing b with
  | nil => cases b <;> simp [Op.bytesLess]
  | cons x a ih =>
    cases b with
    | nil => simp [Op.bytesLess]
    | cons y b =>
      by_cases h : x = y
      · subst h
        have := ih b
        simp [Op.bytesLess] at this ⊢
        exact this
      · have h2 : ¬ y = x := fun e => h e.symm
        rw [Bool.eq_iff_iff]
        simp [Op.bytesLess, h, h2]
        have hn : x.toNat ≠ y.toNat := fun e => h (UInt8.toNat_inj.1 e)
        rw [UInt8.le_iff_toNat_le, UInt8.lt_iff_toNat_lt]
        omega
theorem bytesLeq_swap (a b : List UInt8) : (Op.bytesLess a b || a == b) = !Op.bytesLess b a := by rw [← bytesLess_swap a b, Bool.not_not]
@[go_sem high] theorem binOp_string_gtr_sw (t : TypeId) (a b : ByteArray) : binOp .gtr t (.string a) (.string b) = pure (.bool (Op.bytesLess b.toList a.toList)) := by
  rw [← bytesLess_swap]; simp [binOp, Op.stringOp]
@[go_sem high] theorem binOp_string_leq_sw (t : TypeId) (a b : ByteArray) : binOp .leq t (.string a) (.string b) = pure (.bool !(Op.bytesLess b.toList a.toList)) := by
  rw [← bytesLeq_swap]; simp [binOp, Op.stringOp]
@[go_sem] theorem binOp_string_geq_sw (t : TypeId) (a b : ByteArray) : binOp .geq t (.string a) (.string b) = pure (.bool !(Op.bytesLess a.toList b.toList)) := by simp [binOp, Op.stringOp]
end Go.Proofs.Ytmlhnjonmjmhdaa.H
namespace Go.Proofs.Ytmlhnjonmjmhdaa.H
open Go.RowKit Go.Proofs.YtmlhnjonmjmhdaaW.PrintWords Go.Proofs.YtmlhnjonmjmhdaaW.PrintLast Go.Proofs.YtmlhnjonmjmhdaaW.PrintMore
attribute [local go_sem] max2_int min2_int max_two min_two max_three min_three max_four min_four
mutual
def lambrequinref09_Sorted.l0 : Nat → List ByteArray → List ByteArray → Int → Option (List ByteArray)
 | 0, _, _, _ => none
 | k + 1, x0, x3, x4 => if x4 < (x0.length : Int) then (if 0 ≤ x4 then ((lambrequinref09_In.f k x3 (rdOf ByteArray.empty x0 x4)).bind fun t102 => (if t102 = true then (lambrequinref09_Sorted.l0 k x0 x3 (wrap64 (x4 + 1))) else (lambrequinref09_Sorted.l1 k x0 x3 x4 (x3.length : Int)))) else (none)) else (some x3)
def lambrequinref09_Sorted.l1 : Nat → List ByteArray → List ByteArray → Int → Int → Option (List ByteArray)
 | 0, _, _, _, _ => none
 | k + 1, x0, x3, x4, x5 => if x5 > 0 then (if 0 ≤ (wrap64 (x5 - 1)) then (if (wrap64 (x5 - 1)) < (x3.length : Int) then (if 0 ≤ x4 then (if x4 < (x0.length : Int) then (lambrequinref09_Sorted.j2 k x0 x3 x4 x5 (Op.bytesLess ((rdOf ByteArray.empty x0 x4).toList) ((rdOf ByteArray.empty x3 (wrap64 (x5 - 1))).toList))) else (none)) else (none)) else (none)) else (none)) else (lambrequinref09_Sorted.j2 k x0 x3 x4 x5 false)
def lambrequinref09_Sorted.j2 : Nat → List ByteArray → List ByteArray → Int → Int → Bool → Option (List ByteArray)
 | 0, _, _, _, _, _ => none
 | k + 1, x0, x3, x4, x5, x34 => if x34 = true then (lambrequinref09_Sorted.l1 k x0 x3 x4 (wrap64 (x5 - 1))) else ((some (([] : List ByteArray) : List ByteArray)).bind fun y105 => (if 0 ≤ x5 then (if x5 ≤ (x3.length : Int) then ((some (x3.take (x5 : Int).toNat : List ByteArray)).bind fun y108 => (if y105.length + y108.length < 8796093022208 then ((some (y105 ++ y108 : List ByteArray)).bind fun y112 => (if 0 ≤ x4 then (if x4 < (x0.length : Int) then (if y112.length < 8796093022208 then ((some (y112 ++ [rdOf ByteArray.empty x0 x4] : List ByteArray)).bind fun y116 => ((some (x3.drop (x5 : Int).toNat : List ByteArray)).bind fun y119 => (if y116.length + y119.length < 8796093022208 then (lambrequinref09_Sorted.l0 k x0 (y116 ++ y119) (wrap64 (x4 + 1))) else (none)))) else (none)) else (none)) else (none))) else (none))) else (none)) else (none)))
end
def lambrequinref09_Sorted.f (k : Nat) (l0 : List ByteArray) : Option (List ByteArray) := lambrequinref09_Sorted.l0 k l0 ([] : List ByteArray) 0
theorem lambrequinref09_Sorted.mono_l : ∀ k, (∀ y0 y1 y2, LeO (lambrequinref09_Sorted.l0 k y0 y1 y2) (lambrequinref09_Sorted.l0 (k + 1) y0 y1 y2)) ∧ (∀ y0 y1 y2 y3, LeO (lambrequinref09_Sorted.l1 k y0 y1 y2 y3) (lambrequinref09_Sorted.l1 (k + 1) y0 y1 y2 y3)) ∧ (∀ y0 y1 y2 y3 y4, LeO (lambrequinref09_Sorted.j2 k y0 y1 y2 y3 y4) (lambrequinref09_Sorted.j2 (k + 1) y0 y1 y2 y3 y4))
 | 0 => ⟨fun _ _ _ r h => by simp [lambrequinref09_Sorted.l0] at h, fun _ _ _ _ r h => by simp [lambrequinref09_Sorted.l1] at h, fun _ _ _ _ _ r h => by simp [lambrequinref09_Sorted.j2] at h⟩
 | k + 1 => by
  obtain ⟨ih0, ih1, ih2⟩ := lambrequinref09_Sorted.mono_l k
  refine ⟨?_, ?_, ?_⟩
  ·intro y0 y1 y2
   unfold lambrequinref09_Sorted.l0
   repeat' first
   | (with_reducible exact ih0 _ _ _)
   | (with_reducible exact ih1 _ _ _ _)
   | (with_reducible exact ih2 _ _ _ _ _)
   | (with_reducible exact lambrequinref09_In.mono _ _ _)
   | (with_reducible exact LeO.refl _)
   | (with_reducible exact LeO.none _)
   | (with_reducible refine LeO.ite ?_ ?_)
   | (with_reducible refine LeO.bind ?_ (fun _ => ?_))
   | exact ih0 _ _ _
   | exact ih1 _ _ _ _
   | exact ih2 _ _ _ _ _
   | exact lambrequinref09_In.mono _ _ _
   | exact LeO.none _
   | refine LeO.ite ?_ ?_
   | refine LeO.bind ?_ (fun _ => ?_)
  ·intro y0 y1 y2 y3
   unfold lambrequinref09_Sorted.l1
   repeat' first
   | (with_reducible exact ih0 _ _ _)
   | (with_reducible exact ih1 _ _ _ _)
   | (with_reducible exact ih2 _ _ _ _ _)
   | (with_reducible exact lambrequinref09_In.mono _ _ _)
   | (with_reducible exact LeO.refl _)
   | (with_reducible exact LeO.none _)
   | (with_reducible refine LeO.ite ?_ ?_)
   | (with_reducible refine LeO.bind ?_ (fun _ => ?_))
   | exact ih0 _ _ _
   | exact ih1 _ _ _ _
   | exact ih2 _ _ _ _ _
   | exact lambrequinref09_In.mono _ _ _
   | exact LeO.none _
   | refine LeO.ite ?_ ?_
   | refine LeO.bind ?_ (fun _ => ?_)
  ·intro y0 y1 y2 y3 y4
   unfold lambrequinref09_Sorted.j2
   repeat' first
   | (with_reducible exact ih0 _ _ _)
   | (with_reducible exact ih1 _ _ _ _)
   | (with_reducible exact ih2 _ _ _ _ _)
   | (with_reducible exact lambrequinref09_In.mono _ _ _)
   | (with_reducible exact LeO.refl _)
   | (with_reducible exact LeO.none _)
   | (with_reducible refine LeO.ite ?_ ?_)
   | (with_reducible refine LeO.bind ?_ (fun _ => ?_))
   | exact ih0 _ _ _
   | exact ih1 _ _ _ _
   | exact ih2 _ _ _ _ _
   | exact lambrequinref09_In.mono _ _ _
   | exact LeO.none _
   | refine LeO.ite ?_ ?_
   | refine LeO.bind ?_ (fun _ => ?_)
theorem lambrequinref09_Sorted.mono : ∀ a0 k, LeO (lambrequinref09_Sorted.f k a0) (lambrequinref09_Sorted.f (k + 1) a0) := by
 intro a0 k
 obtain ⟨ih0, ih1, ih2⟩ := lambrequinref09_Sorted.mono_l k
 unfold lambrequinref09_Sorted.f
 repeat' first
   | (with_reducible exact ih0 _ _ _)
   | (with_reducible exact ih1 _ _ _ _)
   | (with_reducible exact ih2 _ _ _ _ _)
   | (with_reducible exact lambrequinref09_In.mono _ _ _)
   | (with_reducible exact LeO.refl _)
   | (with_reducible exact LeO.none _)
   | (with_reducible refine LeO.ite ?_ ?_)
   | (with_reducible refine LeO.bind ?_ (fun _ => ?_))
   | exact ih0 _ _ _
   | exact ih1 _ _ _ _
   | exact ih2 _ _ _ _ _
   | exact lambrequinref09_In.mono _ _ _
   | exact LeO.none _
   | refine LeO.ite ?_ ?_
   | refine LeO.bind ?_ (fun _ => ?_)
set_option maxHeartbeats 8000000 in
set_option maxRecDepth 100000 in
theorem lambrequinref09_Sorted.calls (k : Nat) (A0 : Option Addr) (c0 : Nat) (l0 : List ByteArray) (r : List ByteArray) (w : World) (hr0 : Kd.C Kd.string w A0 l0.length l0) (hc0 : l0.length ≤ c0) (h : lambrequinref09_Sorted.f k l0 = some r) :
  Calls Try.prog 57 #[.slice A0 l0.length c0] w fun e w' => ∃ v0_ : Value, e = .returned (v0_) ∧ Kd.R Kd.string 9 w' w.heap.size (fun _ => True) v0_ r ∧ Below w.heap.size w w' := by
 have HR0 := am hr0
 have HC0 := am hc0
 clear hr0 hc0
 have HB := am (Below.refl w.heap.size w)
 have H : (lambrequinref09_Sorted.l0 k l0 ([] : List ByteArray) 0) = some r := h
 clear h
 have H' := am H
 clear H
 go_enter Try.func57, Try.ntmps57
 go_wp2
 repeat (go_quiet (fail); try go_wp2)
 go_loopg [3, 4] k (fun kq v3 v4 w' => ∃ (x3_1 : List ByteArray) (x4_1 : Int), v4 = .int .i64 x4_1 ∧ Aside0 (lambrequinref09_Sorted.l0 kq l0 x3_1 x4_1 = some r) ∧ Aside0 (kq ≤ k) ∧ Aside0 (Kd.R Kd.string 9 w' w.heap.size (fun _ => True) v3 x3_1) ∧ Aside0 (Below w.heap.size w w'))
 case atStart => exact ⟨(([] : List ByteArray)), (0), rs_, H', ⟨Nat.le_refl _⟩, ⟨by first | exact Kd.R_nil _ _ _ _ _ | exact Kd.N_nil _ _ _ _ _ | exact Kd.V_nil _ _ _ _ _ | exact Kd.Q_nil _ _ _ _ _ | exact Kd.S_nil _ _ _ _ _⟩, ⟨pL HB.out⟩⟩
 case round =>
  clear H'
  obtain ⟨x3_1, x4_1, rfl, HA, HK1, HO_3, HB⟩ := hrel
  cases gk with
  | zero => exact absurd HA.out (by simp [lambrequinref09_Sorted.l0])
  | succ k1 =>
   have H := HA.out
   clear HA
   simp only [lambrequinref09_Sorted.l0] at H
   by_cases c2 : x4_1 < (l0.length : Int)
   ·rw [if_pos c2] at H
    have c2b0 : decide (x4_1 < (l0.length : Int)) = true := decide_eq_true c2
    clear c2
    by_cases c3 : 0 ≤ x4_1
    ·rw [if_pos c3] at H
     have c3b0 : decide (0 ≤ x4_1) = true := decide_eq_true c3
     clear c3
     replace H := Option.bind_eq_some_iff.mp H
     obtain ⟨t102, A40, H⟩ := H
     replace H : (if t102 = true then (lambrequinref09_Sorted.l0 k1 l0 x3_1 (wrap64 (x4_1 + 1))) else (lambrequinref09_Sorted.l1 k1 l0 x3_1 x4_1 (x3_1.length : Int))) = some r := H
     have A4 := am A40
     clear A40
     by_cases c5 : t102 = true
     ·subst c5
      have H1 : (lambrequinref09_Sorted.l0 k1 l0 x3_1 (wrap64 (x4_1 + 1))) = some r := by rw [if_pos rfl] at H; exact H
      clear H
      have H := H1
      clear H1
      have H' := am H
      clear H
      have p101 : 0 ≤ (x4_1 : Int) := dt_
      have q101 : x4_1 < (l0.length : Int) := dt_
      obtain ⟨ad101, e101, hx101_0⟩ := Kd.at_string HR0.out x4_1 p101 q101
      cases e101
      replace hx101_0 := up_ HB.out hx101_0
      replace p101 := eq_true p101
      replace q101 := eq_true q101
      obtain ⟨Ao6, co6, eo6⟩ := Kd.R_slice HO_3.out
      subst eo6
      go_wp2_with (first | (go_at_call 67; (with_reducible refine (lambrequinref09_In.calls k1 _ _ x3_1 (rdOf ByteArray.empty l0 x4_1) true _ ?side1 ?side2 A4.out).mono ?_); (case side1 => repeat (first | exact (Kd.R_reads' HO_3.out).2.2 | (with_reducible refine Kd.C_alloc ?_ _) | (with_reducible refine Kd.C_drewN ?_ _) | (with_reducible refine Kd.C_drew ?_))); (case side2 => exact (Kd.R_reads' HO_3.out).2.1); rintro e w' ⟨rfl, ⟨nd, rfl⟩⟩; (try first | exact ⟨rfl, _, World.drewN_drewN _ _ _⟩ | exact ⟨rfl, _, Eq.trans (World.drewN_drewN _ _ _) (congrArg (World.drewN _) (Nat.add_assoc _ _ _))⟩)))
      repeat (go_quiet (first | (go_at_call 67; (with_reducible refine (lambrequinref09_In.calls k1 _ _ x3_1 (rdOf ByteArray.empty l0 x4_1) true _ ?side1 ?side2 A4.out).mono ?_); (case side1 => repeat (first | exact (Kd.R_reads' HO_3.out).2.2 | (with_reducible refine Kd.C_alloc ?_ _) | (with_reducible refine Kd.C_drewN ?_ _) | (with_reducible refine Kd.C_drew ?_))); (case side2 => exact (Kd.R_reads' HO_3.out).2.1); rintro e w' ⟨rfl, ⟨nd, rfl⟩⟩; (try first | exact ⟨rfl, _, World.drewN_drewN _ _ _⟩ | exact ⟨rfl, _, Eq.trans (World.drewN_drewN _ _ _) (congrArg (World.drewN _) (Nat.add_assoc _ _ _))⟩))); try go_wp2_with (first | (go_at_call 67; (with_reducible refine (lambrequinref09_In.calls k1 _ _ x3_1 (rdOf ByteArray.empty l0 x4_1) true _ ?side1 ?side2 A4.out).mono ?_); (case side1 => repeat (first | exact (Kd.R_reads' HO_3.out).2.2 | (with_reducible refine Kd.C_alloc ?_ _) | (with_reducible refine Kd.C_drewN ?_ _) | (with_reducible refine Kd.C_drew ?_))); (case side2 => exact (Kd.R_reads' HO_3.out).2.1); rintro e w' ⟨rfl, ⟨nd, rfl⟩⟩; (try first | exact ⟨rfl, _, World.drewN_drewN _ _ _⟩ | exact ⟨rfl, _, Eq.trans (World.drewN_drewN _ _ _) (congrArg (World.drewN _) (Nat.add_assoc _ _ _))⟩))))
      go_roundg k1
      case measure => have := HK1.out; omega
      case rel => exact ⟨(x3_1), (wrap64 (x4_1 + 1)), rs_, H', ⟨by have := HK1.out; omega⟩, ⟨pR HO_3.out⟩, ⟨pL HB.out⟩⟩
     ·replace c5 := Bool.eq_false_iff.mpr c5
      subst c5
      have H1 : (lambrequinref09_Sorted.l1 k1 l0 x3_1 x4_1 (x3_1.length : Int)) = some r := by rw [if_neg (show ¬ (false = true) by decide)] at H; exact H
      clear H
      have H := H1
      clear H1
      have H' := am H
      clear H
      have p101 : 0 ≤ (x4_1 : Int) := dt_
      have q101 : x4_1 < (l0.length : Int) := dt_
      obtain ⟨ad101, e101, hx101_0⟩ := Kd.at_string HR0.out x4_1 p101 q101
      cases e101
      replace hx101_0 := up_ HB.out hx101_0
      replace p101 := eq_true p101
      replace q101 := eq_true q101
      obtain ⟨Ao7, co7, eo7⟩ := Kd.R_slice HO_3.out
      subst eo7
      go_wp2_with (first | (go_at_call 67; (with_reducible refine (lambrequinref09_In.calls k1 _ _ x3_1 (rdOf ByteArray.empty l0 x4_1) false _ ?side1 ?side2 A4.out).mono ?_); (case side1 => repeat (first | exact (Kd.R_reads' HO_3.out).2.2 | (with_reducible refine Kd.C_alloc ?_ _) | (with_reducible refine Kd.C_drewN ?_ _) | (with_reducible refine Kd.C_drew ?_))); (case side2 => exact (Kd.R_reads' HO_3.out).2.1); rintro e w' ⟨rfl, ⟨nd, rfl⟩⟩; (try first | exact ⟨rfl, _, World.drewN_drewN _ _ _⟩ | exact ⟨rfl, _, Eq.trans (World.drewN_drewN _ _ _) (congrArg (World.drewN _) (Nat.add_assoc _ _ _))⟩)))
      repeat (go_quiet (first | (go_at_call 67; (with_reducible refine (lambrequinref09_In.calls k1 _ _ x3_1 (rdOf ByteArray.empty l0 x4_1) false _ ?side1 ?side2 A4.out).mono ?_); (case side1 => repeat (first | exact (Kd.R_reads' HO_3.out).2.2 | (with_reducible refine Kd.C_alloc ?_ _) | (with_reducible refine Kd.C_drewN ?_ _) | (with_reducible refine Kd.C_drew ?_))); (case side2 => exact (Kd.R_reads' HO_3.out).2.1); rintro e w' ⟨rfl, ⟨nd, rfl⟩⟩; (try first | exact ⟨rfl, _, World.drewN_drewN _ _ _⟩ | exact ⟨rfl, _, Eq.trans (World.drewN_drewN _ _ _) (congrArg (World.drewN _) (Nat.add_assoc _ _ _))⟩))); try go_wp2_with (first | (go_at_call 67; (with_reducible refine (lambrequinref09_In.calls k1 _ _ x3_1 (rdOf ByteArray.empty l0 x4_1) false _ ?side1 ?side2 A4.out).mono ?_); (case side1 => repeat (first | exact (Kd.R_reads' HO_3.out).2.2 | (with_reducible refine Kd.C_alloc ?_ _) | (with_reducible refine Kd.C_drewN ?_ _) | (with_reducible refine Kd.C_drew ?_))); (case side2 => exact (Kd.R_reads' HO_3.out).2.1); rintro e w' ⟨rfl, ⟨nd, rfl⟩⟩; (try first | exact ⟨rfl, _, World.drewN_drewN _ _ _⟩ | exact ⟨rfl, _, Eq.trans (World.drewN_drewN _ _ _) (congrArg (World.drewN _) (Nat.add_assoc _ _ _))⟩))))
      go_loopg [5] k1 (fun kq v5 w' => ∃ (x5_2 : Int), v5 = .int .i64 x5_2 ∧ Aside0 (lambrequinref09_Sorted.l1 kq l0 x3_1 x4_1 x5_2 = some r) ∧ Aside0 (kq ≤ k1) ∧ Aside0 (Kd.R Kd.string 9 w' w.heap.size (fun _ => True) (.slice Ao7 x3_1.length co7) x3_1) ∧ Aside0 (Below w.heap.size w w'))
      case atStart => exact ⟨((x3_1.length : Int)), rs_, H', ⟨Nat.le_refl _⟩, ⟨pR HO_3.out⟩, ⟨pL HB.out⟩⟩
      case round =>
       clear H'
       try clear p1
       try clear q1
       try clear hx1
       try clear c2
       try clear c2b0
       try clear p2
       try clear c3
       try clear c3b0
       try clear c5
       try clear p6
       try clear hx101_0
       try clear p101
       try clear q101
       obtain ⟨x5_2, rfl, HA, HK2, HO_3, HB⟩ := hrel
       cases gk with
       | zero => exact absurd HA.out (by simp [lambrequinref09_Sorted.l1])
       | succ k2 =>
        have H := HA.out
        clear HA
        simp only [lambrequinref09_Sorted.l1] at H
        have HC8 := am H
        clear H
        go_upto_region 7 with (fail)
        repeat (go_quiet (fail); go_upto_region 7 with (fail))
        go_cut [34] (fun v34 wc => ∃ (kq : Nat) (x34_7 : Bool), v34 = .bool x34_7 ∧ Aside0 (lambrequinref09_Sorted.j2 kq l0 x3_1 x4_1 x5_2 x34_7 = some r) ∧ Aside0 (kq ≤ k2) ∧ Aside0 (Kd.R Kd.string 9 wc w.heap.size (fun _ => True) (.slice Ao7 x3_1.length co7) x3_1) ∧ Aside0 (Below w.heap.size w wc))
        case first =>
         have H := HC8.out
         clear HC8
         by_cases c9 : x5_2 > 0
         ·rw [if_pos c9] at H
          have c9b0 : decide (0 < x5_2) = true := decide_eq_true c9
          clear c9
          (first | rw [c9b0] | (simp only [i64_w, i32_w]; rw [c9b0]) | skip)
          obtain ⟨ji10, hji10⟩ : ∃ j_ : Int, (wrap64 (x5_2 - 1)) = j_ := ⟨_, rfl⟩
          replace H : (if 0 ≤ (ji10) then (if (ji10) < (x3_1.length : Int) then (if 0 ≤ x4_1 then (if x4_1 < (l0.length : Int) then (lambrequinref09_Sorted.j2 k2 l0 x3_1 x4_1 x5_2 (Op.bytesLess ((rdOf ByteArray.empty l0 x4_1).toList) ((rdOf ByteArray.empty x3_1 (ji10)).toList))) else (none)) else (none)) else (none)) else (none)) = some r := by first | (rw [hji10] at H; exact H) | (simp only [hji10] at H ⊢; exact H)
          have hji10w : (IntKind.i64.wrap (x5_2 - 1)) = ji10 := (i64_w _).trans hji10
          by_cases c11 : 0 ≤ (ji10)
          ·rw [if_pos c11] at H
           have c11b0 : decide (0 ≤ (ji10)) = true := decide_eq_true c11
           clear c11
           by_cases c12 : (ji10) < (x3_1.length : Int)
           ·rw [if_pos c12] at H
            have c12b0 : decide ((ji10) < (x3_1.length : Int)) = true := decide_eq_true c12
            clear c12
            by_cases c13 : 0 ≤ x4_1
            ·rw [if_pos c13] at H
             have c13b0 : decide (0 ≤ x4_1) = true := decide_eq_true c13
             clear c13
             by_cases c14 : x4_1 < (l0.length : Int)
             ·rw [if_pos c14] at H
              have c14b0 : decide (x4_1 < (l0.length : Int)) = true := decide_eq_true c14
              clear c14
              have H' := am H
              clear H
              have p103 : 0 ≤ ((ji10) : Int) := dt_
              have q103 : (ji10) < (x3_1.length : Int) := dt_
              obtain ⟨ad103, e103, hx103_0⟩ := Kd.at_string (Kd.R_reads' HO_3.out).2.2 (ji10) p103 q103
              cases e103
              replace p103 := eq_true p103
              replace q103 := eq_true q103
              have p104 : 0 ≤ (x4_1 : Int) := dt_
              have q104 : x4_1 < (l0.length : Int) := dt_
              obtain ⟨ad104, e104, hx104_0⟩ := Kd.at_string HR0.out x4_1 p104 q104
              obtain rfl : ad101 = ad104 := (by injection e104)
              replace hx104_0 := up_ HB.out hx104_0
              replace p104 := eq_true p104
              replace q104 := eq_true q104
              go_wp2
              repeat (go_quiet (fail); try go_wp2)
              go_meet
              case rel => exact ⟨_, ((Op.bytesLess ((rdOf ByteArray.empty l0 x4_1).toList) ((rdOf ByteArray.empty x3_1 (ji10)).toList))), (by first | rfl | (simp; done) | (simp only [← hji10] <;> (first | rfl | simp)) | (simp [*]; done)), H', ⟨by have := HK1.out; have := HK2.out; first | omega | exact Nat.le_refl _⟩, ⟨pR HO_3.out⟩, ⟨pL HB.out⟩⟩
             ·rw [if_neg c14] at H
              exact absurd H (by simp)
            ·rw [if_neg c13] at H
             exact absurd H (by simp)
           ·rw [if_neg c12] at H
            exact absurd H (by simp)
          ·rw [if_neg c11] at H
           exact absurd H (by simp)
         ·rw [if_neg c9] at H
          have c9b0 : decide (0 < x5_2) = false := decide_eq_false c9
          clear c9
          (first | rw [c9b0] | (simp only [i64_w, i32_w]; rw [c9b0]) | skip)
          have H' := am H
          clear H
          go_wp2
          repeat (go_quiet (fail); try go_wp2)
          go_meet
          case rel => exact ⟨_, (false), rs_, H', ⟨by have := HK1.out; have := HK2.out; first | omega | exact Nat.le_refl _⟩, ⟨pR HO_3.out⟩, ⟨pL HB.out⟩⟩
        case rest =>
         clear HC8
         try clear c1
         try clear p1
         try clear q1
         try clear hx1
         try clear c2
         try clear c2b0
         try clear p2
         try clear c3
         try clear c3b0
         try clear c5
         try clear p6
         try clear c9
         try clear c9b0
         try clear p10
         try clear q10
         try clear hx10
         try clear c11
         try clear c11b0
         try clear c12
         try clear c12b0
         try clear c13
         try clear c13b0
         try clear c14
         try clear c14b0
         try clear hx101_0
         try clear hx103_0
         try clear hx104_0
         try clear p1
         try clear p101
         try clear p103
         try clear p104
         try clear p2
         try clear p6
         try clear q1
         try clear q101
         try clear q103
         try clear q104
         obtain ⟨kq, x34_7, rfl, HA, HJ7, HO_3, HB⟩ := hcut
         cases kq with
         | zero => exact absurd HA.out (by simp [lambrequinref09_Sorted.j2])
         | succ kj7 =>
          have H := HA.out
          clear HA
          simp only [lambrequinref09_Sorted.j2] at H
          by_cases c15 : x34_7 = true
          ·subst c15
           have H1 : (lambrequinref09_Sorted.l1 kj7 l0 x3_1 x4_1 (wrap64 (x5_2 - 1))) = some r := by rw [if_pos rfl] at H; exact H
           clear H
           have H := H1
           clear H1
           have H' := am H
           clear H
           go_wp2
           repeat (go_quiet (fail); try go_wp2)
           go_roundg kj7
           case measure => have := HK1.out; have := HK2.out; have := HJ7.out; omega
           case rel => exact ⟨(wrap64 (x5_2 - 1)), rs_, H', ⟨by have := HK1.out; have := HK2.out; have := HJ7.out; omega⟩, ⟨pR HO_3.out⟩, ⟨pL HB.out⟩⟩
          ·replace c15 := Bool.eq_false_iff.mpr c15
           subst c15
           have H1 : ((some (([] : List ByteArray) : List ByteArray)).bind fun y105 => (if 0 ≤ x5_2 then (if x5_2 ≤ (x3_1.length : Int) then ((some (x3_1.take (x5_2 : Int).toNat : List ByteArray)).bind fun y108 => (if y105.length + y108.length < 8796093022208 then ((some (y105 ++ y108 : List ByteArray)).bind fun y112 => (if 0 ≤ x4_1 then (if x4_1 < (l0.length : Int) then (if y112.length < 8796093022208 then ((some (y112 ++ [rdOf ByteArray.empty l0 x4_1] : List ByteArray)).bind fun y116 => ((some (x3_1.drop (x5_2 : Int).toNat : List ByteArray)).bind fun y119 => (if y116.length + y119.length < 8796093022208 then (lambrequinref09_Sorted.l0 kj7 l0 (y116 ++ y119) (wrap64 (x4_1 + 1))) else (none)))) else (none)) else (none)) else (none))) else (none))) else (none)) else (none))) = some r := by rw [if_neg (show ¬ (false = true) by decide)] at H; exact H
           clear H
           have H := H1
           clear H1
           obtain ⟨y105, hy105⟩ : ∃ y_ : List ByteArray, y_ = (([] : List ByteArray)) := ⟨_, rfl⟩
           replace H : (if 0 ≤ x5_2 then (if x5_2 ≤ (x3_1.length : Int) then ((some (x3_1.take (x5_2 : Int).toNat : List ByteArray)).bind fun y108 => (if y105.length + y108.length < 8796093022208 then ((some (y105 ++ y108 : List ByteArray)).bind fun y112 => (if 0 ≤ x4_1 then (if x4_1 < (l0.length : Int) then (if y112.length < 8796093022208 then ((some (y112 ++ [rdOf ByteArray.empty l0 x4_1] : List ByteArray)).bind fun y116 => ((some (x3_1.drop (x5_2 : Int).toNat : List ByteArray)).bind fun y119 => (if y116.length + y119.length < 8796093022208 then (lambrequinref09_Sorted.l0 kj7 l0 (y116 ++ y119) (wrap64 (x4_1 + 1))) else (none)))) else (none)) else (none)) else (none))) else (none))) else (none)) else (none)) = some r := by first | (rw [hy105]; with_reducible exact H) | (have H2_ := (Option.bind_some _ _).symm.trans H; rw [hy105]; with_reducible exact H2_) | (have H2_ := (Option.bind_some _ _).symm.trans H; with_reducible exact H2_) | with_reducible exact H | (rw [hy105]; exact H) | exact H
           have Ny105 := am hy105
           clear hy105
           by_cases c16 : 0 ≤ x5_2
           ·rw [if_pos c16] at H
            have c16b0 := eq_true c16
            have c16b1 : decide (0 ≤ x5_2) = true := decide_eq_true c16
            clear c16
            by_cases c17 : x5_2 ≤ (x3_1.length : Int)
            ·rw [if_pos c17] at H
             have c17b0 := eq_true c17
             have c17b1 : decide (x5_2 ≤ (x3_1.length : Int)) = true := decide_eq_true c17
             clear c17
             obtain ⟨y108, hy108⟩ : ∃ y_ : List ByteArray, y_ = (x3_1.take (x5_2 : Int).toNat) := ⟨_, rfl⟩
             replace H : (if y105.length + y108.length < 8796093022208 then ((some (y105 ++ y108 : List ByteArray)).bind fun y112 => (if 0 ≤ x4_1 then (if x4_1 < (l0.length : Int) then (if y112.length < 8796093022208 then ((some (y112 ++ [rdOf ByteArray.empty l0 x4_1] : List ByteArray)).bind fun y116 => ((some (x3_1.drop (x5_2 : Int).toNat : List ByteArray)).bind fun y119 => (if y116.length + y119.length < 8796093022208 then (lambrequinref09_Sorted.l0 kj7 l0 (y116 ++ y119) (wrap64 (x4_1 + 1))) else (none)))) else (none)) else (none)) else (none))) else (none)) = some r := by first | (rw [hy108]; with_reducible exact H) | (have H2_ := (Option.bind_some _ _).symm.trans H; rw [hy108]; with_reducible exact H2_) | (have H2_ := (Option.bind_some _ _).symm.trans H; with_reducible exact H2_) | with_reducible exact H | (rw [hy108]; exact H) | exact H
             have Ny108 := am hy108
             clear hy108
             by_cases c18 : y105.length + y108.length < 8796093022208
             ·rw [if_pos c18] at H
              have LMc18 := am c18
              clear c18
              obtain ⟨y112, hy112⟩ : ∃ y_ : List ByteArray, y_ = (y105 ++ y108) := ⟨_, rfl⟩
              replace H : (if 0 ≤ x4_1 then (if x4_1 < (l0.length : Int) then (if y112.length < 8796093022208 then ((some (y112 ++ [rdOf ByteArray.empty l0 x4_1] : List ByteArray)).bind fun y116 => ((some (x3_1.drop (x5_2 : Int).toNat : List ByteArray)).bind fun y119 => (if y116.length + y119.length < 8796093022208 then (lambrequinref09_Sorted.l0 kj7 l0 (y116 ++ y119) (wrap64 (x4_1 + 1))) else (none)))) else (none)) else (none)) else (none)) = some r := by first | (rw [hy112]; with_reducible exact H) | (have H2_ := (Option.bind_some _ _).symm.trans H; rw [hy112]; with_reducible exact H2_) | (have H2_ := (Option.bind_some _ _).symm.trans H; with_reducible exact H2_) | with_reducible exact H | (rw [hy112]; exact H) | exact H
              have Ny112 := am hy112
              clear hy112
              by_cases c19 : 0 ≤ x4_1
              ·rw [if_pos c19] at H
               have c19b0 : decide (0 ≤ x4_1) = true := decide_eq_true c19
               clear c19
               by_cases c20 : x4_1 < (l0.length : Int)
               ·rw [if_pos c20] at H
                have c20b0 : decide (x4_1 < (l0.length : Int)) = true := decide_eq_true c20
                clear c20
                by_cases c21 : y112.length < 8796093022208
                ·rw [if_pos c21] at H
                 have LMc21 := am c21
                 clear c21
                 obtain ⟨y116, hy116⟩ : ∃ y_ : List ByteArray, y_ = (y112 ++ [rdOf ByteArray.empty l0 x4_1]) := ⟨_, rfl⟩
                 replace H : ((some (x3_1.drop (x5_2 : Int).toNat : List ByteArray)).bind fun y119 => (if y116.length + y119.length < 8796093022208 then (lambrequinref09_Sorted.l0 kj7 l0 (y116 ++ y119) (wrap64 (x4_1 + 1))) else (none))) = some r := by first | (rw [hy116]; with_reducible exact H) | (have H2_ := (Option.bind_some _ _).symm.trans H; rw [hy116]; with_reducible exact H2_) | (have H2_ := (Option.bind_some _ _).symm.trans H; with_reducible exact H2_) | with_reducible exact H | (rw [hy116]; exact H) | exact H
                 have Ny116 := am hy116
                 clear hy116
                 have c22b0 := eq_true (dt_ : 0 ≤ x5_2)
                 have c23b0 := eq_true (dt_ : x5_2 ≤ (x3_1.length : Int))
                 obtain ⟨y119, hy119⟩ : ∃ y_ : List ByteArray, y_ = (x3_1.drop (x5_2 : Int).toNat) := ⟨_, rfl⟩
                 replace H : (if y116.length + y119.length < 8796093022208 then (lambrequinref09_Sorted.l0 kj7 l0 (y116 ++ y119) (wrap64 (x4_1 + 1))) else (none)) = some r := by first | (rw [hy119]; with_reducible exact H) | (have H2_ := (Option.bind_some _ _).symm.trans H; rw [hy119]; with_reducible exact H2_) | (have H2_ := (Option.bind_some _ _).symm.trans H; with_reducible exact H2_) | with_reducible exact H | (rw [hy119]; exact H) | exact H
                 have Ny119 := am hy119
                 clear hy119
                 by_cases c24 : y116.length + y119.length < 8796093022208
                 ·rw [if_pos c24] at H
                  have LMc24 := am c24
                  clear c24
                  obtain ⟨y123, hy123⟩ : ∃ y_ : List ByteArray, y_ = (y116 ++ y119) := ⟨_, rfl⟩
                  replace H : (lambrequinref09_Sorted.l0 kj7 l0 y123 (wrap64 (x4_1 + 1))) = some r := by first | (rw [hy123]; with_reducible exact H) | (have H2_ := (Option.bind_some _ _).symm.trans H; rw [hy123]; with_reducible exact H2_) | (have H2_ := (Option.bind_some _ _).symm.trans H; with_reducible exact H2_) | with_reducible exact H | (rw [hy123]; exact H) | exact H
                  have Ny123 := am hy123
                  clear hy123
                  have H' := am H
                  clear H
                  go_wp2_with (first | ((with_reducible refine gate_dst (N := 37) rfl ?_); refine Kd.R_lit Kd.string _ 9 ?hg (N := 37) ?hd (xs := ([] : List ByteArray)) (inner := []) (ok := fun _ => True) (okp := fun _ => True) ?hr ?hp (fun _ hk => hk) trivial (Below.refl _ _) (Nat.le_refl _) (by simp) ?_; (case hd => rfl); (case hg => rfl); (case hr => first | (go_simp; done) | (go_simp; rfl)); (case hp => exact (Reps.none _ _)); intro v106 w25 ho26 hb hg_ hnew_; clear hg_ hnew_; (first | rw [← Ny105.out] at ho26 | (simp only [Int.reduceToNat] at ho26; rw [← Ny105.out] at ho26)); have HO107 := am (Kd.R_lower (Kd.R_new' ho26 (Kd.R_lt (pR HO_3.out))) (below_size (pL HB.out))); replace HO_3 := am (Kd.R_elder' (pR HO_3.out) (Kd.R_base ho26) hb); replace HB := am (bs_ HB.out hb); clear hb ho26; have q27 : (x5_2 : Int) ≤ ((x3_1.length : Int) : Int) := dt_; obtain ⟨i027, hi027, _, hsz27, _⟩ := info_parts info9; have hroom27 : x3_1.length ≤ co7 := (Kd.R_reads' HO_3.out).2.1; have hC27 : Kd.C Kd.string _ Ao7 x3_1.length x3_1 := (Kd.R_reads' HO_3.out).2.2; have hcut27 := cut_to (P := Try.prog) 52 9 .i64 Try.underlying52 hi027 Ao7 x3_1.length co7 x5_2 (dt_) q27 hroom27; have hr27 := Kd.C_take (m := (x5_2 : Int).toNat) hC27 (by omega); have hy27 : y108.length = (x5_2 : Int).toNat := (by rw [Ny108.out, List.length_take]; omega); rw [← Ny108.out] at hr27; rw [← hy27] at hcut27; have HR111 := am hr27; have HC111 := am (show y108.length ≤ co7 from by omega); clear hr27 hC27 hroom27 hi027 hsz27; have KY27 := am hy27; clear hy27; have KL27 := am (show (x5_2 : Int).toNat ≤ x3_1.length from by omega); replace q27 := eq_true q27) | ((with_reducible refine gate_builtin (b := .append) (xs := #[.tmp 37, .tmp 40]) rfl ?_); at_builtin; refine Kd.R_append_rows Kd.string (w0 := w) w.heap.size rfl (.tmp 37) (.tmp 40) 52 9 (.string ⟨#[]⟩) 16 rfl Try.underlying52 info9 rfl (by decide) (by omega) v106 y105 y108 _ _ _ (fun k_ => some k_ ≠ (.slice Ao7 x3_1.length co7 : Value).ownBlock) (fun _ => False) rfl rfl ?aO ?aR (fun _ _ h => h) (fun _ h => h.elim) ?aF ?aB ?aS ?aL ?_; (case aR => repeat (first | exact (by repeat (first | (with_reducible exact HR111.out) | (with_reducible refine Kd.C_alloc ?_ _) | (with_reducible refine Kd.C_drewN ?_ _) | (with_reducible refine Kd.C_drew ?_) | exact HR111.out)) | (with_reducible refine Kd.C_alloc ?_ _) | (with_reducible refine Kd.C_drewN ?_ _) | (with_reducible refine Kd.C_drew ?_))); (case aB => exact (pL HB.out)); (case aF => exact (fun k_ hk => Kd.fresh' (Kd.R_lt (pR HO_3.out)) k_ hk)); (case aO => exact (by (with_reducible repeat (first | apply Ra | apply Rn | apply Rd)); exact Kd.R_mono HO107.out (fun _ hk => hk.2))); (case aS => exact (below_size (pL HB.out))); (case aL => have := LMc18.out; omega); intro v113 w28 ho hb hg hat; rw [← Ny112.out] at ho; replace HB := am (hb); replace HR111 := am ((show Kd.C Kd.string w28 Ao7 y108.length y108 from by rw [Ny108.out]; exact Kd.C_take (m := (x5_2 : Int).toNat) ((Kd.R_reads' (Kd.R_after (ok := (fun _ => True)) (pR HO_3.out) hg hat)).2.2) KL27.out)); replace HO_3 := am (Kd.R_after (ok := (fun _ => True)) (pR HO_3.out) hg hat); have HO114 := am (ho); clear HO107; clear ho hb hg hat; have p115 : 0 ≤ (x4_1 : Int) := dt_; have q115 : x4_1 < (l0.length : Int) := dt_; obtain ⟨ad115, e115, hx115_0⟩ := Kd.at_string HR0.out x4_1 p115 q115; obtain rfl : ad101 = ad115 := (by injection e115); replace hx115_0 := up_ HB.out hx115_0; replace p115 := eq_true p115; replace q115 := eq_true q115) | ((with_reducible refine gate_builtin (b := .append) (xs := #[.tmp 42, .tmp 47]) rfl ?_); at_builtin; refine Kd.R_append Kd.string (w0 := w) w.heap.size rfl (.tmp 42) (.tmp 47) 52 9 (.string ⟨#[]⟩) 16 rfl Try.underlying52 info9 rfl (by decide) (by omega) v113 y112 (rdOf ByteArray.empty l0 x4_1) [.string (rdOf ByteArray.empty l0 x4_1)] (fun k_ => some k_ ≠ (.slice Ao7 x3_1.length co7 : Value).ownBlock) (fun _ => False) rfl rfl ?aP (fun _ hk => hk.elim) ?aF ?aO ?aB ?aS ?aL ?_; (case aP => exact rfl); (case aB => exact (pL HB.out)); (case aF => exact (fun k_ hk => Kd.fresh' (Kd.R_lt (pR HO_3.out)) k_ hk)); (case aO => exact (pR HO114.out)); (case aS => exact (below_size (pL HB.out))); (case aL => have := LMc21.out; omega); intro v117 w29 ho hb hg hat; rw [← Ny116.out] at ho; replace HB := am (hb); replace HR111 := am ((show Kd.C Kd.string w29 Ao7 y108.length y108 from by rw [Ny108.out]; exact Kd.C_take (m := (x5_2 : Int).toNat) ((Kd.R_reads' (Kd.R_after (ok := (fun _ => True)) (pR HO_3.out) hg hat)).2.2) KL27.out)); replace HO_3 := am (Kd.R_after (ok := (fun _ => True)) (pR HO_3.out) hg hat); have HO118 := am (ho); clear HO114; clear ho hb hg hat; have q30 : (x5_2 : Int) ≤ ((x3_1.length : Int) : Int) := dt_; obtain ⟨i030, hi030, _, hsz30, _⟩ := info_parts info9; have hroom30 : x3_1.length ≤ co7 := (Kd.R_reads' HO_3.out).2.1; have hC30 : Kd.C Kd.string _ Ao7 x3_1.length x3_1 := (Kd.R_reads' HO_3.out).2.2; have q030 : (0 : Int) ≤ (x5_2 : Int) := dt_; have hcut30 := cut_from (P := Try.prog) 52 9 .i64 Try.underlying52 hi030 1 hsz30 Ao7 x3_1.length co7 x5_2 q030 q30; have hr30 := Kd.C_drop (m := (x5_2 : Int).toNat) (c := co7) hC30 (by omega) hroom30; obtain ⟨A30, hA30⟩ : ∃ A1, A1 = (if co7 = (x5_2 : Int).toNat then Ao7 else (Ao7 : Option Addr).map (·.add ((x5_2 : Int).toNat * 1))) := ⟨_, rfl⟩; obtain ⟨c30, hc30⟩ : ∃ c1, c1 = co7 - (x5_2 : Int).toNat := ⟨_, rfl⟩; have hy30 : y119.length = x3_1.length - (x5_2 : Int).toNat := (by rw [Ny119.out, List.length_drop] <;> omega); rw [show (x3_1).drop (x5_2 : Int).toNat = y119 from Ny119.out.symm] at hr30; replace hr30 : Kd.C Kd.string _ A30 y119.length y119 := (by rw [hA30]; exact hr30); rw [← hy30, ← hA30, ← hc30] at hcut30; have HR122 := am hr30; have HC122 := am (show y119.length ≤ c30 from by rw [hy30, hc30]; exact Nat.sub_le_sub_right hroom30 _); clear hr30 hC30 hroom30 hi030 hsz30 hc30; have KY30 := am hy30; have KA30 := am hA30; clear hy30 hA30; have KL30 := am (show (x5_2 : Int).toNat ≤ x3_1.length from by omega); replace q30 := eq_true q30) | ((with_reducible refine gate_builtin (b := .append) (xs := #[.tmp 49, .tmp 52]) rfl ?_); at_builtin; refine Kd.R_append_rows Kd.string (w0 := w) w.heap.size rfl (.tmp 49) (.tmp 52) 52 9 (.string ⟨#[]⟩) 16 rfl Try.underlying52 info9 rfl (by decide) (by omega) v117 y116 y119 _ _ _ (fun k_ => some k_ ≠ (.slice Ao7 x3_1.length co7 : Value).ownBlock) (fun _ => False) rfl rfl ?aO ?aR (fun _ _ h => h) (fun _ h => h.elim) ?aF ?aB ?aS ?aL ?_; (case aR => repeat (first | exact (by repeat (first | (with_reducible exact HR122.out) | (with_reducible refine Kd.C_alloc ?_ _) | (with_reducible refine Kd.C_drewN ?_ _) | (with_reducible refine Kd.C_drew ?_) | exact HR122.out)) | (with_reducible refine Kd.C_alloc ?_ _) | (with_reducible refine Kd.C_drewN ?_ _) | (with_reducible refine Kd.C_drew ?_))); (case aB => exact (pL HB.out)); (case aF => exact (fun k_ hk => Kd.fresh' (Kd.R_lt (pR HO_3.out)) k_ hk)); (case aO => exact (pR HO118.out)); (case aS => exact (below_size (pL HB.out))); (case aL => have := LMc24.out; omega); intro v124 w31 ho hb hg hat; rw [← Ny123.out] at ho; replace HB := am (hb); replace HR111 := am ((show Kd.C Kd.string w31 Ao7 y108.length y108 from by rw [Ny108.out]; exact Kd.C_take (m := (x5_2 : Int).toNat) ((Kd.R_reads' (Kd.R_after (ok := (fun _ => True)) (pR HO_3.out) hg hat)).2.2) KL27.out)); replace HR122 := am ((show Kd.C Kd.string w31 A30 y119.length y119 from by rw [Ny119.out, KA30.out]; exact Kd.C_drop (m := (x5_2 : Int).toNat) (c := co7) ((Kd.R_reads' (Kd.R_after (ok := (fun _ => True)) (pR HO_3.out) hg hat)).2.2) KL30.out ((Kd.R_reads' (Kd.R_after (ok := (fun _ => True)) (pR HO_3.out) hg hat)).2.1))); replace HO_3 := am (Kd.R_after (ok := (fun _ => True)) (pR HO_3.out) hg hat); have HO125 := am (ho); clear HO118; clear ho hb hg hat))
                  repeat (go_quiet (first | ((with_reducible refine gate_dst (N := 37) rfl ?_); refine Kd.R_lit Kd.string _ 9 ?hg (N := 37) ?hd (xs := ([] : List ByteArray)) (inner := []) (ok := fun _ => True) (okp := fun _ => True) ?hr ?hp (fun _ hk => hk) trivial (Below.refl _ _) (Nat.le_refl _) (by simp) ?_; (case hd => rfl); (case hg => rfl); (case hr => first | (go_simp; done) | (go_simp; rfl)); (case hp => exact (Reps.none _ _)); intro v106 w25 ho26 hb hg_ hnew_; clear hg_ hnew_; (first | rw [← Ny105.out] at ho26 | (simp only [Int.reduceToNat] at ho26; rw [← Ny105.out] at ho26)); have HO107 := am (Kd.R_lower (Kd.R_new' ho26 (Kd.R_lt (pR HO_3.out))) (below_size (pL HB.out))); replace HO_3 := am (Kd.R_elder' (pR HO_3.out) (Kd.R_base ho26) hb); replace HB := am (bs_ HB.out hb); clear hb ho26; have q27 : (x5_2 : Int) ≤ ((x3_1.length : Int) : Int) := dt_; obtain ⟨i027, hi027, _, hsz27, _⟩ := info_parts info9; have hroom27 : x3_1.length ≤ co7 := (Kd.R_reads' HO_3.out).2.1; have hC27 : Kd.C Kd.string _ Ao7 x3_1.length x3_1 := (Kd.R_reads' HO_3.out).2.2; have hcut27 := cut_to (P := Try.prog) 52 9 .i64 Try.underlying52 hi027 Ao7 x3_1.length co7 x5_2 (dt_) q27 hroom27; have hr27 := Kd.C_take (m := (x5_2 : Int).toNat) hC27 (by omega); have hy27 : y108.length = (x5_2 : Int).toNat := (by rw [Ny108.out, List.length_take]; omega); rw [← Ny108.out] at hr27; rw [← hy27] at hcut27; have HR111 := am hr27; have HC111 := am (show y108.length ≤ co7 from by omega); clear hr27 hC27 hroom27 hi027 hsz27; have KY27 := am hy27; clear hy27; have KL27 := am (show (x5_2 : Int).toNat ≤ x3_1.length from by omega); replace q27 := eq_true q27) | ((with_reducible refine gate_builtin (b := .append) (xs := #[.tmp 37, .tmp 40]) rfl ?_); at_builtin; refine Kd.R_append_rows Kd.string (w0 := w) w.heap.size rfl (.tmp 37) (.tmp 40) 52 9 (.string ⟨#[]⟩) 16 rfl Try.underlying52 info9 rfl (by decide) (by omega) v106 y105 y108 _ _ _ (fun k_ => some k_ ≠ (.slice Ao7 x3_1.length co7 : Value).ownBlock) (fun _ => False) rfl rfl ?aO ?aR (fun _ _ h => h) (fun _ h => h.elim) ?aF ?aB ?aS ?aL ?_; (case aR => repeat (first | exact (by repeat (first | (with_reducible exact HR111.out) | (with_reducible refine Kd.C_alloc ?_ _) | (with_reducible refine Kd.C_drewN ?_ _) | (with_reducible refine Kd.C_drew ?_) | exact HR111.out)) | (with_reducible refine Kd.C_alloc ?_ _) | (with_reducible refine Kd.C_drewN ?_ _) | (with_reducible refine Kd.C_drew ?_))); (case aB => exact (pL HB.out)); (case aF => exact (fun k_ hk => Kd.fresh' (Kd.R_lt (pR HO_3.out)) k_ hk)); (case aO => exact (by (with_reducible repeat (first | apply Ra | apply Rn | apply Rd)); exact Kd.R_mono HO107.out (fun _ hk => hk.2))); (case aS => exact (below_size (pL HB.out))); (case aL => have := LMc18.out; omega); intro v113 w28 ho hb hg hat; rw [← Ny112.out] at ho; replace HB := am (hb); replace HR111 := am ((show Kd.C Kd.string w28 Ao7 y108.length y108 from by rw [Ny108.out]; exact Kd.C_take (m := (x5_2 : Int).toNat) ((Kd.R_reads' (Kd.R_after (ok := (fun _ => True)) (pR HO_3.out) hg hat)).2.2) KL27.out)); replace HO_3 := am (Kd.R_after (ok := (fun _ => True)) (pR HO_3.out) hg hat); have HO114 := am (ho); clear HO107; clear ho hb hg hat; have p115 : 0 ≤ (x4_1 : Int) := dt_; have q115 : x4_1 < (l0.length : Int) := dt_; obtain ⟨ad115, e115, hx115_0⟩ := Kd.at_string HR0.out x4_1 p115 q115; obtain rfl : ad101 = ad115 := (by injection e115); replace hx115_0 := up_ HB.out hx115_0; replace p115 := eq_true p115; replace q115 := eq_true q115) | ((with_reducible refine gate_builtin (b := .append) (xs := #[.tmp 42, .tmp 47]) rfl ?_); at_builtin; refine Kd.R_append Kd.string (w0 := w) w.heap.size rfl (.tmp 42) (.tmp 47) 52 9 (.string ⟨#[]⟩) 16 rfl Try.underlying52 info9 rfl (by decide) (by omega) v113 y112 (rdOf ByteArray.empty l0 x4_1) [.string (rdOf ByteArray.empty l0 x4_1)] (fun k_ => some k_ ≠ (.slice Ao7 x3_1.length co7 : Value).ownBlock) (fun _ => False) rfl rfl ?aP (fun _ hk => hk.elim) ?aF ?aO ?aB ?aS ?aL ?_; (case aP => exact rfl); (case aB => exact (pL HB.out)); (case aF => exact (fun k_ hk => Kd.fresh' (Kd.R_lt (pR HO_3.out)) k_ hk)); (case aO => exact (pR HO114.out)); (case aS => exact (below_size (pL HB.out))); (case aL => have := LMc21.out; omega); intro v117 w29 ho hb hg hat; rw [← Ny116.out] at ho; replace HB := am (hb); replace HR111 := am ((show Kd.C Kd.string w29 Ao7 y108.length y108 from by rw [Ny108.out]; exact Kd.C_take (m := (x5_2 : Int).toNat) ((Kd.R_reads' (Kd.R_after (ok := (fun _ => True)) (pR HO_3.out) hg hat)).2.2) KL27.out)); replace HO_3 := am (Kd.R_after (ok := (fun _ => True)) (pR HO_3.out) hg hat); have HO118 := am (ho); clear HO114; clear ho hb hg hat; have q30 : (x5_2 : Int) ≤ ((x3_1.length : Int) : Int) := dt_; obtain ⟨i030, hi030, _, hsz30, _⟩ := info_parts info9; have hroom30 : x3_1.length ≤ co7 := (Kd.R_reads' HO_3.out).2.1; have hC30 : Kd.C Kd.string _ Ao7 x3_1.length x3_1 := (Kd.R_reads' HO_3.out).2.2; have q030 : (0 : Int) ≤ (x5_2 : Int) := dt_; have hcut30 := cut_from (P := Try.prog) 52 9 .i64 Try.underlying52 hi030 1 hsz30 Ao7 x3_1.length co7 x5_2 q030 q30; have hr30 := Kd.C_drop (m := (x5_2 : Int).toNat) (c := co7) hC30 (by omega) hroom30; obtain ⟨A30, hA30⟩ : ∃ A1, A1 = (if co7 = (x5_2 : Int).toNat then Ao7 else (Ao7 : Option Addr).map (·.add ((x5_2 : Int).toNat * 1))) := ⟨_, rfl⟩; obtain ⟨c30, hc30⟩ : ∃ c1, c1 = co7 - (x5_2 : Int).toNat := ⟨_, rfl⟩; have hy30 : y119.length = x3_1.length - (x5_2 : Int).toNat := (by rw [Ny119.out, List.length_drop] <;> omega); rw [show (x3_1).drop (x5_2 : Int).toNat = y119 from Ny119.out.symm] at hr30; replace hr30 : Kd.C Kd.string _ A30 y119.length y119 := (by rw [hA30]; exact hr30); rw [← hy30, ← hA30, ← hc30] at hcut30; have HR122 := am hr30; have HC122 := am (show y119.length ≤ c30 from by rw [hy30, hc30]; exact Nat.sub_le_sub_right hroom30 _); clear hr30 hC30 hroom30 hi030 hsz30 hc30; have KY30 := am hy30; have KA30 := am hA30; clear hy30 hA30; have KL30 := am (show (x5_2 : Int).toNat ≤ x3_1.length from by omega); replace q30 := eq_true q30) | ((with_reducible refine gate_builtin (b := .append) (xs := #[.tmp 49, .tmp 52]) rfl ?_); at_builtin; refine Kd.R_append_rows Kd.string (w0 := w) w.heap.size rfl (.tmp 49) (.tmp 52) 52 9 (.string ⟨#[]⟩) 16 rfl Try.underlying52 info9 rfl (by decide) (by omega) v117 y116 y119 _ _ _ (fun k_ => some k_ ≠ (.slice Ao7 x3_1.length co7 : Value).ownBlock) (fun _ => False) rfl rfl ?aO ?aR (fun _ _ h => h) (fun _ h => h.elim) ?aF ?aB ?aS ?aL ?_; (case aR => repeat (first | exact (by repeat (first | (with_reducible exact HR122.out) | (with_reducible refine Kd.C_alloc ?_ _) | (with_reducible refine Kd.C_drewN ?_ _) | (with_reducible refine Kd.C_drew ?_) | exact HR122.out)) | (with_reducible refine Kd.C_alloc ?_ _) | (with_reducible refine Kd.C_drewN ?_ _) | (with_reducible refine Kd.C_drew ?_))); (case aB => exact (pL HB.out)); (case aF => exact (fun k_ hk => Kd.fresh' (Kd.R_lt (pR HO_3.out)) k_ hk)); (case aO => exact (pR HO118.out)); (case aS => exact (below_size (pL HB.out))); (case aL => have := LMc24.out; omega); intro v124 w31 ho hb hg hat; rw [← Ny123.out] at ho; replace HB := am (hb); replace HR111 := am ((show Kd.C Kd.string w31 Ao7 y108.length y108 from by rw [Ny108.out]; exact Kd.C_take (m := (x5_2 : Int).toNat) ((Kd.R_reads' (Kd.R_after (ok := (fun _ => True)) (pR HO_3.out) hg hat)).2.2) KL27.out)); replace HR122 := am ((show Kd.C Kd.string w31 A30 y119.length y119 from by rw [Ny119.out, KA30.out]; exact Kd.C_drop (m := (x5_2 : Int).toNat) (c := co7) ((Kd.R_reads' (Kd.R_after (ok := (fun _ => True)) (pR HO_3.out) hg hat)).2.2) KL30.out ((Kd.R_reads' (Kd.R_after (ok := (fun _ => True)) (pR HO_3.out) hg hat)).2.1))); replace HO_3 := am (Kd.R_after (ok := (fun _ => True)) (pR HO_3.out) hg hat); have HO125 := am (ho); clear HO118; clear ho hb hg hat)); try go_wp2_with (first | ((with_reducible refine gate_dst (N := 37) rfl ?_); refine Kd.R_lit Kd.string _ 9 ?hg (N := 37) ?hd (xs := ([] : List ByteArray)) (inner := []) (ok := fun _ => True) (okp := fun _ => True) ?hr ?hp (fun _ hk => hk) trivial (Below.refl _ _) (Nat.le_refl _) (by simp) ?_; (case hd => rfl); (case hg => rfl); (case hr => first | (go_simp; done) | (go_simp; rfl)); (case hp => exact (Reps.none _ _)); intro v106 w25 ho26 hb hg_ hnew_; clear hg_ hnew_; (first | rw [← Ny105.out] at ho26 | (simp only [Int.reduceToNat] at ho26; rw [← Ny105.out] at ho26)); have HO107 := am (Kd.R_lower (Kd.R_new' ho26 (Kd.R_lt (pR HO_3.out))) (below_size (pL HB.out))); replace HO_3 := am (Kd.R_elder' (pR HO_3.out) (Kd.R_base ho26) hb); replace HB := am (bs_ HB.out hb); clear hb ho26; have q27 : (x5_2 : Int) ≤ ((x3_1.length : Int) : Int) := dt_; obtain ⟨i027, hi027, _, hsz27, _⟩ := info_parts info9; have hroom27 : x3_1.length ≤ co7 := (Kd.R_reads' HO_3.out).2.1; have hC27 : Kd.C Kd.string _ Ao7 x3_1.length x3_1 := (Kd.R_reads' HO_3.out).2.2; have hcut27 := cut_to (P := Try.prog) 52 9 .i64 Try.underlying52 hi027 Ao7 x3_1.length co7 x5_2 (dt_) q27 hroom27; have hr27 := Kd.C_take (m := (x5_2 : Int).toNat) hC27 (by omega); have hy27 : y108.length = (x5_2 : Int).toNat := (by rw [Ny108.out, List.length_take]; omega); rw [← Ny108.out] at hr27; rw [← hy27] at hcut27; have HR111 := am hr27; have HC111 := am (show y108.length ≤ co7 from by omega); clear hr27 hC27 hroom27 hi027 hsz27; have KY27 := am hy27; clear hy27; have KL27 := am (show (x5_2 : Int).toNat ≤ x3_1.length from by omega); replace q27 := eq_true q27) | ((with_reducible refine gate_builtin (b := .append) (xs := #[.tmp 37, .tmp 40]) rfl ?_); at_builtin; refine Kd.R_append_rows Kd.string (w0 := w) w.heap.size rfl (.tmp 37) (.tmp 40) 52 9 (.string ⟨#[]⟩) 16 rfl Try.underlying52 info9 rfl (by decide) (by omega) v106 y105 y108 _ _ _ (fun k_ => some k_ ≠ (.slice Ao7 x3_1.length co7 : Value).ownBlock) (fun _ => False) rfl rfl ?aO ?aR (fun _ _ h => h) (fun _ h => h.elim) ?aF ?aB ?aS ?aL ?_; (case aR => repeat (first | exact (by repeat (first | (with_reducible exact HR111.out) | (with_reducible refine Kd.C_alloc ?_ _) | (with_reducible refine Kd.C_drewN ?_ _) | (with_reducible refine Kd.C_drew ?_) | exact HR111.out)) | (with_reducible refine Kd.C_alloc ?_ _) | (with_reducible refine Kd.C_drewN ?_ _) | (with_reducible refine Kd.C_drew ?_))); (case aB => exact (pL HB.out)); (case aF => exact (fun k_ hk => Kd.fresh' (Kd.R_lt (pR HO_3.out)) k_ hk)); (case aO => exact (by (with_reducible repeat (first | apply Ra | apply Rn | apply Rd)); exact Kd.R_mono HO107.out (fun _ hk => hk.2))); (case aS => exact (below_size (pL HB.out))); (case aL => have := LMc18.out; omega); intro v113 w28 ho hb hg hat; rw [← Ny112.out] at ho; replace HB := am (hb); replace HR111 := am ((show Kd.C Kd.string w28 Ao7 y108.length y108 from by rw [Ny108.out]; exact Kd.C_take (m := (x5_2 : Int).toNat) ((Kd.R_reads' (Kd.R_after (ok := (fun _ => True)) (pR HO_3.out) hg hat)).2.2) KL27.out)); replace HO_3 := am (Kd.R_after (ok := (fun _ => True)) (pR HO_3.out) hg hat); have HO114 := am (ho); clear HO107; clear ho hb hg hat; have p115 : 0 ≤ (x4_1 : Int) := dt_; have q115 : x4_1 < (l0.length : Int) := dt_; obtain ⟨ad115, e115, hx115_0⟩ := Kd.at_string HR0.out x4_1 p115 q115; obtain rfl : ad101 = ad115 := (by injection e115); replace hx115_0 := up_ HB.out hx115_0; replace p115 := eq_true p115; replace q115 := eq_true q115) | ((with_reducible refine gate_builtin (b := .append) (xs := #[.tmp 42, .tmp 47]) rfl ?_); at_builtin; refine Kd.R_append Kd.string (w0 := w) w.heap.size rfl (.tmp 42) (.tmp 47) 52 9 (.string ⟨#[]⟩) 16 rfl Try.underlying52 info9 rfl (by decide) (by omega) v113 y112 (rdOf ByteArray.empty l0 x4_1) [.string (rdOf ByteArray.empty l0 x4_1)] (fun k_ => some k_ ≠ (.slice Ao7 x3_1.length co7 : Value).ownBlock) (fun _ => False) rfl rfl ?aP (fun _ hk => hk.elim) ?aF ?aO ?aB ?aS ?aL ?_; (case aP => exact rfl); (case aB => exact (pL HB.out)); (case aF => exact (fun k_ hk => Kd.fresh' (Kd.R_lt (pR HO_3.out)) k_ hk)); (case aO => exact (pR HO114.out)); (case aS => exact (below_size (pL HB.out))); (case aL => have := LMc21.out; omega); intro v117 w29 ho hb hg hat; rw [← Ny116.out] at ho; replace HB := am (hb); replace HR111 := am ((show Kd.C Kd.string w29 Ao7 y108.length y108 from by rw [Ny108.out]; exact Kd.C_take (m := (x5_2 : Int).toNat) ((Kd.R_reads' (Kd.R_after (ok := (fun _ => True)) (pR HO_3.out) hg hat)).2.2) KL27.out)); replace HO_3 := am (Kd.R_after (ok := (fun _ => True)) (pR HO_3.out) hg hat); have HO118 := am (ho); clear HO114; clear ho hb hg hat; have q30 : (x5_2 : Int) ≤ ((x3_1.length : Int) : Int) := dt_; obtain ⟨i030, hi030, _, hsz30, _⟩ := info_parts info9; have hroom30 : x3_1.length ≤ co7 := (Kd.R_reads' HO_3.out).2.1; have hC30 : Kd.C Kd.string _ Ao7 x3_1.length x3_1 := (Kd.R_reads' HO_3.out).2.2; have q030 : (0 : Int) ≤ (x5_2 : Int) := dt_; have hcut30 := cut_from (P := Try.prog) 52 9 .i64 Try.underlying52 hi030 1 hsz30 Ao7 x3_1.length co7 x5_2 q030 q30; have hr30 := Kd.C_drop (m := (x5_2 : Int).toNat) (c := co7) hC30 (by omega) hroom30; obtain ⟨A30, hA30⟩ : ∃ A1, A1 = (if co7 = (x5_2 : Int).toNat then Ao7 else (Ao7 : Option Addr).map (·.add ((x5_2 : Int).toNat * 1))) := ⟨_, rfl⟩; obtain ⟨c30, hc30⟩ : ∃ c1, c1 = co7 - (x5_2 : Int).toNat := ⟨_, rfl⟩; have hy30 : y119.length = x3_1.length - (x5_2 : Int).toNat := (by rw [Ny119.out, List.length_drop] <;> omega); rw [show (x3_1).drop (x5_2 : Int).toNat = y119 from Ny119.out.symm] at hr30; replace hr30 : Kd.C Kd.string _ A30 y119.length y119 := (by rw [hA30]; exact hr30); rw [← hy30, ← hA30, ← hc30] at hcut30; have HR122 := am hr30; have HC122 := am (show y119.length ≤ c30 from by rw [hy30, hc30]; exact Nat.sub_le_sub_right hroom30 _); clear hr30 hC30 hroom30 hi030 hsz30 hc30; have KY30 := am hy30; have KA30 := am hA30; clear hy30 hA30; have KL30 := am (show (x5_2 : Int).toNat ≤ x3_1.length from by omega); replace q30 := eq_true q30) | ((with_reducible refine gate_builtin (b := .append) (xs := #[.tmp 49, .tmp 52]) rfl ?_); at_builtin; refine Kd.R_append_rows Kd.string (w0 := w) w.heap.size rfl (.tmp 49) (.tmp 52) 52 9 (.string ⟨#[]⟩) 16 rfl Try.underlying52 info9 rfl (by decide) (by omega) v117 y116 y119 _ _ _ (fun k_ => some k_ ≠ (.slice Ao7 x3_1.length co7 : Value).ownBlock) (fun _ => False) rfl rfl ?aO ?aR (fun _ _ h => h) (fun _ h => h.elim) ?aF ?aB ?aS ?aL ?_; (case aR => repeat (first | exact (by repeat (first | (with_reducible exact HR122.out) | (with_reducible refine Kd.C_alloc ?_ _) | (with_reducible refine Kd.C_drewN ?_ _) | (with_reducible refine Kd.C_drew ?_) | exact HR122.out)) | (with_reducible refine Kd.C_alloc ?_ _) | (with_reducible refine Kd.C_drewN ?_ _) | (with_reducible refine Kd.C_drew ?_))); (case aB => exact (pL HB.out)); (case aF => exact (fun k_ hk => Kd.fresh' (Kd.R_lt (pR HO_3.out)) k_ hk)); (case aO => exact (pR HO118.out)); (case aS => exact (below_size (pL HB.out))); (case aL => have := LMc24.out; omega); intro v124 w31 ho hb hg hat; rw [← Ny123.out] at ho; replace HB := am (hb); replace HR111 := am ((show Kd.C Kd.string w31 Ao7 y108.length y108 from by rw [Ny108.out]; exact Kd.C_take (m := (x5_2 : Int).toNat) ((Kd.R_reads' (Kd.R_after (ok := (fun _ => True)) (pR HO_3.out) hg hat)).2.2) KL27.out)); replace HR122 := am ((show Kd.C Kd.string w31 A30 y119.length y119 from by rw [Ny119.out, KA30.out]; exact Kd.C_drop (m := (x5_2 : Int).toNat) (c := co7) ((Kd.R_reads' (Kd.R_after (ok := (fun _ => True)) (pR HO_3.out) hg hat)).2.2) KL30.out ((Kd.R_reads' (Kd.R_after (ok := (fun _ => True)) (pR HO_3.out) hg hat)).2.1))); replace HO_3 := am (Kd.R_after (ok := (fun _ => True)) (pR HO_3.out) hg hat); have HO125 := am (ho); clear HO118; clear ho hb hg hat)))
                  go_roundg kj7
                  case measure => have := HK1.out; have := HK2.out; have := HJ7.out; omega
                  case rel => exact ⟨(y123), (wrap64 (x4_1 + 1)), rs_, H', ⟨by have := HK1.out; have := HK2.out; have := HJ7.out; omega⟩, ⟨by (with_reducible repeat (first | apply Ra | apply Rn | apply Rd)); exact Kd.R_mono HO125.out (fun _ hk => trivial)⟩, ⟨pL HB.out⟩⟩
                 ·rw [if_neg c24] at H
                  exact absurd H (by simp)
                ·rw [if_neg c21] at H
                 exact absurd H (by simp)
               ·rw [if_neg c20] at H
                exact absurd H (by simp)
              ·rw [if_neg c19] at H
               exact absurd H (by simp)
             ·rw [if_neg c18] at H
              exact absurd H (by simp)
            ·rw [if_neg c17] at H
             exact absurd H (by simp)
           ·rw [if_neg c16] at H
            exact absurd H (by simp)
    ·rw [if_neg c3] at H
     exact absurd H (by simp)
   ·rw [if_neg c2] at H
    have c2b0 : decide (x4_1 < (l0.length : Int)) = false := decide_eq_false c2
    clear c2
    obtain rfl := Option.some.inj H
    go_wp2
    repeat (go_quiet (fail); try go_wp2)
    go_ret
    exact ⟨_, by first | rfl | (simp [errW_none, errW_some] <;> rfl) | (simp [*, errW_none, errW_some] <;> rfl), by (with_reducible repeat (first | apply Ra | apply Rn | apply Rd)); exact HO_3.out, pL HB.out⟩
end Go.Proofs.Ytmlhnjonmjmhdaa.H
/- the document's own sorted list of names -/
namespace Go.Proofs.Ytmlhnjonmjmhdaa.H
open Go.RowKit Go.Proofs.YtmlhnjonmjmhdaaW.PrintWords
theorem In_l0 (l : List ByteArray) (s : ByteArray) (hl : l.length ≤ 9223372036854775807) : ∀ (r : List ByteArray) (n : Nat), l.drop n = r → Ev (fun k => lambrequinref09_In.l0 k l s n) (mem s r)
  | [], n, h => by
    refine Ev.step (fun k => by rw [lambrequinref09_In.l0]) ?_
    exact Ev.neg (drop_end h) (Ev.some (by simp [mem]))
  | y :: r, n, h => by
    obtain ⟨h1, h2, h3, h4, h5⟩ := drop_more h hl
    refine Ev.step (fun k => by rw [lambrequinref09_In.l0]) ?_
    refine Ev.pos h1 (Ev.pos h2 ?_)
    rw [show rdOf ByteArray.empty l n = y from h3 _, h5]
    refine Ev.iff (Ev.cases (fun _ => Ev.now true) (fun _ => In_l0 l s hl r (n + 1) h4)) ?_
    simp only [lib_ba_eq, mem, List.any_cons]
    by_cases e : y = s
    · subst e; simp
    · have e' : ¬ s = y := fun h => e h.symm
      simp [e, e']
theorem In_ev (l : List ByteArray) (s : ByteArray) (hl : l.length ≤ 9223372036854775807) : Ev (fun k => lambrequinref09_In.f k l s) (mem s l) := In_l0 l s hl l 0 rfl
def SS (l : List ByteArray) : Prop := (l.map toL).Pairwise (· < ·)
theorem SS_nodup {l : List ByteArray} (h : SS l) : (l.map toL).Nodup := List.Pairwise.imp (R := (· < ·)) (fun {a b} h => by rintro rfl; exact List.lt_irrefl a h) h
theorem SS_ext {a b : List ByteArray} (ha : SS a) (hb : SS b) (h : ∀ x, x ∈ a ↔ x ∈ b) : a = b := by
  have e : a.map toL = b.map toL := by
    refine List.Perm.eq_of_pairwise (le := (· < ·)) ?_ ha hb ((List.perm_ext_iff_of_nodup (SS_nodup ha) (SS_nodup hb)).2 fun x => ?_)
    · intro a b _ _ h1 h2
      exact absurd (List.lt_trans h1 h2) (List.lt_irrefl a)
    · rw [List.mem_map, List.mem_map]
      exact ⟨fun ⟨y, hy, e⟩ => ⟨y, (h y).1 hy, e⟩, fun ⟨y, hy, e⟩ => ⟨y, (h y).2 hy, e⟩⟩
  have := congrArg (List.map ofL) e
  rw [List.map_map, List.map_map] at this
  have e2 : (ofL ∘ toL) = (id : ByteArray → ByteArray) := by funext x; simp [ofL_toL]
  simpa [e2] using this
theorem less_iff (a b : ByteArray) : Op.bytesLess a.toList b.toList = true ↔ toL a < toL b := by
  rw [Proofs.bytesLess_eq, ByteArray.toList_eq, ByteArray.toList_eq, decide_eq_true_iff]
  rfl
theorem SS_insert {x3 : List ByteArray} {y : ByteArray} {n : Nat} (hs : SS x3) (h1 : ∀ z ∈ x3.drop n, toL y < toL z) (h2 : ∀ z ∈ x3.take n, toL z < toL y) : SS (x3.take n ++ [y] ++ x3.drop n) := by
  unfold SS at hs ⊢
  rw [← List.take_append_drop n x3, List.map_append, List.pairwise_append] at hs
  simp only [List.map_append, List.map_cons, List.map_nil, List.append_assoc, List.singleton_append]
  rw [List.pairwise_append]
  refine ⟨hs.1, List.pairwise_cons.2 ⟨fun z hz => ?_, hs.2.1⟩, fun a ha b hb => ?_⟩
  · obtain ⟨q, hq, rfl⟩ := List.mem_map.1 hz; exact h1 q hq
  · rcases List.mem_cons.1 hb with rfl | hb
    · obtain ⟨q, hq, rfl⟩ := List.mem_map.1 ha; exact h2 q hq
    · exact hs.2.2 a ha b hb
theorem Sorted_l1 (l : List ByteArray) (x3 : List ByteArray) (i : Nat) (y : ByteArray) (hl : l.length ≤ 1000000) (hx : x3.length ≤ 1000000) (hy : l[i]? = some y) (hs : SS x3) (hno : ¬ y ∈ x3) (R : List ByteArray)
    (go : ∀ x', SS x' → (∀ x, x ∈ x' ↔ x = y ∨ x ∈ x3) → x'.length = x3.length + 1 → Ev (fun k => lambrequinref09_Sorted.l0 k l x' ((i + 1 : Nat) : Int)) R) : ∀ (n : Nat), n ≤ x3.length → (∀ z ∈ x3.drop n, toL y < toL z) →
    Ev (fun k => lambrequinref09_Sorted.l1 k l x3 i n) R := by
  have hil : i < l.length := (List.getElem?_eq_some_iff.1 hy).1
  have put : ∀ n : Nat, n ≤ x3.length → (∀ z ∈ x3.drop n, toL y < toL z) → (∀ z ∈ x3.take n, toL z < toL y) → Ev (fun k => lambrequinref09_Sorted.l0 k l ([] ++ x3.take n ++ [y] ++ x3.drop n) ((i + 1 : Nat) : Int)) R := by
    intro n hn h1 h2
    rw [List.nil_append]
    refine go _ (SS_insert hs h1 h2) (fun x => ?_) (by simp; omega)
    rw [List.mem_append, List.mem_append, List.mem_singleton]
    constructor
    · rintro ((h | h) | h)
      · exact .inr (List.mem_of_mem_take h)
      · exact .inl h
      · exact .inr (List.mem_of_mem_drop h)
    · rintro (h | h)
      · exact .inl (.inr h)
      · rw [← List.take_append_drop n x3, List.mem_append] at h
        rcases h with h | h
        · exact .inl (.inl h)
        · exact .inr h
  have fall : ∀ n : Nat, n ≤ x3.length → (∀ z ∈ x3.drop n, toL y < toL z) → (∀ z ∈ x3.take n, toL z < toL y) → Ev (fun k => lambrequinref09_Sorted.j2 k l x3 i n false) R := by
    intro n hn h1 h2
    have hp := put n hn h1 h2
    refine Ev.step (fun k => by rw [lambrequinref09_Sorted.j2]) ?_
    refine Ev.neg (by decide) (Ev.pure (a := []) rfl (Ev.pos (by omega) (Ev.pos (by omega) (Ev.pure (a := x3.take n) rfl (Ev.pos (by simp; omega) (Ev.pure (a := [] ++ x3.take n) rfl ?_))))))
    refine Ev.pos (by omega) (Ev.pos (by omega) (Ev.pos (by simp; omega) (Ev.pure (a := [] ++ x3.take n ++ [y]) ?_ (Ev.pure (a := x3.drop n) rfl (Ev.pos (by simp; omega) ?_)))))
    · rw [show rdOf ByteArray.empty l i = y from getD_at hy _]
    · rw [wrap_up (by omega)]
      exact hp
  intro n
  induction n with
  | zero =>
    intro hn h1
    refine Ev.step (fun k => by rw [lambrequinref09_Sorted.l1]) ?_
    exact Ev.neg (by omega) (fall 0 hn h1 (by simp))
  | succ n ih =>
    intro hn h1
    have hw : wrap64 (((n + 1 : Nat) : Int) - 1) = (n : Int) := by unfold wrap64; omega
    have hp : x3[n]? = some (x3[n]'(by omega)) := List.getElem?_eq_getElem (by omega)
    have hpm : x3[n]'(by omega) ∈ x3 := List.getElem_mem _
    refine Ev.step (fun k => by rw [lambrequinref09_Sorted.l1, hw]) ?_
    refine Ev.pos (by omega) (Ev.pos (by omega) (Ev.pos (by omega) (Ev.pos (by omega) (Ev.pos (by omega) ?_))))
    rw [show rdOf ByteArray.empty l i = y from getD_at hy _, show rdOf ByteArray.empty x3 n = x3[n]'(by omega) from getD_at hp _]
    have hdrop : x3.drop n = x3[n]'(by omega) :: x3.drop (n + 1) := List.drop_eq_getElem_cons (by omega)
    by_cases c : toL y < toL (x3[n]'(by omega))
    · rw [(less_iff _ _).2 c]
      refine Ev.step (fun k => by rw [lambrequinref09_Sorted.j2, hw]) ?_
      refine Ev.pos rfl (ih (by omega) fun z hz => ?_)
      rw [hdrop] at hz
      rcases List.mem_cons.1 hz with rfl | hz
      · exact c
      · exact h1 z hz
    · have hlt : toL (x3[n]'(by omega)) < toL y := by
        rcases List.le_iff_lt_or_eq.1 (List.not_lt.1 c) with h | h
        · exact h
        · exact absurd (toL_inj h ▸ hpm) hno
      have h2 : ∀ z ∈ x3.take (n + 1), toL z < toL y := by
        intro z hz
        rw [List.take_add_one, hp] at hz
        rcases List.mem_append.1 hz with hz | hz
        · unfold SS at hs
          rw [← List.take_append_drop n x3, List.map_append, List.pairwise_append] at hs
          refine List.lt_trans (hs.2.2 (toL z) (List.mem_map.2 ⟨z, hz, rfl⟩) (toL (x3[n]'(by omega))) (List.mem_map.2 ⟨x3[n]'(by omega), by rw [hdrop]; exact List.mem_cons_self, rfl⟩)) hlt
        · simp at hz
          rw [hz]; exact hlt
      have hb : Op.bytesLess y.toList (x3[n]'(by omega)).toList = false := by
        cases h : Op.bytesLess y.toList (x3[n]'(by omega)).toList with
        | false => rfl
        | true => exact absurd ((less_iff _ _).1 h) c
      rw [hb]
      exact fall (n + 1) hn h1 h2
theorem Sorted_l0 (l : List ByteArray) (hl : l.length ≤ 1000000) : ∀ (r : List ByteArray) (n : Nat) (x3 : List ByteArray), l.drop n = r → n ≤ l.length → SS x3 → (∀ x, x ∈ x3 ↔ x ∈ l.take n) → x3.length ≤ n → Ev (fun k => lambrequinref09_Sorted.l0 k l x3 n) (setS l)
  | [], n, x3, h, hn, hs, hm, hc => by
    have hz : l.length ≤ n := by
      have := congrArg List.length h
      simp at this
      omega
    refine Ev.step (fun k => by rw [lambrequinref09_Sorted.l0]) ?_
    refine Ev.neg (drop_end h) (Ev.some (SS_ext hs (setS_sorted l) fun x => ?_))
    rw [hm, List.take_of_length_le hz, mem_setS]
  | y :: r, n, x3, h, hn, hs, hm, hc => by
    obtain ⟨h1, h2, h3, h4, h5⟩ := drop_more h (by omega)
    have hy : l[n]? = some y := by
      have := congrArg (fun z => z[0]?) h
      simpa using this
    have htake : ∀ x, x ∈ l.take (n + 1) ↔ x = y ∨ x ∈ l.take n := by
      intro x
      rw [List.take_add_one, hy, List.mem_append]
      simp [or_comm]
    refine Ev.step (fun k => by rw [lambrequinref09_Sorted.l0]) ?_
    refine Ev.pos h1 (Ev.pos h2 ?_)
    rw [show rdOf ByteArray.empty l n = y from h3 _, h5]
    refine Ev.bind (In_ev x3 y (by omega)) ?_
    cases hmm : mem y x3 with
    | true =>
      have hyx := mem_iff.1 hmm
      refine Ev.pos rfl (Sorted_l0 l hl r (n + 1) x3 h4 (by omega) hs (fun x => ?_) (by omega))
      rw [htake, ← hm]
      exact ⟨.inr, fun h => by rcases h with rfl | h; exact hyx; exact h⟩
    | false =>
      refine Ev.neg (by simp) ?_
      refine Sorted_l1 l x3 n y hl (by omega) hy hs (by rw [← mem_iff, hmm]; simp) _ (fun x' hs' hm' hc' => ?_) x3.length (Nat.le_refl _) (by simp)
      refine Sorted_l0 l hl r (n + 1) x' h4 (by omega) hs' (fun x => ?_) (by omega)
      rw [htake, hm', hm]
theorem Sorted_ev (l : List ByteArray) (hl : l.length ≤ 1000000) : Ev (fun k => lambrequinref09_Sorted.f k l) (setS l) := Sorted_l0 l hl l 0 [] rfl (by omega) (by simp [SS]) (by simp) (by simp)
end Go.Proofs.Ytmlhnjonmjmhdaa.H
namespace Go.Proofs.Ytmlhnjonmjmhdaa.H
open Go.RowKit Go.Proofs.YtmlhnjonmjmhdaaW.PrintWords Go.Proofs.YtmlhnjonmjmhdaaW.PrintLast Go.Proofs.YtmlhnjonmjmhdaaW.PrintMore
attribute [local go_sem] max2_int min2_int max_two min_two max_three min_three max_four min_four
def lambrequinref11_At.l0 : Nat → List ByteArray → ByteArray → Int → Option (Int)
 | 0, _, _, _ => none
 | k + 1, x0, x1, x5 => if x5 < (x0.length : Int) then (if 0 ≤ x5 then (if (rdOf ByteArray.empty x0 x5).toList = x1.toList then (some x5) else (lambrequinref11_At.l0 k x0 x1 (wrap64 (x5 + 1)))) else (none)) else (some (-1))
def lambrequinref11_At.f (k : Nat) (l0 : List ByteArray) (a1 : ByteArray) : Option (Int) := lambrequinref11_At.l0 k l0 a1 0
theorem lambrequinref11_At.mono_l : ∀ k, (∀ y0 y1 y2, LeO (lambrequinref11_At.l0 k y0 y1 y2) (lambrequinref11_At.l0 (k + 1) y0 y1 y2))
 | 0 => fun _ _ _ r h => by simp [lambrequinref11_At.l0] at h
 | k + 1 => by
  have ih0 := lambrequinref11_At.mono_l k
  ·intro y0 y1 y2
   unfold lambrequinref11_At.l0
   repeat' first
   | (with_reducible exact ih0 _ _ _)
   | (with_reducible exact LeO.refl _)
   | (with_reducible exact LeO.none _)
   | (with_reducible refine LeO.ite ?_ ?_)
   | (with_reducible refine LeO.bind ?_ (fun _ => ?_))
   | exact ih0 _ _ _
   | exact LeO.none _
   | refine LeO.ite ?_ ?_
   | refine LeO.bind ?_ (fun _ => ?_)
theorem lambrequinref11_At.mono : ∀ a0 a1 k, LeO (lambrequinref11_At.f k a0 a1) (lambrequinref11_At.f (k + 1) a0 a1) := by
 intro a0 a1 k
 have ih0 := lambrequinref11_At.mono_l k
 unfold lambrequinref11_At.f
 repeat' first
   | (with_reducible exact ih0 _ _ _)
   | (with_reducible exact LeO.refl _)
   | (with_reducible exact LeO.none _)
   | (with_reducible refine LeO.ite ?_ ?_)
   | (with_reducible refine LeO.bind ?_ (fun _ => ?_))
   | exact ih0 _ _ _
   | exact LeO.none _
   | refine LeO.ite ?_ ?_
   | refine LeO.bind ?_ (fun _ => ?_)
set_option maxHeartbeats 8000000 in
set_option maxRecDepth 100000 in
theorem lambrequinref11_At.calls (k : Nat) (A0 : Option Addr) (c0 : Nat) (l0 : List ByteArray) (a1 : ByteArray) (r : Int) (w : World) (hr0 : Kd.C Kd.string w A0 l0.length l0) (hc0 : l0.length ≤ c0) (h : lambrequinref11_At.f k l0 a1 = some r) :
  Calls Try.prog 34 #[.slice A0 l0.length c0, .string a1] w fun e w' => e = .returned (.int .i64 r) ∧ Drawn0 w w' := by
 have HR0 := Aside0.mk hr0
 have HC0 := Aside0.mk hc0
 clear hr0 hc0
 have H : (lambrequinref11_At.l0 k l0 a1 0) = some r := h
 clear h
 have H' := Aside0.mk H
 clear H
 go_enter Try.func34, Try.ntmps34
 go_wp2
 go_loopg [5] k (fun kq v5 w' => ∃ (x5_1 : Int), v5 = .int .i64 x5_1 ∧ Aside0 (lambrequinref11_At.l0 kq l0 a1 x5_1 = some r) ∧ Aside0 (kq ≤ k) ∧ Drawn0 w w')
 case atStart => exact ⟨(0), (by first | rfl | (simp; done) | (simp [*]; done)), H', ⟨Nat.le_refl _⟩, by repeat (first | exact Drawn0.refl _ | apply Drawn0.step)⟩
 case round =>
  clear H'
  try clear p2
  obtain ⟨x5_1, rfl, HA, HK1, ⟨m1, rfl⟩⟩ := hrel
  cases gk with
  | zero => exact absurd HA.out (by simp [lambrequinref11_At.l0])
  | succ k1 =>
   have H := HA.out
   clear HA
   simp only [lambrequinref11_At.l0] at H
   by_cases c3 : x5_1 < (l0.length : Int)
   ·rw [if_pos c3] at H
    have c3b0 : decide (x5_1 < (l0.length : Int)) = true := decide_eq_true c3
    clear c3
    by_cases c4 : 0 ≤ x5_1
    ·rw [if_pos c4] at H
     have c4b0 : decide (0 ≤ x5_1) = true := decide_eq_true c4
     clear c4
     by_cases c5 : (rdOf ByteArray.empty l0 x5_1).toList = a1.toList
     ·rw [if_pos c5] at H
      have c5b0 : ((rdOf ByteArray.empty l0 x5_1).toList == a1.toList) = true := beq_iff_eq.mpr c5
      have c5b1 : ((rdOf ByteArray.empty l0 x5_1).toList != a1.toList) = false := bne_eq_false_iff_eq.mpr c5
      clear c5
      obtain rfl := Option.some.inj H
      have p101 : 0 ≤ (x5_1 : Int) := of_decide_eq_true (by first | (with_reducible assumption) | assumption)
      have q101 : x5_1 < (l0.length : Int) := of_decide_eq_true (by first | (with_reducible assumption) | assumption)
      obtain ⟨ad101, e101, hx101_0⟩ := Kd.at_string HR0.out x5_1 p101 q101
      cases e101
      replace p101 := eq_true p101
      replace q101 := eq_true q101
      go_wp2
      go_ret
      exact ⟨by first | rfl | (simp; done) | (simp [*]; done), by repeat (first | exact Drawn0.refl _ | apply Drawn0.step)⟩
     ·rw [if_neg c5] at H
      have c5b0 : ((rdOf ByteArray.empty l0 x5_1).toList == a1.toList) = false := beq_eq_false_iff_ne.mpr c5
      have c5b1 : ((rdOf ByteArray.empty l0 x5_1).toList != a1.toList) = true := bne_iff_ne.mpr c5
      have H' := Aside0.mk H
      clear H
      have p101 : 0 ≤ (x5_1 : Int) := of_decide_eq_true (by first | (with_reducible assumption) | assumption)
      have q101 : x5_1 < (l0.length : Int) := of_decide_eq_true (by first | (with_reducible assumption) | assumption)
      obtain ⟨ad101, e101, hx101_0⟩ := Kd.at_string HR0.out x5_1 p101 q101
      cases e101
      replace p101 := eq_true p101
      replace q101 := eq_true q101
      go_wp2
      go_roundg k1
      case measure => have := HK1.out; omega
      case rel => exact ⟨(wrap64 (x5_1 + 1)), (by first | rfl | (simp; done) | (simp [*]; done)), H', ⟨by have := HK1.out; omega⟩, by repeat (first | exact Drawn0.refl _ | apply Drawn0.step)⟩
    ·rw [if_neg c4] at H
     exact absurd H (by simp)
   ·rw [if_neg c3] at H
    have c3b0 : decide (x5_1 < (l0.length : Int)) = false := decide_eq_false c3
    clear c3
    obtain rfl := Option.some.inj H
    go_wp2
    go_ret
    exact ⟨by first | rfl | (simp; done) | (simp [*]; done), by repeat (first | exact Drawn0.refl _ | apply Drawn0.step)⟩
def lambrequinref11_Preds.l0 : Nat → List ByteArray → List (Decl) → Int → Option (List ByteArray)
 | 0, _, _, _ => none
 | k + 1, x3, x4, x5 => if x5 < (x4.length : Int) then (if 0 ≤ x5 then (if x3.length < 8796093022208 then (lambrequinref11_Preds.l0 k (x3 ++ [(rd_T96 x4 x5).pred]) x4 (wrap64 (x5 + 1))) else (none)) else (none)) else ((lambrequinref09_Sorted.f k x3).bind fun t109 => (some t109))
def lambrequinref11_Preds.f (k : Nat) (l0_0 : List (Decl)) (l0_1 : List (Rule)) : Option (List ByteArray) := (lambrequinref08_Uses.f k l0_0 l0_1).bind fun t102 => (lambrequinref11_Preds.l0 k ([] : List ByteArray) t102 0)
theorem lambrequinref11_Preds.mono_l : ∀ k, (∀ y0 y1 y2, LeO (lambrequinref11_Preds.l0 k y0 y1 y2) (lambrequinref11_Preds.l0 (k + 1) y0 y1 y2))
 | 0 => fun _ _ _ r h => by simp [lambrequinref11_Preds.l0] at h
 | k + 1 => by
  have ih0 := lambrequinref11_Preds.mono_l k
  ·intro y0 y1 y2
   unfold lambrequinref11_Preds.l0
   repeat' first
   | (with_reducible exact ih0 _ _ _)
   | (with_reducible exact lambrequinref08_Uses.mono _ _ _)
   | (with_reducible exact lambrequinref09_Sorted.mono _ _)
   | (with_reducible exact LeO.refl _)
   | (with_reducible exact LeO.none _)
   | (with_reducible refine LeO.ite ?_ ?_)
   | (with_reducible refine LeO.bind ?_ (fun _ => ?_))
   | exact ih0 _ _ _
   | exact lambrequinref08_Uses.mono _ _ _
   | exact lambrequinref09_Sorted.mono _ _
   | exact LeO.none _
   | refine LeO.ite ?_ ?_
   | refine LeO.bind ?_ (fun _ => ?_)
theorem lambrequinref11_Preds.mono : ∀ a0 a1 k, LeO (lambrequinref11_Preds.f k a0 a1) (lambrequinref11_Preds.f (k + 1) a0 a1) := by
 intro a0 a1 k
 have ih0 := lambrequinref11_Preds.mono_l k
 unfold lambrequinref11_Preds.f
 repeat' first
   | (with_reducible exact ih0 _ _ _)
   | (with_reducible exact lambrequinref08_Uses.mono _ _ _)
   | (with_reducible exact lambrequinref09_Sorted.mono _ _)
   | (with_reducible exact LeO.refl _)
   | (with_reducible exact LeO.none _)
   | (with_reducible refine LeO.ite ?_ ?_)
   | (with_reducible refine LeO.bind ?_ (fun _ => ?_))
   | exact ih0 _ _ _
   | exact lambrequinref08_Uses.mono _ _ _
   | exact lambrequinref09_Sorted.mono _ _
   | exact LeO.none _
   | refine LeO.ite ?_ ?_
   | refine LeO.bind ?_ (fun _ => ?_)
set_option maxHeartbeats 8000000 in
set_option maxRecDepth 100000 in
theorem lambrequinref11_Preds.calls (k : Nat) (A0_0 : Option Addr) (c0_0 : Nat) (l0_0 : List (Decl)) (A0_1 : Option Addr) (c0_1 : Nat) (l0_1 : List (Rule)) (r : List ByteArray) (w : World) (hr0_0 : Kd.C k96 w A0_0 l0_0.length l0_0) (hc0_0 : l0_0.length ≤ c0_0) (hr0_1 : Kd.C k64 w A0_1 l0_1.length l0_1) (hc0_1 : l0_1.length ≤ c0_1) (h : lambrequinref11_Preds.f k l0_0 l0_1 = some r) :
  Calls Try.prog 33 #[.agg #[.slice A0_0 l0_0.length c0_0, .slice A0_1 l0_1.length c0_1]] w fun e w' => ∃ v0_ : Value, e = .returned (v0_) ∧ Kd.R Kd.string 9 w' w.heap.size (fun _ => True) v0_ r ∧ Below w.heap.size w w' := by
 have hu50 := Try.underlying50
 have HR0_0 := Aside0.mk hr0_0
 have HC0_0 := Aside0.mk hc0_0
 clear hr0_0 hc0_0
 have HR0_1 := Aside0.mk hr0_1
 have HC0_1 := Aside0.mk hc0_1
 clear hr0_1 hc0_1
 have HB := Aside0.mk (Below.refl w.heap.size w)
 have H : ((lambrequinref08_Uses.f k l0_0 l0_1).bind fun t102 => (lambrequinref11_Preds.l0 k ([] : List ByteArray) t102 0)) = some r := h
 clear h
 replace H := Option.bind_eq_some_iff.mp H
 obtain ⟨t102, A20, H⟩ := H
 replace H : (lambrequinref11_Preds.l0 k ([] : List ByteArray) t102 0) = some r := H
 have A2 := Aside0.mk A20
 clear A20
 have H' := Aside0.mk H
 clear H
 go_enter Try.func33, Try.ntmps33
 go_wp2_with (first | ((with_reducible refine gate_dst (N := 1) rfl ?_); refine box_event ?hg (N := 1) ?hd (cs := #[.slice A0_0 l0_0.length c0_0, .slice A0_1 l0_1.length c0_1]) (t := 50) ?hr ?_; (case hd => rfl); (case hg => rfl); (case hr => first | (go_simp; done) | (go_simp; rfl)); intro gb101 hg w3 hbox hb; have n0_ := Aside0.mk (below_step (by repeat (first | (with_reducible first | exact HB.out | apply below_alloc | apply pw_below_drewN | apply below_drew1) | exact HB.out)) hb); have n1_ := Aside0.mk (hbox); have n2_ := Aside0.mk ((by rw [hg]; exact (below_size (by repeat (first | (with_reducible first | exact HB.out | apply below_alloc | apply pw_below_drewN | apply below_drew1) | exact HB.out))) : w.heap.size ≤ gb101)); have n3_ := Aside0.mk ((by rw [hg]; exact (below_size (by repeat (first | (with_reducible first | exact HB.out | apply below_alloc | apply pw_below_drewN | apply below_drew1) | exact HB.out))) : w.heap.size ≤ gb101)); clear HB; have HB := n0_; have BK101 := n1_; have GW101 := n2_; have GE101 := n3_; clear n0_ n1_ n2_ n3_; clear hb hbox hg; have hcz4_0 : w3.cell? ⟨gb101, 0, none⟩ = some (.slice A0_0 l0_0.length c0_0) := (blk_cell BK101.out 0).trans rfl; have hcz4_1 : w3.cell? ⟨gb101, 1, none⟩ = some (.slice A0_1 l0_1.length c0_1) := (blk_cell BK101.out 1).trans rfl; have hfz4_0 := blk_frozen BK101.out 0; have hfz4_1 := blk_frozen BK101.out 1) | ((with_reducible refine gate_callee (f := 51) rfl ?_); refine goesL_ (some 7) rfl rfl Try.func51 (by kernel_rfl) rfl #[.agg #[.slice A0_0 l0_0.length c0_0, .slice A0_1 l0_1.length c0_1]] rfl (by (try simp only [List.map_toArray, List.map_cons, List.map_nil]); first | done | rfl | (simp only [List.length_drop, List.length_take]; rfl)) ?_; (with_reducible refine (lambrequinref08_Uses.calls k _ _ l0_0 _ _ l0_1 t102 _ ?side1 ?side2 ?side3 ?side4 A2.out).mono ?_); (case side1 => repeat (first | exact (Kd.C_below HR0_0.out HB.out) | (with_reducible refine Kd.C_alloc ?_ _) | (with_reducible refine Kd.C_drewN ?_ _) | (with_reducible refine Kd.C_drew ?_))); (case side2 => exact HC0_0.out); (case side3 => repeat (first | exact (Kd.C_below HR0_1.out HB.out) | (with_reducible refine Kd.C_alloc ?_ _) | (with_reducible refine Kd.C_drewN ?_ _) | (with_reducible refine Kd.C_drew ?_))); (case side4 => exact HC0_1.out); rintro e w5 ⟨v103, rfl, ho0, hb⟩; refine ⟨_, rfl, ?_⟩; have n0_ := Aside0.mk (Kd.R_lower ho0 (below_size (by repeat (first | (with_reducible first | exact HB.out | apply below_alloc | apply pw_below_drewN | apply below_drew1 | refine below_set ?_ GE101.out) | exact HB.out)))); have n1_ := Aside0.mk (blk_below (g := gb101) (o := .cells #[.slice A0_0 l0_0.length c0_0, .slice A0_1 l0_1.length c0_1] 50 (0, 0)) (by (with_reducible repeat (first | refine blk_drewN ?_ _ | refine blk_drew ?_ | refine blk_alloc ?_ _)); exact BK101.out) hb); have n2_ := Aside0.mk (below_step (by repeat (first | (with_reducible first | exact HB.out | apply below_alloc | apply pw_below_drewN | apply below_drew1 | refine below_set ?_ GE101.out) | exact HB.out)) hb); clear BK101; clear HB; have HO104 := n0_; have BK101 := n1_; have HB := n2_; clear n0_ n1_ n2_; (try clear hb); (try clear hb2); (try clear hk); (try clear hi); (try clear ho0)))
 go_loopg [3, 5] k (fun kq v3 v5 w' => ∃ (x3_1 : List ByteArray) (x5_1 : Int), v5 = .int .i64 x5_1 ∧ Aside0 (lambrequinref11_Preds.l0 kq x3_1 t102 x5_1 = some r) ∧ Aside0 (kq ≤ k) ∧ Aside0 (Kd.R Kd.string 9 w' w.heap.size (fun _ => True) v3 x3_1) ∧ Aside0 (Kd.R k96 96 w' w.heap.size (fun _ => True) v103 t102) ∧ Aside0 (w'.heap[gb101]? = some (.cells #[(.slice A0_0 l0_0.length c0_0), (.slice A0_1 l0_1.length c0_1)] 50 (0, 0))) ∧ Aside0 (Below w.heap.size w w'))
 case atStart => exact ⟨(([] : List ByteArray)), (0), (by first | rfl | (simp; done) | (simp [*]; done)), H', ⟨Nat.le_refl _⟩, ⟨by first | exact Kd.R_nil _ _ _ _ _ | exact Kd.N_nil _ _ _ _ _ | exact Kd.V_nil _ _ _ _ _ | exact Kd.Q_nil _ _ _ _ _ | exact Kd.S_nil _ _ _ _ _⟩, ⟨by (with_reducible repeat (first | apply Kd.R_alloc | apply Kd.R_drewN | apply Kd.R_drew)); exact HO104.out⟩, ⟨by (with_reducible repeat (first | refine blk_drewN ?_ _ | refine blk_drew ?_ | refine blk_alloc ?_ _)); exact BK101.out⟩, ⟨by repeat (first | (with_reducible first | exact HB.out | apply below_alloc | apply pw_below_drewN | apply below_drew1 | refine below_set ?_ GE101.out) | exact HB.out)⟩⟩
 case round =>
  clear H'
  try clear p2
  try clear c3
  try clear c5
  try clear hcz4_0
  try clear hcz4_1
  try clear hfz4_0
  try clear hfz4_1
  obtain ⟨x3_1, x5_1, rfl, HA, HK1, HO_3, HO_4, BK101, HB⟩ := hrel
  cases gk with
  | zero => exact absurd HA.out (by simp [lambrequinref11_Preds.l0])
  | succ k1 =>
   have H := HA.out
   clear HA
   simp only [lambrequinref11_Preds.l0] at H
   by_cases c6 : x5_1 < (t102.length : Int)
   ·rw [if_pos c6] at H
    have c6b0 : decide (x5_1 < (t102.length : Int)) = true := decide_eq_true c6
    clear c6
    by_cases c7 : 0 ≤ x5_1
    ·rw [if_pos c7] at H
     have c7b0 : decide (0 ≤ x5_1) = true := decide_eq_true c7
     clear c7
     by_cases c8 : x3_1.length < 8796093022208
     ·rw [if_pos c8] at H
      have LMc8 := Aside0.mk c8
      clear c8
      obtain ⟨y106, hy106⟩ : ∃ y_ : List ByteArray, y_ = (x3_1 ++ [(rd_T96 t102 x5_1).pred]) := ⟨_, rfl⟩
      replace H : (lambrequinref11_Preds.l0 k1 y106 t102 (wrap64 (x5_1 + 1))) = some r := by first | (rw [hy106]; with_reducible exact H) | (have H2_ := (Option.bind_some _ _).symm.trans H; rw [hy106]; with_reducible exact H2_) | (have H2_ := (Option.bind_some _ _).symm.trans H; with_reducible exact H2_) | with_reducible exact H | (rw [hy106]; exact H) | exact H
      have Ny106 := Aside0.mk hy106
      clear hy106
      have H' := Aside0.mk H
      clear H
      obtain ⟨Ao9, co9, eo9⟩ := Kd.R_slice HO_4.out
      subst eo9
      have p105 : 0 ≤ (x5_1 : Int) := of_decide_eq_true (by first | (with_reducible assumption) | assumption)
      have q105 : x5_1 < (t102.length : Int) := of_decide_eq_true (by first | (with_reducible assumption) | assumption)
      obtain ⟨ad105, e105, hx105_0, hx105_1⟩ := at_T96 (Kd.R_reads' HO_4.out).2.2 x5_1 p105 q105
      cases e105
      replace p105 := eq_true p105
      replace q105 := eq_true q105
      go_wp2_with (first | ((with_reducible refine gate_builtin (b := .append) (xs := #[.tmp 14, .tmp 20]) rfl ?_); at_builtin; refine Kd.R_append Kd.string (w0 := w) w.heap.size rfl (.tmp 14) (.tmp 20) 52 9 (.string ⟨#[]⟩) 16 rfl Try.underlying52 info9 rfl (by decide) (by omega) u3 x3_1 ((rd_T96 t102 x5_1).pred) [.string ((rd_T96 t102 x5_1).pred)] (fun _ => True) (fun _ => False) rfl rfl ?aP (fun _ hk => hk.elim) ?aF ?aO ?aB ?aS ?aL ?_; (case aP => exact rfl); (case aB => exact (by repeat (first | (with_reducible first | exact HB.out | apply below_alloc | apply pw_below_drewN | apply below_drew1 | refine below_set ?_ GE101.out) | exact HB.out))); (case aF => exact (fun _ _ => trivial)); (case aO => exact (by (with_reducible repeat (first | apply Kd.R_alloc | apply Kd.R_drewN | apply Kd.R_drew)); exact HO_3.out)); (case aS => exact (below_size (by repeat (first | (with_reducible first | exact HB.out | apply below_alloc | apply pw_below_drewN | apply below_drew1 | refine below_set ?_ GE101.out) | exact HB.out)))); (case aL => have := LMc8.out; omega); intro v107 w10 ho hb hg hat; rw [← Ny106.out] at ho; have n0_ := Aside0.mk (Kd.R_over' (by (with_reducible repeat (first | apply Kd.R_alloc | apply Kd.R_drewN | apply Kd.R_drew)); exact HO_4.out) (Kd.R_typed (by (with_reducible repeat (first | apply Kd.R_alloc | apply Kd.R_drewN | apply Kd.R_drew)); exact HO_3.out)) (by decide) hg); have n1_ := Aside0.mk (blk_grown (g := gb101) (o := .cells #[.slice A0_0 l0_0.length c0_0, .slice A0_1 l0_1.length c0_1] 50 (0, 0)) (by (with_reducible repeat (first | refine blk_drewN ?_ _ | refine blk_drew ?_ | refine blk_alloc ?_ _)); exact BK101.out) hg (Kd.R_ne HO_3.out BK101.out (by decide))); have n2_ := Aside0.mk (hb); have n3_ := Aside0.mk (ho); clear HO_4; clear BK101; clear HB; clear HO_3; have HO_4 := n0_; have BK101 := n1_; have HB := n2_; have HO108 := n3_; clear n0_ n1_ n2_ n3_; clear ho hb hg hat))
      go_roundg k1
      case measure => have := HK1.out; omega
      case rel => exact ⟨(y106), (wrap64 (x5_1 + 1)), (by first | rfl | (simp; done) | (simp [*]; done)), H', ⟨by have := HK1.out; omega⟩, ⟨by (with_reducible repeat (first | apply Kd.R_alloc | apply Kd.R_drewN | apply Kd.R_drew)); exact HO108.out⟩, ⟨by (with_reducible repeat (first | apply Kd.R_alloc | apply Kd.R_drewN | apply Kd.R_drew)); exact HO_4.out⟩, ⟨by (with_reducible repeat (first | refine blk_drewN ?_ _ | refine blk_drew ?_ | refine blk_alloc ?_ _)); exact BK101.out⟩, ⟨by repeat (first | (with_reducible first | exact HB.out | apply below_alloc | apply pw_below_drewN | apply below_drew1 | refine below_set ?_ GE101.out) | exact HB.out)⟩⟩
     ·rw [if_neg c8] at H
      exact absurd H (by simp)
    ·rw [if_neg c7] at H
     exact absurd H (by simp)
   ·rw [if_neg c6] at H
    have c6b0 : decide (x5_1 < (t102.length : Int)) = false := decide_eq_false c6
    clear c6
    replace H := Option.bind_eq_some_iff.mp H
    obtain ⟨t109, A110, H⟩ := H
    replace H : (some t109) = some r := H
    have A11 := Aside0.mk A110
    clear A110
    obtain rfl := Option.some.inj H
    obtain ⟨Ao12, co12, eo12⟩ := Kd.R_slice HO_4.out
    subst eo12
    obtain ⟨Ao13, co13, eo13⟩ := Kd.R_slice HO_3.out
    subst eo13
    go_wp2_with (first | ((with_reducible refine gate_callee (f := 57) rfl ?_); refine goesL_ (some 23) rfl rfl Try.func57 (by kernel_rfl) rfl #[.slice Ao13 x3_1.length co13] rfl (by (try simp only [List.map_toArray, List.map_cons, List.map_nil]); first | done | rfl | (simp only [List.length_drop, List.length_take]; rfl)) ?_; (with_reducible refine (lambrequinref09_Sorted.calls k1 _ _ x3_1 t109 _ ?side1 ?side2 A11.out).mono ?_); (case side1 => repeat (first | exact (Kd.R_reads' HO_3.out).2.2 | (with_reducible refine Kd.C_alloc ?_ _) | (with_reducible refine Kd.C_drewN ?_ _) | (with_reducible refine Kd.C_drew ?_))); (case side2 => exact (Kd.R_reads' HO_3.out).2.1); rintro e w14 ⟨v110, rfl, ho0, hb⟩; refine ⟨_, rfl, ?_⟩; have n0_ := Aside0.mk (Kd.R_elder' (by (with_reducible repeat (first | apply Kd.R_alloc | apply Kd.R_drewN | apply Kd.R_drew)); exact HO_3.out) (Kd.R_base ho0) hb); have n1_ := Aside0.mk (Kd.R_below (by (with_reducible repeat (first | apply Kd.R_alloc | apply Kd.R_drewN | apply Kd.R_drew)); exact HO_4.out) hb); have n2_ := Aside0.mk (Kd.R_lower (Kd.R_new' ho0 (Kd.R_lt (by (with_reducible repeat (first | apply Kd.R_alloc | apply Kd.R_drewN | apply Kd.R_drew)); exact HO_3.out))) (below_size (by repeat (first | (with_reducible first | exact HB.out | apply below_alloc | apply pw_below_drewN | apply below_drew1 | refine below_set ?_ GE101.out) | exact HB.out)))); have n3_ := Aside0.mk (blk_below (g := gb101) (o := .cells #[.slice A0_0 l0_0.length c0_0, .slice A0_1 l0_1.length c0_1] 50 (0, 0)) (by (with_reducible repeat (first | refine blk_drewN ?_ _ | refine blk_drew ?_ | refine blk_alloc ?_ _)); exact BK101.out) hb); have n4_ := Aside0.mk (below_step (by repeat (first | (with_reducible first | exact HB.out | apply below_alloc | apply pw_below_drewN | apply below_drew1 | refine below_set ?_ GE101.out) | exact HB.out)) hb); clear HO_3; clear HO_4; clear BK101; clear HB; have HO_3 := n0_; have HO_4 := n1_; have HO111 := n2_; have BK101 := n3_; have HB := n4_; clear n0_ n1_ n2_ n3_ n4_; (try clear hb); (try clear hb2); (try clear hk); (try clear hi); (try clear ho0)))
    go_ret
    exact ⟨_, by first | rfl | (simp [errW_none, errW_some] <;> rfl) | (simp [*, errW_none, errW_some] <;> rfl), by (with_reducible repeat (first | apply Kd.R_alloc | apply Kd.R_drewN | apply Kd.R_drew)); exact Kd.R_mono HO111.out (fun _ hk => trivial), by repeat (first | (with_reducible first | exact HB.out | apply below_alloc | apply pw_below_drewN | apply below_drew1 | refine below_set ?_ GE101.out) | exact HB.out)⟩
mutual
def lambrequinref11_Edges.l0 : Nat → Int → List ByteArray → List (IPair) → Int → List (Decl) → List (Rule) → Option ((List (IPair)))
 | 0, _, _, _, _, _, _ => none
 | k + 1, x1, x5, x6, x7, x102000, x102001 => if x7 < (x102001.length : Int) then (if 0 ≤ x7 then (lambrequinref11_Edges.l1 k x1 x5 x6 x7 0 x102000 x102001 ((rd_T64 x102001 x7).head.pred) ((rd_T64 x102001 x7).head.args) ((rd_T64 x102001 x7).body)) else (none)) else (some x6)
def lambrequinref11_Edges.l1 : Nat → Int → List ByteArray → List (IPair) → Int → Int → List (Decl) → List (Rule) → ByteArray → List (Term) → List (Liter) → Option ((List (IPair)))
 | 0, _, _, _, _, _, _, _, _, _, _ => none
 | k + 1, x1, x5, x6, x7, x9, x102000, x102001, x107000, x107001, x107002 => if x9 < (x107002.length : Int) then (if 0 ≤ x9 then (if ((rd_T71 x107002 x9).kind) = 1 then (if x1 = 0 then (lambrequinref11_Edges.j2 k x1 x5 x6 x7 x9 true x102000 x102001 x107000 x107001 x107002 ((rd_T71 x107002 x9).kind) ((rd_T71 x107002 x9).atom.pred) ((rd_T71 x107002 x9).atom.args) ((rd_T71 x107002 x9).op) ((rd_T71 x107002 x9).l.isVar) ((rd_T71 x107002 x9).l.name) ((rd_T71 x107002 x9).l.val.isSym) ((rd_T71 x107002 x9).l.val.sym) ((rd_T71 x107002 x9).l.val.n) ((rd_T71 x107002 x9).r.isVar) ((rd_T71 x107002 x9).r.name) ((rd_T71 x107002 x9).r.val.isSym) ((rd_T71 x107002 x9).r.val.sym) ((rd_T71 x107002 x9).r.val.n)) else (lambrequinref11_Edges.j2 k x1 x5 x6 x7 x9 (((rd_T71 x107002 x9).kind) == x1) x102000 x102001 x107000 x107001 x107002 ((rd_T71 x107002 x9).kind) ((rd_T71 x107002 x9).atom.pred) ((rd_T71 x107002 x9).atom.args) ((rd_T71 x107002 x9).op) ((rd_T71 x107002 x9).l.isVar) ((rd_T71 x107002 x9).l.name) ((rd_T71 x107002 x9).l.val.isSym) ((rd_T71 x107002 x9).l.val.sym) ((rd_T71 x107002 x9).l.val.n) ((rd_T71 x107002 x9).r.isVar) ((rd_T71 x107002 x9).r.name) ((rd_T71 x107002 x9).r.val.isSym) ((rd_T71 x107002 x9).r.val.sym) ((rd_T71 x107002 x9).r.val.n))) else (if ((rd_T71 x107002 x9).kind) = 2 then (if x1 = 0 then (lambrequinref11_Edges.j2 k x1 x5 x6 x7 x9 true x102000 x102001 x107000 x107001 x107002 ((rd_T71 x107002 x9).kind) ((rd_T71 x107002 x9).atom.pred) ((rd_T71 x107002 x9).atom.args) ((rd_T71 x107002 x9).op) ((rd_T71 x107002 x9).l.isVar) ((rd_T71 x107002 x9).l.name) ((rd_T71 x107002 x9).l.val.isSym) ((rd_T71 x107002 x9).l.val.sym) ((rd_T71 x107002 x9).l.val.n) ((rd_T71 x107002 x9).r.isVar) ((rd_T71 x107002 x9).r.name) ((rd_T71 x107002 x9).r.val.isSym) ((rd_T71 x107002 x9).r.val.sym) ((rd_T71 x107002 x9).r.val.n)) else (lambrequinref11_Edges.j2 k x1 x5 x6 x7 x9 (((rd_T71 x107002 x9).kind) == x1) x102000 x102001 x107000 x107001 x107002 ((rd_T71 x107002 x9).kind) ((rd_T71 x107002 x9).atom.pred) ((rd_T71 x107002 x9).atom.args) ((rd_T71 x107002 x9).op) ((rd_T71 x107002 x9).l.isVar) ((rd_T71 x107002 x9).l.name) ((rd_T71 x107002 x9).l.val.isSym) ((rd_T71 x107002 x9).l.val.sym) ((rd_T71 x107002 x9).l.val.n) ((rd_T71 x107002 x9).r.isVar) ((rd_T71 x107002 x9).r.name) ((rd_T71 x107002 x9).r.val.isSym) ((rd_T71 x107002 x9).r.val.sym) ((rd_T71 x107002 x9).r.val.n))) else (lambrequinref11_Edges.j2 k x1 x5 x6 x7 x9 false x102000 x102001 x107000 x107001 x107002 ((rd_T71 x107002 x9).kind) ((rd_T71 x107002 x9).atom.pred) ((rd_T71 x107002 x9).atom.args) ((rd_T71 x107002 x9).op) ((rd_T71 x107002 x9).l.isVar) ((rd_T71 x107002 x9).l.name) ((rd_T71 x107002 x9).l.val.isSym) ((rd_T71 x107002 x9).l.val.sym) ((rd_T71 x107002 x9).l.val.n) ((rd_T71 x107002 x9).r.isVar) ((rd_T71 x107002 x9).r.name) ((rd_T71 x107002 x9).r.val.isSym) ((rd_T71 x107002 x9).r.val.sym) ((rd_T71 x107002 x9).r.val.n)))) else (none)) else (lambrequinref11_Edges.l0 k x1 x5 x6 (wrap64 (x7 + 1)) x102000 x102001)
def lambrequinref11_Edges.j2 : Nat → Int → List ByteArray → List (IPair) → Int → Int → Bool → List (Decl) → List (Rule) → ByteArray → List (Term) → List (Liter) → Int → ByteArray → List (Term) → ByteArray → Bool → ByteArray → Bool → ByteArray → Int → Bool → ByteArray → Bool → ByteArray → Int → Option ((List (IPair)))
 | 0, _, _, _, _, _, _, _, _, _, _, _, _, _, _, _, _, _, _, _, _, _, _, _, _, _ => none
 | k + 1, x1, x5, x6, x7, x9, x54, x102000, x102001, x107000, x107001, x107002, x109000, x109001, x109002, x109003, x109004, x109005, x109006, x109007, x109008, x109009, x109010, x109011, x109012, x109013 => if x54 = true then ((lambrequinref11_At.f k x5 x107000).bind fun t109 => ((lambrequinref11_At.f k x5 x109001).bind fun t110 => (if x6.length < 8796093022208 then (lambrequinref11_Edges.l1 k x1 x5 (x6 ++ [(⟨t109, t110⟩ : IPair)]) x7 (wrap64 (x9 + 1)) x102000 x102001 x107000 x107001 x107002) else (none)))) else (lambrequinref11_Edges.l1 k x1 x5 x6 x7 (wrap64 (x9 + 1)) x102000 x102001 x107000 x107001 x107002)
end
def lambrequinref11_Edges.f (k : Nat) (l0_0 : List (Decl)) (l0_1 : List (Rule)) (a1 : Int) : Option ((List (IPair))) := (lambrequinref11_Preds.f k l0_0 l0_1).bind fun t102 => (lambrequinref11_Edges.l0 k a1 t102 ([] : List (IPair)) 0 l0_0 l0_1)
theorem lambrequinref11_Edges.mono_l : ∀ k, (∀ y0 y1 y2 y3 y4 y5, LeO (lambrequinref11_Edges.l0 k y0 y1 y2 y3 y4 y5) (lambrequinref11_Edges.l0 (k + 1) y0 y1 y2 y3 y4 y5)) ∧ (∀ y0 y1 y2 y3 y4 y5 y6 y7 y8 y9, LeO (lambrequinref11_Edges.l1 k y0 y1 y2 y3 y4 y5 y6 y7 y8 y9) (lambrequinref11_Edges.l1 (k + 1) y0 y1 y2 y3 y4 y5 y6 y7 y8 y9)) ∧ (∀ y0 y1 y2 y3 y4 y5 y6 y7 y8 y9 y10 y11 y12 y13 y14 y15 y16 y17 y18 y19 y20 y21 y22 y23 y24, LeO (lambrequinref11_Edges.j2 k y0 y1 y2 y3 y4 y5 y6 y7 y8 y9 y10 y11 y12 y13 y14 y15 y16 y17 y18 y19 y20 y21 y22 y23 y24) (lambrequinref11_Edges.j2 (k + 1) y0 y1 y2 y3 y4 y5 y6 y7 y8 y9 y10 y11 y12 y13 y14 y15 y16 y17 y18 y19 y20 y21 y22 y23 y24))
 | 0 => ⟨fun _ _ _ _ _ _ r h => by simp [lambrequinref11_Edges.l0] at h, fun _ _ _ _ _ _ _ _ _ _ r h => by simp [lambrequinref11_Edges.l1] at h, fun _ _ _ _ _ _ _ _ _ _ _ _ _ _ _ _ _ _ _ _ _ _ _ _ _ r h => by simp [lambrequinref11_Edges.j2] at h⟩
 | k + 1 => by
  obtain ⟨ih0, ih1, ih2⟩ := lambrequinref11_Edges.mono_l k
  refine ⟨?_, ?_, ?_⟩
  ·intro y0 y1 y2 y3 y4 y5
   unfold lambrequinref11_Edges.l0
   repeat' first
   | (with_reducible exact ih0 _ _ _ _ _ _)
   | (with_reducible exact ih1 _ _ _ _ _ _ _ _ _ _)
   | (with_reducible exact ih2 _ _ _ _ _ _ _ _ _ _ _ _ _ _ _ _ _ _ _ _ _ _ _ _ _)
   | (with_reducible exact lambrequinref11_At.mono _ _ _)
   | (with_reducible exact lambrequinref11_Preds.mono _ _ _)
   | (with_reducible exact LeO.refl _)
   | (with_reducible exact LeO.none _)
   | (with_reducible refine LeO.ite ?_ ?_)
   | (with_reducible refine LeO.bind ?_ (fun _ => ?_))
   | exact ih0 _ _ _ _ _ _
   | exact ih1 _ _ _ _ _ _ _ _ _ _
   | exact ih2 _ _ _ _ _ _ _ _ _ _ _ _ _ _ _ _ _ _ _ _ _ _ _ _ _
   | exact lambrequinref11_At.mono _ _ _
   | exact lambrequinref11_Preds.mono _ _ _
   | exact LeO.none _
   | refine LeO.ite ?_ ?_
   | refine LeO.bind ?_ (fun _ => ?_)
  ·intro y0 y1 y2 y3 y4 y5 y6 y7 y8 y9
   unfold lambrequinref11_Edges.l1
   repeat' first
   | (with_reducible exact ih0 _ _ _ _ _ _)
   | (with_reducible exact ih1 _ _ _ _ _ _ _ _ _ _)
   | (with_reducible exact ih2 _ _ _ _ _ _ _ _ _ _ _ _ _ _ _ _ _ _ _ _ _ _ _ _ _)
   | (with_reducible exact lambrequinref11_At.mono _ _ _)
   | (with_reducible exact lambrequinref11_Preds.mono _ _ _)
   | (with_reducible exact LeO.refl _)
   | (with_reducible exact LeO.none _)
   | (with_reducible refine LeO.ite ?_ ?_)
   | (with_reducible refine LeO.bind ?_ (fun _ => ?_))
   | exact ih0 _ _ _ _ _ _
   | exact ih1 _ _ _ _ _ _ _ _ _ _
   | exact ih2 _ _ _ _ _ _ _ _ _ _ _ _ _ _ _ _ _ _ _ _ _ _ _ _ _
   | exact lambrequinref11_At.mono _ _ _
   | exact lambrequinref11_Preds.mono _ _ _
   | exact LeO.none _
   | refine LeO.ite ?_ ?_
   | refine LeO.bind ?_ (fun _ => ?_)
  ·intro y0 y1 y2 y3 y4 y5 y6 y7 y8 y9 y10 y11 y12 y13 y14 y15 y16 y17 y18 y19 y20 y21 y22 y23 y24
   unfold lambrequinref11_Edges.j2
   repeat' first
   | (with_reducible exact ih0 _ _ _ _ _ _)
   | (with_reducible exact ih1 _ _ _ _ _ _ _ _ _ _)
   | (with_reducible exact ih2 _ _ _ _ _ _ _ _ _ _ _ _ _ _ _ _ _ _ _ _ _ _ _ _ _)
   | (with_reducible exact lambrequinref11_At.mono _ _ _)
   | (with_reducible exact lambrequinref11_Preds.mono _ _ _)
   | (with_reducible exact LeO.refl _)
   | (with_reducible exact LeO.none _)
   | (with_reducible refine LeO.ite ?_ ?_)
   | (with_reducible refine LeO.bind ?_ (fun _ => ?_))
   | exact ih0 _ _ _ _ _ _
   | exact ih1 _ _ _ _ _ _ _ _ _ _
   | exact ih2 _ _ _ _ _ _ _ _ _ _ _ _ _ _ _ _ _ _ _ _ _ _ _ _ _
   | exact lambrequinref11_At.mono _ _ _
   | exact lambrequinref11_Preds.mono _ _ _
   | exact LeO.none _
   | refine LeO.ite ?_ ?_
   | refine LeO.bind ?_ (fun _ => ?_)
theorem lambrequinref11_Edges.mono : ∀ a0 a1 a2 k, LeO (lambrequinref11_Edges.f k a0 a1 a2) (lambrequinref11_Edges.f (k + 1) a0 a1 a2) := by
 intro a0 a1 a2 k
 obtain ⟨ih0, ih1, ih2⟩ := lambrequinref11_Edges.mono_l k
 unfold lambrequinref11_Edges.f
 repeat' first
   | (with_reducible exact ih0 _ _ _ _ _ _)
   | (with_reducible exact ih1 _ _ _ _ _ _ _ _ _ _)
   | (with_reducible exact ih2 _ _ _ _ _ _ _ _ _ _ _ _ _ _ _ _ _ _ _ _ _ _ _ _ _)
   | (with_reducible exact lambrequinref11_At.mono _ _ _)
   | (with_reducible exact lambrequinref11_Preds.mono _ _ _)
   | (with_reducible exact LeO.refl _)
   | (with_reducible exact LeO.none _)
   | (with_reducible refine LeO.ite ?_ ?_)
   | (with_reducible refine LeO.bind ?_ (fun _ => ?_))
   | exact ih0 _ _ _ _ _ _
   | exact ih1 _ _ _ _ _ _ _ _ _ _
   | exact ih2 _ _ _ _ _ _ _ _ _ _ _ _ _ _ _ _ _ _ _ _ _ _ _ _ _
   | exact lambrequinref11_At.mono _ _ _
   | exact lambrequinref11_Preds.mono _ _ _
   | exact LeO.none _
   | refine LeO.ite ?_ ?_
   | refine LeO.bind ?_ (fun _ => ?_)
def lambrequinref11_Edges.T12 : Bool × List (List Nat × List Nat) := (true, [([], []), ([], []), ([], []), ([2], [2]), ([3], [3]), ([1, 4], [1, 4]), ([], []), ([], []), ([7], [7]), ([8], [8]), ([6, 9, 5], [6, 9]), ([5, 10], [5, 10]), ([11], [11]), ([0, 12, 10], [0, 12]), ([13, 13, 0, 1, 2, 3, 4, 5, 6, 7, 8, 9, 10, 11, 12, 13], [0, 13])])
def lambrequinref11_Edges.B12 : List Nat := [0, 0, 0, 4, 12, 30, 0, 0, 128, 384, 1022, 2046, 4094, 8191, 16383]
theorem lambrequinref11_Edges.tab12 : rtab .any (opsOf Try.f35 12) = lambrequinref11_Edges.T12 := by kernel_rfl
theorem lambrequinref11_Edges.bits12 : waitsOk lambrequinref11_Edges.T12.2 lambrequinref11_Edges.B12 = true := by kernel_rfl
set_option maxHeartbeats 8000000 in
set_option maxRecDepth 100000 in
theorem lambrequinref11_Edges.calls (k : Nat) (A0_0 : Option Addr) (c0_0 : Nat) (l0_0 : List (Decl)) (A0_1 : Option Addr) (c0_1 : Nat) (l0_1 : List (Rule)) (a1 : Int) (r : List (IPair)) (w : World) (hr0_0 : Kd.C k96 w A0_0 l0_0.length l0_0) (hc0_0 : l0_0.length ≤ c0_0) (hr0_1 : Kd.C k64 w A0_1 l0_1.length l0_1) (hc0_1 : l0_1.length ≤ c0_1) (h : lambrequinref11_Edges.f k l0_0 l0_1 a1 = some r) :
  Calls Try.prog 35 #[.agg #[.slice A0_0 l0_0.length c0_0, .slice A0_1 l0_1.length c0_1], .int .i64 a1] w fun e w' => ∃ v0_ : Value, e = .returned (v0_) ∧ Kd.R k27 27 w' w.heap.size (fun _ => True) v0_ r ∧ Below w.heap.size w w' := by
 have hu50 := Try.underlying50
 have hu64 := Try.underlying64
 have hu71 := Try.underlying71
 have hu27 := Try.underlying27
 have HR0_0 := am hr0_0
 have HC0_0 := am hc0_0
 clear hr0_0 hc0_0
 have HR0_1 := am hr0_1
 have HC0_1 := am hc0_1
 clear hr0_1 hc0_1
 have HB := am (Below.refl w.heap.size w)
 have H : ((lambrequinref11_Preds.f k l0_0 l0_1).bind fun t102 => (lambrequinref11_Edges.l0 k a1 t102 ([] : List (IPair)) 0 l0_0 l0_1)) = some r := h
 clear h
 replace H := Option.bind_eq_some_iff.mp H
 obtain ⟨t102, A30, H⟩ := H
 replace H : (lambrequinref11_Edges.l0 k a1 t102 ([] : List (IPair)) 0 l0_0 l0_1) = some r := H
 have A3 := am A30
 clear A30
 have H' := am H
 clear H
 go_enter Try.func35, Try.ntmps35
 go_wp2_with (first | ((with_reducible refine gate_dst (N := 2) rfl ?_); refine box_event ?hg (N := 2) ?hd (cs := #[.slice A0_0 l0_0.length c0_0, .slice A0_1 l0_1.length c0_1]) (t := 50) ?hr ?_; (case hd => rfl); (case hg => rfl); (case hr => first | (go_simp; done) | (go_simp; rfl)); intro gb101 hg w4 hbox hb; have BK101 := am (hbox); have GW101 := am (gw_ hg HB.out); have GE101 := GW101; replace HB := am (bs_ HB.out hb); clear hb hbox hg; obtain ⟨hcz5_0, hcz5_1, hfz5_0, hfz5_1⟩ := bc2 BK101.out) | ((with_reducible refine gate_callee (f := 33) rfl ?_); refine goesL_ (some 12) rfl rfl Try.func33 (by kernel_rfl) rfl #[.agg #[.slice A0_0 l0_0.length c0_0, .slice A0_1 l0_1.length c0_1]] rfl (by (try simp only [List.map_toArray, List.map_cons, List.map_nil]); first | done | rfl | (simp only [List.length_drop, List.length_take]; rfl)) ?_; (with_reducible refine (lambrequinref11_Preds.calls k _ _ l0_0 _ _ l0_1 t102 _ ?side1 ?side2 ?side3 ?side4 A3.out).mono ?_); (case side1 => repeat (first | exact (Kd.C_below HR0_0.out HB.out) | (with_reducible refine Kd.C_alloc ?_ _) | (with_reducible refine Kd.C_drewN ?_ _) | (with_reducible refine Kd.C_drew ?_))); (case side2 => exact HC0_0.out); (case side3 => repeat (first | exact (Kd.C_below HR0_1.out HB.out) | (with_reducible refine Kd.C_alloc ?_ _) | (with_reducible refine Kd.C_drewN ?_ _) | (with_reducible refine Kd.C_drew ?_))); (case side4 => exact HC0_1.out); rintro e w6 ⟨v103, rfl, ho0, hb⟩; refine ⟨_, rfl, ?_⟩; have HO104 := am (Kd.R_lower ho0 (below_size (pL HB.out))); replace BK101 := am (bb_ BK101.out hb); replace HB := am (bs_ HB.out hb); (try clear hb); (try clear hb2); (try clear hk); (try clear hi); (try clear ho0)))
 go_loopg [6, 7] k (fun kq v6 v7 w' => ∃ (x6_1 : List (IPair)) (x7_1 : Int), v7 = .int .i64 x7_1 ∧ Aside0 (lambrequinref11_Edges.l0 kq a1 t102 x6_1 x7_1 l0_0 l0_1 = some r) ∧ Aside0 (kq ≤ k) ∧ Aside0 (Kd.R Kd.string 9 w' w.heap.size (fun _ => True) v103 t102) ∧ Aside0 (Kd.R k27 27 w' w.heap.size (fun _ => True) v6 x6_1) ∧ Aside0 (w'.heap[gb101]? = some (.cells #[(.slice A0_0 l0_0.length c0_0), (.slice A0_1 l0_1.length c0_1)] 50 (0, 0))) ∧ Aside0 (Below w.heap.size w w'))
 case atStart => exact ⟨(([] : List (IPair))), (0), rs_, H', ⟨Nat.le_refl _⟩, ⟨pR HO104.out⟩, ⟨by first | exact Kd.R_nil _ _ _ _ _ | exact Kd.N_nil _ _ _ _ _ | exact Kd.V_nil _ _ _ _ _ | exact Kd.Q_nil _ _ _ _ _ | exact Kd.S_nil _ _ _ _ _⟩, ⟨pB BK101.out⟩, ⟨pL HB.out⟩⟩
 case round =>
  clear H'
  try clear p2
  try clear c3
  try clear hcz5_0
  try clear hcz5_1
  try clear hfz5_0
  try clear hfz5_1
  obtain ⟨x6_1, x7_1, rfl, HA, HK1, HO_5, HO_6, BK101, HB⟩ := hrel
  cases gk with
  | zero => exact absurd HA.out (by simp [lambrequinref11_Edges.l0])
  | succ k1 =>
   have H := HA.out
   clear HA
   simp only [lambrequinref11_Edges.l0] at H
   by_cases c7 : x7_1 < (l0_1.length : Int)
   ·rw [if_pos c7] at H
    have c7b0 : decide (x7_1 < (l0_1.length : Int)) = true := decide_eq_true c7
    clear c7
    by_cases c8 : 0 ≤ x7_1
    ·rw [if_pos c8] at H
     have c8b0 : decide (0 ≤ x7_1) = true := decide_eq_true c8
     clear c8
     have H' := am H
     clear H
     obtain ⟨hcz9_0, hcz9_1, hfz9_0, hfz9_1⟩ := bc2 BK101.out
     have p105 : 0 ≤ (x7_1 : Int) := dt_
     have q105 : x7_1 < (l0_1.length : Int) := dt_
     obtain ⟨ad105, A105_1, c105_1, A105_2, c105_2, e105, hx105_0, hx105_1, hx105_2, hl105_1, hi105_1, hl105_2, hi105_2⟩ := at_T64 HR0_1.out x7_1 p105 q105
     cases e105
     replace hx105_0 := up_ HB.out hx105_0
     replace hx105_1 := up_ HB.out hx105_1
     replace hx105_2 := up_ HB.out hx105_2
     have HR105_1 := am hi105_1
     have HC105_1 := am hl105_1
     clear hi105_1 hl105_1
     have HR105_2 := am hi105_2
     have HC105_2 := am hl105_2
     clear hi105_2 hl105_2
     replace p105 := eq_true p105
     replace q105 := eq_true q105
     go_wp2_with (first | ((with_reducible refine gate_dst (N := 8) rfl ?_); refine box_event ?hg (N := 8) ?hd (cs := #[.string (⟨#[]⟩ : ByteArray), .slice none 0 0, .slice none 0 0]) (t := 64) ?hr ?_; (case hd => rfl); (case hg => rfl); (case hr => first | (go_simp; done) | (go_simp; rfl)); intro gb106 hg w10 hbox hb; replace HO_5 := am (Rb_ HO_5.out hb); replace HO_6 := am (Rb_ HO_6.out hb); have BK106 := am (hbox); have GW106 := am (gw_ hg HB.out); have GE106 := GW106; replace HB := am (bs_ HB.out hb); have NB101_106 := am (nb_ hg BK101.out); have NB106_101 := am NB101_106.out.symm; replace BK101 := am (bb_ BK101.out hb); clear hb hbox hg; have hnb11 := NB106_101.out; have hnc11 := NB101_106.out; obtain ⟨hcz12_0, hcz12_1, hcz12_2, hfz12_0, hfz12_1, hfz12_2⟩ := bc3 BK106.out))
     go_loopg [6, 9] k1 (fun kq v6 v9 w' => ∃ (x6_2 : List (IPair)) (x9_2 : Int), v9 = .int .i64 x9_2 ∧ Aside0 (lambrequinref11_Edges.l1 kq a1 t102 x6_2 x7_1 x9_2 l0_0 l0_1 ((rd_T64 l0_1 x7_1).head.pred) ((rd_T64 l0_1 x7_1).head.args) ((rd_T64 l0_1 x7_1).body) = some r) ∧ Aside0 (kq ≤ k1) ∧ Aside0 (Kd.R Kd.string 9 w' w.heap.size (fun _ => True) v103 t102) ∧ Aside0 (Kd.R k27 27 w' w.heap.size (fun _ => True) v6 x6_2) ∧ Aside0 (w'.heap[gb101]? = some (.cells #[(.slice A0_0 l0_0.length c0_0), (.slice (some ad105) l0_1.length c0_1)] 50 (0, 0))) ∧ Aside0 (w'.heap[gb106]? = some (.cells #[.string ((rd_T64 l0_1 x7_1).head.pred), (.slice A105_1 ((rd_T64 l0_1 x7_1).head.args).length c105_1), (.slice A105_2 ((rd_T64 l0_1 x7_1).body).length c105_2)] 64 (0, 0))) ∧ Aside0 (Below w.heap.size w w'))
     case atStart => exact ⟨(x6_1), (0), rs_, H', ⟨Nat.le_refl _⟩, ⟨by (with_reducible repeat (first | apply Ra | apply Rn | apply Rd)); exact Kd.R_mono (Rf (Rf (Rf (Kd.R_types HO_5.out BK106.out (by decide))))) (fun _ hk => trivial)⟩, ⟨by (with_reducible repeat (first | apply Ra | apply Rn | apply Rd)); exact Kd.R_mono (Rf (Rf (Rf (Kd.R_types HO_6.out BK106.out (by decide))))) (fun _ hk => trivial)⟩, ⟨pF BK101.out⟩, ⟨by (with_reducible repeat (first | refine bN ?_ _ | refine bD ?_ | refine bA ?_ _)); exact bq3 BK106.out⟩, ⟨pL HB.out⟩⟩
     case round =>
      clear H'
      try clear c1
      try clear p1
      try clear q1
      try clear hx1
      try clear p2
      try clear c3
      try clear c7
      try clear c7b0
      try clear c8
      try clear c8b0
      try clear c10
      try clear p10
      try clear q10
      try clear hx10
      try clear c11
      try clear hcz12_0
      try clear hcz12_1
      try clear hcz12_2
      try clear hcz5_0
      try clear hcz5_1
      try clear hcz9_0
      try clear hcz9_1
      try clear hfz12_0
      try clear hfz12_1
      try clear hfz12_2
      try clear hfz5_0
      try clear hfz5_1
      try clear hfz9_0
      try clear hfz9_1
      try clear hx105_0
      try clear hx105_1
      try clear hx105_2
      try clear p105
      try clear p2
      try clear q105
      obtain ⟨x6_2, x9_2, rfl, HA, HK2, HO_5, HO_6, BK101, BK106, HB⟩ := hrel
      cases gk with
      | zero => exact absurd HA.out (by simp [lambrequinref11_Edges.l1])
      | succ k2 =>
       have H := HA.out
       clear HA
       simp only [lambrequinref11_Edges.l1] at H
       by_cases c13 : x9_2 < (((rd_T64 l0_1 x7_1).body).length : Int)
       ·rw [if_pos c13] at H
        have c13b0 : decide (x9_2 < (((rd_T64 l0_1 x7_1).body).length : Int)) = true := decide_eq_true c13
        clear c13
        by_cases c14 : 0 ≤ x9_2
        ·rw [if_pos c14] at H
         have c14b0 : decide (0 ≤ x9_2) = true := decide_eq_true c14
         clear c14
         have HC15 := am H
         clear H
         have hnb16 := NB106_101.out
         have hnc16 := NB101_106.out
         obtain ⟨hcz17_0, hcz17_1, hcz17_2, hfz17_0, hfz17_1, hfz17_2⟩ := bc3 BK106.out
         have p107 : 0 ≤ (x9_2 : Int) := dt_
         have q107 : x9_2 < (((rd_T64 l0_1 x7_1).body).length : Int) := dt_
         obtain ⟨ad107, A107_2, c107_2, e107, hx107_0, hx107_1, hx107_2, hx107_3, hx107_4, hx107_5, hx107_6, hx107_7, hx107_8, hx107_9, hx107_10, hx107_11, hx107_12, hx107_13, hl107_2, hi107_2⟩ := at_T71 HR105_2.out x9_2 p107 q107
         cases e107
         replace hx107_0 := up_ HB.out hx107_0
         replace hx107_1 := up_ HB.out hx107_1
         replace hx107_2 := up_ HB.out hx107_2
         replace hx107_3 := up_ HB.out hx107_3
         replace hx107_4 := up_ HB.out hx107_4
         replace hx107_5 := up_ HB.out hx107_5
         replace hx107_6 := up_ HB.out hx107_6
         replace hx107_7 := up_ HB.out hx107_7
         replace hx107_8 := up_ HB.out hx107_8
         replace hx107_9 := up_ HB.out hx107_9
         replace hx107_10 := up_ HB.out hx107_10
         replace hx107_11 := up_ HB.out hx107_11
         replace hx107_12 := up_ HB.out hx107_12
         replace hx107_13 := up_ HB.out hx107_13
         have HR107_2 := am hi107_2
         have HC107_2 := am hl107_2
         clear hi107_2 hl107_2
         replace p107 := eq_true p107
         replace q107 := eq_true q107
         go_upto_region 11 with (first | ((with_reducible refine gate_dst (N := 10) rfl ?_); refine box_event ?hg (N := 10) ?hd (cs := #[.int .i64 0, .string (⟨#[]⟩ : ByteArray), .slice none 0 0, .string (⟨#[]⟩ : ByteArray), .bool false, .string (⟨#[]⟩ : ByteArray), .bool false, .string (⟨#[]⟩ : ByteArray), .int .i64 0, .bool false, .string (⟨#[]⟩ : ByteArray), .bool false, .string (⟨#[]⟩ : ByteArray), .int .i64 0]) (t := 71) ?hr ?_; (case hd => rfl); (case hg => rfl); (case hr => first | (go_simp; done) | (go_simp; rfl)); intro gb108 hg w18 hbox hb; replace HO_5 := am (Rb_ HO_5.out hb); replace HO_6 := am (Rb_ HO_6.out hb); have BK108 := am (hbox); have GW108 := am (gw_ hg HB.out); have GE108 := GW108; replace HB := am (bs_ HB.out hb); have NB101_108 := am (nb_ hg BK101.out); have NB108_101 := am NB101_108.out.symm; replace BK101 := am (bb_ BK101.out hb); have NB106_108 := am (nb_ hg BK106.out); have NB108_106 := am NB106_108.out.symm; replace BK106 := am (bb_ BK106.out hb); clear hb hbox hg; have hnb19 := NB108_101.out; have hnc19 := NB101_108.out; have hnb20 := NB108_106.out; have hnc20 := NB106_108.out; obtain ⟨hcz21_0, hcz21_1, hcz21_2, hcz21_3, hcz21_4, hcz21_5, hcz21_6, hcz21_7, hcz21_8, hcz21_9, hcz21_10, hcz21_11, hcz21_12, hcz21_13, hfz21_0, hfz21_1, hfz21_2, hfz21_3, hfz21_4, hfz21_5, hfz21_6, hfz21_7, hfz21_8, hfz21_9, hfz21_10, hfz21_11, hfz21_12, hfz21_13⟩ := bc14 BK108.out))
         (try simp only [Act.put, List.setIfInBounds_toArray, List.set_cons_zero, List.set_cons_succ])
         go_cut [54] (fun v54 wc => ∃ (kq : Nat) (x54_14 : Bool), v54 = .bool x54_14 ∧ Aside0 (lambrequinref11_Edges.j2 kq a1 t102 x6_2 x7_1 x9_2 x54_14 l0_0 l0_1 ((rd_T64 l0_1 x7_1).head.pred) ((rd_T64 l0_1 x7_1).head.args) ((rd_T64 l0_1 x7_1).body) ((rd_T71 ((rd_T64 l0_1 x7_1).body) x9_2).kind) ((rd_T71 ((rd_T64 l0_1 x7_1).body) x9_2).atom.pred) ((rd_T71 ((rd_T64 l0_1 x7_1).body) x9_2).atom.args) ((rd_T71 ((rd_T64 l0_1 x7_1).body) x9_2).op) ((rd_T71 ((rd_T64 l0_1 x7_1).body) x9_2).l.isVar) ((rd_T71 ((rd_T64 l0_1 x7_1).body) x9_2).l.name) ((rd_T71 ((rd_T64 l0_1 x7_1).body) x9_2).l.val.isSym) ((rd_T71 ((rd_T64 l0_1 x7_1).body) x9_2).l.val.sym) ((rd_T71 ((rd_T64 l0_1 x7_1).body) x9_2).l.val.n) ((rd_T71 ((rd_T64 l0_1 x7_1).body) x9_2).r.isVar) ((rd_T71 ((rd_T64 l0_1 x7_1).body) x9_2).r.name) ((rd_T71 ((rd_T64 l0_1 x7_1).body) x9_2).r.val.isSym) ((rd_T71 ((rd_T64 l0_1 x7_1).body) x9_2).r.val.sym) ((rd_T71 ((rd_T64 l0_1 x7_1).body) x9_2).r.val.n) = some r) ∧ Aside0 (kq ≤ k2) ∧ Aside0 (Kd.R Kd.string 9 wc w.heap.size (fun _ => True) v103 t102) ∧ Aside0 (Kd.R k27 27 wc w.heap.size (fun _ => True) u6 x6_2) ∧ Aside0 (wc.heap[gb101]? = some (.cells #[(.slice A0_0 l0_0.length c0_0), (.slice (some ad105) l0_1.length c0_1)] 50 (0, 0))) ∧ Aside0 (wc.heap[gb106]? = some (.cells #[.string ((rd_T64 l0_1 x7_1).head.pred), (.slice A105_1 ((rd_T64 l0_1 x7_1).head.args).length c105_1), (.slice (some ad107) ((rd_T64 l0_1 x7_1).body).length c105_2)] 64 (0, 0))) ∧ Aside0 (wc.heap[gb108]? = some (.cells #[.int .i64 ((rd_T71 ((rd_T64 l0_1 x7_1).body) x9_2).kind), .string ((rd_T71 ((rd_T64 l0_1 x7_1).body) x9_2).atom.pred), (.slice A107_2 ((rd_T71 ((rd_T64 l0_1 x7_1).body) x9_2).atom.args).length c107_2), .string ((rd_T71 ((rd_T64 l0_1 x7_1).body) x9_2).op), .bool ((rd_T71 ((rd_T64 l0_1 x7_1).body) x9_2).l.isVar), .string ((rd_T71 ((rd_T64 l0_1 x7_1).body) x9_2).l.name), .bool ((rd_T71 ((rd_T64 l0_1 x7_1).body) x9_2).l.val.isSym), .string ((rd_T71 ((rd_T64 l0_1 x7_1).body) x9_2).l.val.sym), .int .i64 ((rd_T71 ((rd_T64 l0_1 x7_1).body) x9_2).l.val.n), .bool ((rd_T71 ((rd_T64 l0_1 x7_1).body) x9_2).r.isVar), .string ((rd_T71 ((rd_T64 l0_1 x7_1).body) x9_2).r.name), .bool ((rd_T71 ((rd_T64 l0_1 x7_1).body) x9_2).r.val.isSym), .string ((rd_T71 ((rd_T64 l0_1 x7_1).body) x9_2).r.val.sym), .int .i64 ((rd_T71 ((rd_T64 l0_1 x7_1).body) x9_2).r.val.n)] 71 (0, 0))) ∧ Aside0 (Below w.heap.size w wc))
         case first =>
          have H := HC15.out
          clear HC15
          by_cases c22 : ((rd_T71 ((rd_T64 l0_1 x7_1).body) x9_2).kind) = 1
          ·rw [if_pos c22] at H
           have c22b0 : (((rd_T71 ((rd_T64 l0_1 x7_1).body) x9_2).kind) == 1) = true := beq_iff_eq.mpr c22
           have c22b1 : (((rd_T71 ((rd_T64 l0_1 x7_1).body) x9_2).kind) != 1) = false := bne_eq_false_iff_eq.mpr c22
           clear c22
           (first | rw [c22b0] | (simp only [i64_w, i32_w]; rw [c22b0]) | skip)
           by_cases c23 : a1 = 0
           ·rw [if_pos c23] at H
            have c23b0 : (a1 == 0) = true := beq_iff_eq.mpr c23
            have c23b1 : (a1 != 0) = false := bne_eq_false_iff_eq.mpr c23
            clear c23
            have H' := am H
            clear H
            have hnb24 := NB108_101.out
            have hnc24 := NB101_108.out
            have hnb25 := NB108_106.out
            have hnc25 := NB106_108.out
            obtain ⟨hcz26_0, hcz26_1, hcz26_2, hcz26_3, hcz26_4, hcz26_5, hcz26_6, hcz26_7, hcz26_8, hcz26_9, hcz26_10, hcz26_11, hcz26_12, hcz26_13, hfz26_0, hfz26_1, hfz26_2, hfz26_3, hfz26_4, hfz26_5, hfz26_6, hfz26_7, hfz26_8, hfz26_9, hfz26_10, hfz26_11, hfz26_12, hfz26_13⟩ := bc14 BK108.out
            go_wp2
            go_meet
            case rel => exact ⟨_, (true), rs_, H', ⟨by have := HK1.out; have := HK2.out; first | omega | exact Nat.le_refl _⟩, ⟨by (with_reducible repeat (first | apply Ra | apply Rn | apply Rd)); exact Kd.R_mono (Rf (Rf (Rf (Rf (Rf (Rf (Rf (Rf (Rf (Rf (Rf (Rf (Rf (Rf (Kd.R_types HO_5.out BK108.out (by decide)))))))))))))))) (fun _ hk => trivial)⟩, ⟨by (with_reducible repeat (first | apply Ra | apply Rn | apply Rd)); exact Kd.R_mono (Rf (Rf (Rf (Rf (Rf (Rf (Rf (Rf (Rf (Rf (Rf (Rf (Rf (Rf (Kd.R_types HO_6.out BK108.out (by decide)))))))))))))))) (fun _ hk => trivial)⟩, ⟨pF BK101.out⟩, ⟨pF BK106.out⟩, ⟨by (with_reducible repeat (first | refine bN ?_ _ | refine bD ?_ | refine bA ?_ _)); exact bq14 BK108.out⟩, ⟨pL HB.out⟩⟩
           ·rw [if_neg c23] at H
            have c23b0 : (a1 == 0) = false := beq_eq_false_iff_ne.mpr c23
            have c23b1 : (a1 != 0) = true := bne_iff_ne.mpr c23
            have H' := am H
            clear H
            have hnb27 := NB108_101.out
            have hnc27 := NB101_108.out
            have hnb28 := NB108_106.out
            have hnc28 := NB106_108.out
            obtain ⟨hcz29_0, hcz29_1, hcz29_2, hcz29_3, hcz29_4, hcz29_5, hcz29_6, hcz29_7, hcz29_8, hcz29_9, hcz29_10, hcz29_11, hcz29_12, hcz29_13, hfz29_0, hfz29_1, hfz29_2, hfz29_3, hfz29_4, hfz29_5, hfz29_6, hfz29_7, hfz29_8, hfz29_9, hfz29_10, hfz29_11, hfz29_12, hfz29_13⟩ := bc14 BK108.out
            go_wp2
            go_meet
            case rel => exact ⟨_, ((((rd_T71 ((rd_T64 l0_1 x7_1).body) x9_2).kind) == a1)), rs_, H', ⟨by have := HK1.out; have := HK2.out; first | omega | exact Nat.le_refl _⟩, ⟨by (with_reducible repeat (first | apply Ra | apply Rn | apply Rd)); exact Kd.R_mono (Rf (Rf (Rf (Rf (Rf (Rf (Rf (Rf (Rf (Rf (Rf (Rf (Rf (Rf (Kd.R_types HO_5.out BK108.out (by decide)))))))))))))))) (fun _ hk => trivial)⟩, ⟨by (with_reducible repeat (first | apply Ra | apply Rn | apply Rd)); exact Kd.R_mono (Rf (Rf (Rf (Rf (Rf (Rf (Rf (Rf (Rf (Rf (Rf (Rf (Rf (Rf (Kd.R_types HO_6.out BK108.out (by decide)))))))))))))))) (fun _ hk => trivial)⟩, ⟨pF BK101.out⟩, ⟨pF BK106.out⟩, ⟨by (with_reducible repeat (first | refine bN ?_ _ | refine bD ?_ | refine bA ?_ _)); exact bq14 BK108.out⟩, ⟨pL HB.out⟩⟩
          ·rw [if_neg c22] at H
           have c22b0 : (((rd_T71 ((rd_T64 l0_1 x7_1).body) x9_2).kind) == 1) = false := beq_eq_false_iff_ne.mpr c22
           have c22b1 : (((rd_T71 ((rd_T64 l0_1 x7_1).body) x9_2).kind) != 1) = true := bne_iff_ne.mpr c22
           (first | rw [c22b0] | (simp only [i64_w, i32_w]; rw [c22b0]) | skip)
           by_cases c30 : ((rd_T71 ((rd_T64 l0_1 x7_1).body) x9_2).kind) = 2
           ·rw [if_pos c30] at H
            have c30b0 : (((rd_T71 ((rd_T64 l0_1 x7_1).body) x9_2).kind) == 2) = true := beq_iff_eq.mpr c30
            have c30b1 : (((rd_T71 ((rd_T64 l0_1 x7_1).body) x9_2).kind) != 2) = false := bne_eq_false_iff_eq.mpr c30
            clear c30
            by_cases c31 : a1 = 0
            ·rw [if_pos c31] at H
             have c31b0 : (a1 == 0) = true := beq_iff_eq.mpr c31
             have c31b1 : (a1 != 0) = false := bne_eq_false_iff_eq.mpr c31
             clear c31
             have H' := am H
             clear H
             have hnb32 := NB108_101.out
             have hnc32 := NB101_108.out
             have hnb33 := NB108_106.out
             have hnc33 := NB106_108.out
             obtain ⟨hcz34_0, hcz34_1, hcz34_2, hcz34_3, hcz34_4, hcz34_5, hcz34_6, hcz34_7, hcz34_8, hcz34_9, hcz34_10, hcz34_11, hcz34_12, hcz34_13, hfz34_0, hfz34_1, hfz34_2, hfz34_3, hfz34_4, hfz34_5, hfz34_6, hfz34_7, hfz34_8, hfz34_9, hfz34_10, hfz34_11, hfz34_12, hfz34_13⟩ := bc14 BK108.out
             go_wp2
             go_meet
             case rel => exact ⟨_, (true), rs_, H', ⟨by have := HK1.out; have := HK2.out; first | omega | exact Nat.le_refl _⟩, ⟨by (with_reducible repeat (first | apply Ra | apply Rn | apply Rd)); exact Kd.R_mono (Rf (Rf (Rf (Rf (Rf (Rf (Rf (Rf (Rf (Rf (Rf (Rf (Rf (Rf (Kd.R_types HO_5.out BK108.out (by decide)))))))))))))))) (fun _ hk => trivial)⟩, ⟨by (with_reducible repeat (first | apply Ra | apply Rn | apply Rd)); exact Kd.R_mono (Rf (Rf (Rf (Rf (Rf (Rf (Rf (Rf (Rf (Rf (Rf (Rf (Rf (Rf (Kd.R_types HO_6.out BK108.out (by decide)))))))))))))))) (fun _ hk => trivial)⟩, ⟨pF BK101.out⟩, ⟨pF BK106.out⟩, ⟨by (with_reducible repeat (first | refine bN ?_ _ | refine bD ?_ | refine bA ?_ _)); exact bq14 BK108.out⟩, ⟨pL HB.out⟩⟩
            ·rw [if_neg c31] at H
             have c31b0 : (a1 == 0) = false := beq_eq_false_iff_ne.mpr c31
             have c31b1 : (a1 != 0) = true := bne_iff_ne.mpr c31
             have H' := am H
             clear H
             have hnb35 := NB108_101.out
             have hnc35 := NB101_108.out
             have hnb36 := NB108_106.out
             have hnc36 := NB106_108.out
             obtain ⟨hcz37_0, hcz37_1, hcz37_2, hcz37_3, hcz37_4, hcz37_5, hcz37_6, hcz37_7, hcz37_8, hcz37_9, hcz37_10, hcz37_11, hcz37_12, hcz37_13, hfz37_0, hfz37_1, hfz37_2, hfz37_3, hfz37_4, hfz37_5, hfz37_6, hfz37_7, hfz37_8, hfz37_9, hfz37_10, hfz37_11, hfz37_12, hfz37_13⟩ := bc14 BK108.out
             go_wp2
             go_meet
             case rel => exact ⟨_, ((((rd_T71 ((rd_T64 l0_1 x7_1).body) x9_2).kind) == a1)), rs_, H', ⟨by have := HK1.out; have := HK2.out; first | omega | exact Nat.le_refl _⟩, ⟨by (with_reducible repeat (first | apply Ra | apply Rn | apply Rd)); exact Kd.R_mono (Rf (Rf (Rf (Rf (Rf (Rf (Rf (Rf (Rf (Rf (Rf (Rf (Rf (Rf (Kd.R_types HO_5.out BK108.out (by decide)))))))))))))))) (fun _ hk => trivial)⟩, ⟨by (with_reducible repeat (first | apply Ra | apply Rn | apply Rd)); exact Kd.R_mono (Rf (Rf (Rf (Rf (Rf (Rf (Rf (Rf (Rf (Rf (Rf (Rf (Rf (Rf (Kd.R_types HO_6.out BK108.out (by decide)))))))))))))))) (fun _ hk => trivial)⟩, ⟨pF BK101.out⟩, ⟨pF BK106.out⟩, ⟨by (with_reducible repeat (first | refine bN ?_ _ | refine bD ?_ | refine bA ?_ _)); exact bq14 BK108.out⟩, ⟨pL HB.out⟩⟩
           ·rw [if_neg c30] at H
            have c30b0 : (((rd_T71 ((rd_T64 l0_1 x7_1).body) x9_2).kind) == 2) = false := beq_eq_false_iff_ne.mpr c30
            have c30b1 : (((rd_T71 ((rd_T64 l0_1 x7_1).body) x9_2).kind) != 2) = true := bne_iff_ne.mpr c30
            have H' := am H
            clear H
            have hnb38 := NB108_101.out
            have hnc38 := NB101_108.out
            have hnb39 := NB108_106.out
            have hnc39 := NB106_108.out
            obtain ⟨hcz40_0, hcz40_1, hcz40_2, hcz40_3, hcz40_4, hcz40_5, hcz40_6, hcz40_7, hcz40_8, hcz40_9, hcz40_10, hcz40_11, hcz40_12, hcz40_13, hfz40_0, hfz40_1, hfz40_2, hfz40_3, hfz40_4, hfz40_5, hfz40_6, hfz40_7, hfz40_8, hfz40_9, hfz40_10, hfz40_11, hfz40_12, hfz40_13⟩ := bc14 BK108.out
            go_wp2
            go_meet
            case rel => exact ⟨_, (false), rs_, H', ⟨by have := HK1.out; have := HK2.out; first | omega | exact Nat.le_refl _⟩, ⟨by (with_reducible repeat (first | apply Ra | apply Rn | apply Rd)); exact Kd.R_mono (Rf (Rf (Rf (Rf (Rf (Rf (Rf (Rf (Rf (Rf (Rf (Rf (Rf (Rf (Kd.R_types HO_5.out BK108.out (by decide)))))))))))))))) (fun _ hk => trivial)⟩, ⟨by (with_reducible repeat (first | apply Ra | apply Rn | apply Rd)); exact Kd.R_mono (Rf (Rf (Rf (Rf (Rf (Rf (Rf (Rf (Rf (Rf (Rf (Rf (Rf (Rf (Kd.R_types HO_6.out BK108.out (by decide)))))))))))))))) (fun _ hk => trivial)⟩, ⟨pF BK101.out⟩, ⟨pF BK106.out⟩, ⟨by (with_reducible repeat (first | refine bN ?_ _ | refine bD ?_ | refine bA ?_ _)); exact bq14 BK108.out⟩, ⟨pL HB.out⟩⟩
         case rest =>
          clear HC15
          try clear c1
          try clear p1
          try clear q1
          try clear hx1
          try clear c2
          try clear p2
          try clear c3
          try clear c7
          try clear c7b0
          try clear c8
          try clear c8b0
          try clear c10
          try clear p10
          try clear q10
          try clear hx10
          try clear c11
          try clear c13
          try clear c13b0
          try clear c14
          try clear c14b0
          try clear c16
          try clear c19
          try clear c20
          try clear c22
          try clear c22b0
          try clear c22b1
          try clear c23
          try clear c23b0
          try clear c23b1
          try clear c24
          try clear c25
          try clear c27
          try clear c28
          try clear c30
          try clear c30b0
          try clear c30b1
          try clear c31
          try clear c31b0
          try clear c31b1
          try clear c32
          try clear c33
          try clear c35
          try clear c36
          try clear c38
          try clear c39
          try clear hcz12_0
          try clear hcz12_1
          try clear hcz12_2
          try clear hcz17_0
          try clear hcz17_1
          try clear hcz17_2
          try clear hcz21_0
          try clear hcz21_1
          try clear hcz21_10
          try clear hcz21_11
          try clear hcz21_12
          try clear hcz21_13
          try clear hcz21_2
          try clear hcz21_3
          try clear hcz21_4
          try clear hcz21_5
          try clear hcz21_6
          try clear hcz21_7
          try clear hcz21_8
          try clear hcz21_9
          try clear hcz26_0
          try clear hcz26_1
          try clear hcz26_10
          try clear hcz26_11
          try clear hcz26_12
          try clear hcz26_13
          try clear hcz26_2
          try clear hcz26_3
          try clear hcz26_4
          try clear hcz26_5
          try clear hcz26_6
          try clear hcz26_7
          try clear hcz26_8
          try clear hcz26_9
          try clear hcz29_0
          try clear hcz29_1
          try clear hcz29_10
          try clear hcz29_11
          try clear hcz29_12
          try clear hcz29_13
          try clear hcz29_2
          try clear hcz29_3
          try clear hcz29_4
          try clear hcz29_5
          try clear hcz29_6
          try clear hcz29_7
          try clear hcz29_8
          try clear hcz29_9
          try clear hcz34_0
          try clear hcz34_1
          try clear hcz34_10
          try clear hcz34_11
          try clear hcz34_12
          try clear hcz34_13
          try clear hcz34_2
          try clear hcz34_3
          try clear hcz34_4
          try clear hcz34_5
          try clear hcz34_6
          try clear hcz34_7
          try clear hcz34_8
          try clear hcz34_9
          try clear hcz37_0
          try clear hcz37_1
          try clear hcz37_10
          try clear hcz37_11
          try clear hcz37_12
          try clear hcz37_13
          try clear hcz37_2
          try clear hcz37_3
          try clear hcz37_4
          try clear hcz37_5
          try clear hcz37_6
          try clear hcz37_7
          try clear hcz37_8
          try clear hcz37_9
          try clear hcz40_0
          try clear hcz40_1
          try clear hcz40_10
          try clear hcz40_11
          try clear hcz40_12
          try clear hcz40_13
          try clear hcz40_2
          try clear hcz40_3
          try clear hcz40_4
          try clear hcz40_5
          try clear hcz40_6
          try clear hcz40_7
          try clear hcz40_8
          try clear hcz40_9
          try clear hcz5_0
          try clear hcz5_1
          try clear hcz9_0
          try clear hcz9_1
          try clear hfz12_0
          try clear hfz12_1
          try clear hfz12_2
          try clear hfz17_0
          try clear hfz17_1
          try clear hfz17_2
          try clear hfz21_0
          try clear hfz21_1
          try clear hfz21_10
          try clear hfz21_11
          try clear hfz21_12
          try clear hfz21_13
          try clear hfz21_2
          try clear hfz21_3
          try clear hfz21_4
          try clear hfz21_5
          try clear hfz21_6
          try clear hfz21_7
          try clear hfz21_8
          try clear hfz21_9
          try clear hfz26_0
          try clear hfz26_1
          try clear hfz26_10
          try clear hfz26_11
          try clear hfz26_12
          try clear hfz26_13
          try clear hfz26_2
          try clear hfz26_3
          try clear hfz26_4
          try clear hfz26_5
          try clear hfz26_6
          try clear hfz26_7
          try clear hfz26_8
          try clear hfz26_9
          try clear hfz29_0
          try clear hfz29_1
          try clear hfz29_10
          try clear hfz29_11
          try clear hfz29_12
          try clear hfz29_13
          try clear hfz29_2
          try clear hfz29_3
          try clear hfz29_4
          try clear hfz29_5
          try clear hfz29_6
          try clear hfz29_7
          try clear hfz29_8
          try clear hfz29_9
          try clear hfz34_0
          try clear hfz34_1
          try clear hfz34_10
          try clear hfz34_11
          try clear hfz34_12
          try clear hfz34_13
          try clear hfz34_2
          try clear hfz34_3
          try clear hfz34_4
          try clear hfz34_5
          try clear hfz34_6
          try clear hfz34_7
          try clear hfz34_8
          try clear hfz34_9
          try clear hfz37_0
          try clear hfz37_1
          try clear hfz37_10
          try clear hfz37_11
          try clear hfz37_12
          try clear hfz37_13
          try clear hfz37_2
          try clear hfz37_3
          try clear hfz37_4
          try clear hfz37_5
          try clear hfz37_6
          try clear hfz37_7
          try clear hfz37_8
          try clear hfz37_9
          try clear hfz40_0
          try clear hfz40_1
          try clear hfz40_10
          try clear hfz40_11
          try clear hfz40_12
          try clear hfz40_13
          try clear hfz40_2
          try clear hfz40_3
          try clear hfz40_4
          try clear hfz40_5
          try clear hfz40_6
          try clear hfz40_7
          try clear hfz40_8
          try clear hfz40_9
          try clear hfz5_0
          try clear hfz5_1
          try clear hfz9_0
          try clear hfz9_1
          try clear hx105_0
          try clear hx105_1
          try clear hx105_2
          try clear hx107_0
          try clear hx107_1
          try clear hx107_10
          try clear hx107_11
          try clear hx107_12
          try clear hx107_13
          try clear hx107_2
          try clear hx107_3
          try clear hx107_4
          try clear hx107_5
          try clear hx107_6
          try clear hx107_7
          try clear hx107_8
          try clear hx107_9
          try clear p1
          try clear p10
          try clear p105
          try clear p107
          try clear p2
          try clear q1
          try clear q10
          try clear q105
          try clear q107
          obtain ⟨kq, x54_14, rfl, HA, HJ14, HO_5, HO_6, BK101, BK106, BK108, HB⟩ := hcut
          cases kq with
          | zero => exact absurd HA.out (by simp [lambrequinref11_Edges.j2])
          | succ kj14 =>
           have H := HA.out
           clear HA
           simp only [lambrequinref11_Edges.j2] at H
           by_cases c41 : x54_14 = true
           ·subst c41
            have H1 : ((lambrequinref11_At.f kj14 t102 ((rd_T64 l0_1 x7_1).head.pred)).bind fun t109 => ((lambrequinref11_At.f kj14 t102 ((rd_T71 ((rd_T64 l0_1 x7_1).body) x9_2).atom.pred)).bind fun t110 => (if x6_2.length < 8796093022208 then (lambrequinref11_Edges.l1 kj14 a1 t102 (x6_2 ++ [(⟨t109, t110⟩ : IPair)]) x7_1 (wrap64 (x9_2 + 1)) l0_0 l0_1 ((rd_T64 l0_1 x7_1).head.pred) ((rd_T64 l0_1 x7_1).head.args) ((rd_T64 l0_1 x7_1).body)) else (none)))) = some r := by rw [if_pos rfl] at H; exact H
            clear H
            have H := H1
            clear H1
            replace H := Option.bind_eq_some_iff.mp H
            obtain ⟨t109, A420, H⟩ := H
            replace H : ((lambrequinref11_At.f kj14 t102 ((rd_T71 ((rd_T64 l0_1 x7_1).body) x9_2).atom.pred)).bind fun t110 => (if x6_2.length < 8796093022208 then (lambrequinref11_Edges.l1 kj14 a1 t102 (x6_2 ++ [(⟨t109, t110⟩ : IPair)]) x7_1 (wrap64 (x9_2 + 1)) l0_0 l0_1 ((rd_T64 l0_1 x7_1).head.pred) ((rd_T64 l0_1 x7_1).head.args) ((rd_T64 l0_1 x7_1).body)) else (none))) = some r := H
            have A42 := am A420
            clear A420
            replace H := Option.bind_eq_some_iff.mp H
            obtain ⟨t110, A430, H⟩ := H
            replace H : (if x6_2.length < 8796093022208 then (lambrequinref11_Edges.l1 kj14 a1 t102 (x6_2 ++ [(⟨t109, t110⟩ : IPair)]) x7_1 (wrap64 (x9_2 + 1)) l0_0 l0_1 ((rd_T64 l0_1 x7_1).head.pred) ((rd_T64 l0_1 x7_1).head.args) ((rd_T64 l0_1 x7_1).body)) else (none)) = some r := H
            have A43 := am A430
            clear A430
            by_cases c44 : x6_2.length < 8796093022208
            ·rw [if_pos c44] at H
             have LMc44 := am c44
             clear c44
             obtain ⟨y111, hy111⟩ : ∃ y_ : List (IPair), y_ = (x6_2 ++ [(⟨t109, t110⟩ : IPair)]) := ⟨_, rfl⟩
             replace H : (lambrequinref11_Edges.l1 kj14 a1 t102 y111 x7_1 (wrap64 (x9_2 + 1)) l0_0 l0_1 ((rd_T64 l0_1 x7_1).head.pred) ((rd_T64 l0_1 x7_1).head.args) ((rd_T64 l0_1 x7_1).body)) = some r := by first | (rw [hy111]; with_reducible exact H) | (have H2_ := (Option.bind_some _ _).symm.trans H; rw [hy111]; with_reducible exact H2_) | (have H2_ := (Option.bind_some _ _).symm.trans H; with_reducible exact H2_) | with_reducible exact H | (rw [hy111]; exact H) | exact H
             have Ny111 := am hy111
             clear hy111
             have H' := am H
             clear H
             try go_wp2
             replace HO_5 := am (Kd.R_drew HO_5.out)
             replace HO_6 := am (Kd.R_drew HO_6.out)
             replace BK101 := am (blk_drew BK101.out)
             replace BK106 := am (blk_drew BK106.out)
             replace BK108 := am (blk_drew BK108.out)
             replace HB := am (below_drew1 HB.out)
             obtain ⟨Ao46, co46, eo46⟩ := Kd.R_slice HO_5.out
             (first | subst eo46 | (injection eo46 with f1_ f2_ f3_; have f4_ := f1_.symm; have f5_ := f3_.symm; clear f1_ f2_ f3_; subst f4_; subst f5_))
             refine start_ (n := 15) (S := fun w' => w'.cell? ⟨gb106, 0, none⟩ = some (.string ((rd_T64 l0_1 x7_1).head.pred)) ∧ w'.cell? ⟨gb106, 1, none⟩ = some (.slice A105_1 ((rd_T64 l0_1 x7_1).head.args).length c105_1) ∧ w'.cell? ⟨gb106, 2, none⟩ = some (.slice (some ad107) ((rd_T64 l0_1 x7_1).body).length c105_2) ∧ w'.cell? ⟨gb108, 0, none⟩ = some (.int .i64 ((rd_T71 ((rd_T64 l0_1 x7_1).body) x9_2).kind)) ∧ w'.cell? ⟨gb108, 1, none⟩ = some (.string ((rd_T71 ((rd_T64 l0_1 x7_1).body) x9_2).atom.pred)) ∧ w'.cell? ⟨gb108, 2, none⟩ = some (.slice A107_2 ((rd_T71 ((rd_T64 l0_1 x7_1).body) x9_2).atom.args).length c107_2) ∧ w'.cell? ⟨gb108, 3, none⟩ = some (.string ((rd_T71 ((rd_T64 l0_1 x7_1).body) x9_2).op)) ∧ w'.cell? ⟨gb108, 4, none⟩ = some (.bool ((rd_T71 ((rd_T64 l0_1 x7_1).body) x9_2).l.isVar)) ∧ w'.cell? ⟨gb108, 5, none⟩ = some (.string ((rd_T71 ((rd_T64 l0_1 x7_1).body) x9_2).l.name)) ∧ w'.cell? ⟨gb108, 6, none⟩ = some (.bool ((rd_T71 ((rd_T64 l0_1 x7_1).body) x9_2).l.val.isSym)) ∧ w'.cell? ⟨gb108, 7, none⟩ = some (.string ((rd_T71 ((rd_T64 l0_1 x7_1).body) x9_2).l.val.sym)) ∧ w'.cell? ⟨gb108, 8, none⟩ = some (.int .i64 ((rd_T71 ((rd_T64 l0_1 x7_1).body) x9_2).l.val.n)) ∧ w'.cell? ⟨gb108, 9, none⟩ = some (.bool ((rd_T71 ((rd_T64 l0_1 x7_1).body) x9_2).r.isVar)) ∧ w'.cell? ⟨gb108, 10, none⟩ = some (.string ((rd_T71 ((rd_T64 l0_1 x7_1).body) x9_2).r.name)) ∧ w'.cell? ⟨gb108, 11, none⟩ = some (.bool ((rd_T71 ((rd_T64 l0_1 x7_1).body) x9_2).r.val.isSym)) ∧ w'.cell? ⟨gb108, 12, none⟩ = some (.string ((rd_T71 ((rd_T64 l0_1 x7_1).body) x9_2).r.val.sym)) ∧ w'.cell? ⟨gb108, 13, none⟩ = some (.int .i64 ((rd_T71 ((rd_T64 l0_1 x7_1).body) x9_2).r.val.n))) (ds := []) (bl 15 0) (by kernel_rfl) rfl rfl ⟨(blk_cell BK106.out 0).trans rfl, (blk_cell BK106.out 1).trans rfl, (blk_cell BK106.out 2).trans rfl, (blk_cell BK108.out 0).trans rfl, (blk_cell BK108.out 1).trans rfl, (blk_cell BK108.out 2).trans rfl, (blk_cell BK108.out 3).trans rfl, (blk_cell BK108.out 4).trans rfl, (blk_cell BK108.out 5).trans rfl, (blk_cell BK108.out 6).trans rfl, (blk_cell BK108.out 7).trans rfl, (blk_cell BK108.out 8).trans rfl, (blk_cell BK108.out 9).trans rfl, (blk_cell BK108.out 10).trans rfl, (blk_cell BK108.out 11).trans rfl, (blk_cell BK108.out 12).trans rfl, (blk_cell BK108.out 13).trans rfl⟩ (fun hHeld => ?_); refine with_tabW lambrequinref11_Edges.tab12 lambrequinref11_Edges.bits12 (fun HT_ HW_ => ?_)
             generalize wc.drew = w45 at HO_5 HO_6 BK101 BK106 BK108 HB hHeld ⊢
             refine pure_ (i := 0) (N := some 55) (v := ?_) (a' := ?_) (bl 15 1) rfl rfl (any_of HT_.out (by kernel_rfl)) (fun _ _ _ h => h) (Or.inl ⟨by rfl, ?_⟩) ?_ ?_
             rotate_left
             ·intro w'
              go_simp
              with_reducible rfl
             rotate_left
             ·simp only [Act.put, sA, sZ, sS, i64_w, i32_w]
              rfl
             refine pure_ (i := 1) (N := some 56) (v := ?_) (a' := ?_) (bl 15 3) rfl rfl (any_of HT_.out (by kernel_rfl)) (fun _ _ _ h => h) (Or.inl ⟨by rfl, ?_⟩) ?_ ?_
             rotate_left
             ·intro w'
              go_simp
              with_reducible rfl
             rotate_left
             ·simp only [Act.put, sA, sZ, sS, i64_w, i32_w]
              rfl
             refine pure_ (i := 2) (N := some 57) (v := ?_) (a' := ?_) (bl 15 7) rfl rfl (any_of HT_.out (by kernel_rfl)) (fun _ _ _ h => h) (Or.inl ⟨by rfl, ?_⟩) ?_ ?_
             rotate_left
             ·intro w'
              go_simp
              with_reducible rfl
             rotate_left
             ·simp only [Act.put, sA, sZ, sS, i64_w, i32_w]
              rfl
             refine pure_ (i := 3) (N := some 58) (v := ?_) (a' := ?_) (bl 15 15) rfl rfl (any_of HT_.out (by kernel_rfl)) (fun _ _ _ h => h) (Or.inl ⟨by rfl, ?_⟩) ?_ ?_
             rotate_left
             ·intro w'
              go_simp
              with_reducible rfl
             rotate_left
             ·simp only [Act.put, sA, sZ, sS, i64_w, i32_w]
              rfl
             refine pure_ (i := 6) (N := some 61) (v := ?_) (a' := ?_) (bl 15 79) rfl rfl (any_of HT_.out (by kernel_rfl)) (fun _ _ _ h => h) (Or.inl ⟨by rfl, ?_⟩) ?_ ?_
             rotate_left
             ·intro w'
              go_simp
              with_reducible rfl
             rotate_left
             ·simp only [Act.put, sA, sZ, sS, i64_w, i32_w]
              rfl
             refine pure_ (i := 7) (N := some 62) (v := ?_) (a' := ?_) (bl 15 207) rfl rfl (any_of HT_.out (by kernel_rfl)) (fun _ _ _ h => h) (Or.inl ⟨by rfl, ?_⟩) ?_ ?_
             rotate_left
             ·intro w'
              go_simp
              with_reducible rfl
             rotate_left
             ·simp only [Act.put, sA, sZ, sS, i64_w, i32_w]
              rfl
             refine pure_ (i := 8) (N := some 63) (v := ?_) (a' := ?_) (bl 15 463) rfl rfl (any_of HT_.out (by kernel_rfl)) (fun _ _ _ h => h) (Or.inl ⟨by rfl, ?_⟩) ?_ ?_
             rotate_left
             ·intro w'
              go_simp
              with_reducible rfl
             rotate_left
             ·simp only [Act.put, sA, sZ, sS, i64_w, i32_w]
              rfl
             refine take_ (i := 4) (N := some 59) (v := ?_) (a' := ?_) (bl 15 479) rfl rfl (take_ofW HT_.out HW_.out (by kernel_rfl)) (fun _ _ _ h => h) (Or.inl ⟨by rfl, ?_⟩) hHeld ?_ ?_
             rotate_left
             ·rintro w' ⟨s0, s1, s2, s3, s4, s5, s6, s7, s8, s9, s10, s11, s12, s13, s14, s15, s16⟩
              go_simp
              with_reducible rfl
             rotate_left
             ·simp only [Act.put, sA, sZ, sS, i64_w, i32_w]
              rfl
             refine take_ (i := 9) (N := some 64) (v := ?_) (a' := ?_) (bl 15 991) rfl rfl (take_ofW HT_.out HW_.out (by kernel_rfl)) (fun _ _ _ h => h) (Or.inl ⟨by rfl, ?_⟩) hHeld ?_ ?_
             rotate_left
             ·rintro w' ⟨s0, s1, s2, s3, s4, s5, s6, s7, s8, s9, s10, s11, s12, s13, s14, s15, s16⟩
              go_simp
              with_reducible rfl
             rotate_left
             ·simp only [Act.put, sA, sZ, sS, i64_w, i32_w]
              rfl
             refine one_ (i := 5) (N := some 60) (bl 15 1023) rfl rfl (one_of HT_.out (by kernel_rfl)) (by decide) (fun K hK => ?_)
             refine goes_ Try.func34 (by kernel_rfl) rfl #[.slice Ao46 t102.length co46, .string ((rd_T64 l0_1 x7_1).head.pred)] (by rfl) rfl rfl (by (try simp only [List.map_toArray, List.map_cons, List.map_nil]); first | done | rfl | (simp only [List.length_drop, List.length_take]; rfl)) ?_
             with_reducible refine (lambrequinref11_At.calls kj14 _ _ t102 ((rd_T64 l0_1 x7_1).head.pred) t109 _ ?side1 ?side2 A42.out).mono ?_
             (case side1 => repeat (first | exact (Kd.R_reads' HO_5.out).2.2 | (with_reducible refine Kd.C_alloc ?_ _) | (with_reducible refine Kd.C_drewN ?_ _) | (with_reducible refine Kd.C_drew ?_)))
             (case side2 => exact (Kd.R_reads' HO_5.out).2.1)
             rintro e w' ⟨rfl, ⟨nd, rfl⟩⟩
             refine ⟨_, rfl, ?_⟩
             refine hK.out _ _ ⟨(blk_cell BK106.out 0).trans rfl, (blk_cell BK106.out 1).trans rfl, (blk_cell BK106.out 2).trans rfl, (blk_cell BK108.out 0).trans rfl, (blk_cell BK108.out 1).trans rfl, (blk_cell BK108.out 2).trans rfl, (blk_cell BK108.out 3).trans rfl, (blk_cell BK108.out 4).trans rfl, (blk_cell BK108.out 5).trans rfl, (blk_cell BK108.out 6).trans rfl, (blk_cell BK108.out 7).trans rfl, (blk_cell BK108.out 8).trans rfl, (blk_cell BK108.out 9).trans rfl, (blk_cell BK108.out 10).trans rfl, (blk_cell BK108.out 11).trans rfl, (blk_cell BK108.out 12).trans rfl, (blk_cell BK108.out 13).trans rfl⟩ (fun hHeld => ?_)
             clear hK K
             refine norm_ (a' := ?_) ?_ ?_
             rotate_left
             ·show Act.put _ (some 60) _ = _
              simp only [Act.put, sA, sZ, sS, i64_w, i32_w]
              rfl
             refine one_ (i := 10) (N := some 65) (bl 15 2047) rfl rfl (one_of HT_.out (by kernel_rfl)) (by decide) (fun K hK => ?_)
             refine goes_ Try.func34 (by kernel_rfl) rfl #[.slice Ao46 t102.length co46, .string ((rd_T71 ((rd_T64 l0_1 x7_1).body) x9_2).atom.pred)] (by rfl) rfl rfl (by (try simp only [List.map_toArray, List.map_cons, List.map_nil]); first | done | rfl | (simp only [List.length_drop, List.length_take]; rfl)) ?_
             with_reducible refine (lambrequinref11_At.calls kj14 _ _ t102 ((rd_T71 ((rd_T64 l0_1 x7_1).body) x9_2).atom.pred) t110 _ ?side1 ?side2 A43.out).mono ?_
             (case side1 => repeat (first | exact (Kd.R_reads' HO_5.out).2.2 | (with_reducible refine Kd.C_alloc ?_ _) | (with_reducible refine Kd.C_drewN ?_ _) | (with_reducible refine Kd.C_drew ?_)))
             (case side2 => exact (Kd.R_reads' HO_5.out).2.1)
             rintro e w' ⟨rfl, ⟨nd, rfl⟩⟩
             refine ⟨_, rfl, ?_⟩
             refine hK.out _ _ ⟨(blk_cell BK106.out 0).trans rfl, (blk_cell BK106.out 1).trans rfl, (blk_cell BK106.out 2).trans rfl, (blk_cell BK108.out 0).trans rfl, (blk_cell BK108.out 1).trans rfl, (blk_cell BK108.out 2).trans rfl, (blk_cell BK108.out 3).trans rfl, (blk_cell BK108.out 4).trans rfl, (blk_cell BK108.out 5).trans rfl, (blk_cell BK108.out 6).trans rfl, (blk_cell BK108.out 7).trans rfl, (blk_cell BK108.out 8).trans rfl, (blk_cell BK108.out 9).trans rfl, (blk_cell BK108.out 10).trans rfl, (blk_cell BK108.out 11).trans rfl, (blk_cell BK108.out 12).trans rfl, (blk_cell BK108.out 13).trans rfl⟩ (fun hHeld => ?_)
             clear hK K
             refine norm_ (a' := ?_) ?_ ?_
             rotate_left
             ·show Act.put _ (some 65) _ = _
              simp only [Act.put, sA, sZ, sS, i64_w, i32_w]
              rfl
             refine pure_ (i := 11) (N := some 66) (v := ?_) (a' := ?_) (bl 15 4095) rfl rfl (any_of HT_.out (by kernel_rfl)) (fun _ _ _ h => h) (Or.inl ⟨by rfl, ?_⟩) ?_ ?_
             rotate_left
             ·intro w'
              go_simp
              with_reducible rfl
             rotate_left
             ·simp only [Act.put, sA, sZ, sS, i64_w, i32_w]
              rfl
             refine one_ (i := 12) (N := some 67) (bl 15 8191) rfl rfl (one_of HT_.out (by kernel_rfl)) (by decide) (fun K hK => ?_)
             refine value_ (w1 := ?_) (v := ?_) (by rfl) rfl ?_ ?_
             rotate_left 2
             ·go_simp
              constructor
              ·rfl
              ·rfl
             refine hK.out _ _ ⟨(blk_cell (blk_alloc BK106.out _) 0).trans rfl, (blk_cell (blk_alloc BK106.out _) 1).trans rfl, (blk_cell (blk_alloc BK106.out _) 2).trans rfl, (blk_cell (blk_alloc BK108.out _) 0).trans rfl, (blk_cell (blk_alloc BK108.out _) 1).trans rfl, (blk_cell (blk_alloc BK108.out _) 2).trans rfl, (blk_cell (blk_alloc BK108.out _) 3).trans rfl, (blk_cell (blk_alloc BK108.out _) 4).trans rfl, (blk_cell (blk_alloc BK108.out _) 5).trans rfl, (blk_cell (blk_alloc BK108.out _) 6).trans rfl, (blk_cell (blk_alloc BK108.out _) 7).trans rfl, (blk_cell (blk_alloc BK108.out _) 8).trans rfl, (blk_cell (blk_alloc BK108.out _) 9).trans rfl, (blk_cell (blk_alloc BK108.out _) 10).trans rfl, (blk_cell (blk_alloc BK108.out _) 11).trans rfl, (blk_cell (blk_alloc BK108.out _) 12).trans rfl, (blk_cell (blk_alloc BK108.out _) 13).trans rfl⟩ (fun hHeld => ?_)
             clear hK K
             refine norm_ (a' := ?_) ?_ ?_
             rotate_left
             ·show Act.put _ (some 67) _ = _
              simp only [Act.put, sA, sZ, sS, i64_w, i32_w]
              rfl
             refine one_ (i := 13) (N := some 68) (bl 15 16383) rfl rfl (one_of HT_.out (by kernel_rfl)) (by decide) (fun K hK => ?_)
             refine Kd.R_append_step k27 (w0 := w) w.heap.size (by rfl) (.tmp 55) (.tmp 67) 24 27 (.agg #[(.int .i64 0), (.int .i64 0)]) 16 rfl Try.underlying24 info27 rfl (by decide) (by omega) u6 x6_2 (⟨t109, t110⟩ : IPair) [.int .i64 t109, .int .i64 t110] (fun _ => True) (fun _ => False) rfl rfl ?aP (fun _ hk => hk.elim) ?aF ?aO ?aB ?aS ?aL ?_
             (case aP => exact k27_mkM _ _ _ (⟨t109, t110⟩ : IPair))
             (case aB => exact (pL HB.out))
             (case aF => exact (fun _ _ => trivial))
             (case aO => exact (pR HO_6.out))
             (case aS => exact (below_size (pL HB.out)))
             (case aL => have := LMc44.out; omega)
             intro v112 w47 ho hb hg hat
             rw [← Ny111.out] at ho
             replace HO_5 := am (Kd.R_over' (pR HO_5.out) (Kd.R_typed (pR HO_6.out)) (by decide) hg)
             replace BK101 := am (blk_grown (pB BK101.out) hg (Kd.R_ne HO_6.out BK101.out (by decide)))
             replace BK106 := am (blk_grown (pB BK106.out) hg (Kd.R_ne HO_6.out BK106.out (by decide)))
             replace BK108 := am (blk_grown (pB BK108.out) hg (Kd.R_ne HO_6.out BK108.out (by decide)))
             replace HB := am (hb)
             have HO113 := am (ho)
             clear HO_6
             clear ho hb hg hat
             refine hK.out _ _ ⟨(blk_cell BK106.out 0).trans rfl, (blk_cell BK106.out 1).trans rfl, (blk_cell BK106.out 2).trans rfl, (blk_cell BK108.out 0).trans rfl, (blk_cell BK108.out 1).trans rfl, (blk_cell BK108.out 2).trans rfl, (blk_cell BK108.out 3).trans rfl, (blk_cell BK108.out 4).trans rfl, (blk_cell BK108.out 5).trans rfl, (blk_cell BK108.out 6).trans rfl, (blk_cell BK108.out 7).trans rfl, (blk_cell BK108.out 8).trans rfl, (blk_cell BK108.out 9).trans rfl, (blk_cell BK108.out 10).trans rfl, (blk_cell BK108.out 11).trans rfl, (blk_cell BK108.out 12).trans rfl, (blk_cell BK108.out 13).trans rfl⟩ (fun hHeld => ?_)
             clear hK K
             refine norm_ (a' := ?_) ?_ ?_
             rotate_left
             ·show Act.put _ (some 68) _ = _
              simp only [Act.put, sA, sZ, sS, i64_w, i32_w]
              rfl
             refine pure_ (i := 14) (N := some 6) (v := ?_) (a' := ?_) (bl 15 32767) rfl rfl (any_of HT_.out (by kernel_rfl)) (fun _ _ _ h => h) (Or.inl ⟨by rfl, ?_⟩) ?_ ?_
             rotate_left
             ·intro w'
              go_simp
              with_reducible rfl
             rotate_left
             ·simp only [Act.put, sA, sZ, sS, i64_w, i32_w]
              rfl
             refine done_ (done_of HT_.out (by kernel_rfl)) ?_
             try go_wp2
             go_roundg kj14
             case measure => have := HK1.out; have := HK2.out; have := HJ14.out; omega
             case rel => exact ⟨(y111), (wrap64 (x9_2 + 1)), rs_, H', ⟨by have := HK1.out; have := HK2.out; have := HJ14.out; omega⟩, ⟨pR HO_5.out⟩, ⟨pR HO113.out⟩, ⟨pB BK101.out⟩, ⟨pB BK106.out⟩, ⟨pL HB.out⟩⟩
            ·rw [if_neg c44] at H
             exact absurd H (by simp)
           ·replace c41 := Bool.eq_false_iff.mpr c41
            subst c41
            have H1 : (lambrequinref11_Edges.l1 kj14 a1 t102 x6_2 x7_1 (wrap64 (x9_2 + 1)) l0_0 l0_1 ((rd_T64 l0_1 x7_1).head.pred) ((rd_T64 l0_1 x7_1).head.args) ((rd_T64 l0_1 x7_1).body)) = some r := by rw [if_neg (show ¬ (false = true) by decide)] at H; exact H
            clear H
            have H := H1
            clear H1
            have H' := am H
            clear H
            go_wp2
            go_roundg kj14
            case measure => have := HK1.out; have := HK2.out; have := HJ14.out; omega
            case rel => exact ⟨(x6_2), (wrap64 (x9_2 + 1)), rs_, H', ⟨by have := HK1.out; have := HK2.out; have := HJ14.out; omega⟩, ⟨pR HO_5.out⟩, ⟨pR HO_6.out⟩, ⟨pB BK101.out⟩, ⟨pB BK106.out⟩, ⟨pL HB.out⟩⟩
        ·rw [if_neg c14] at H
         exact absurd H (by simp)
       ·rw [if_neg c13] at H
        have c13b0 : decide (x9_2 < (((rd_T64 l0_1 x7_1).body).length : Int)) = false := decide_eq_false c13
        clear c13
        have H' := am H
        clear H
        have hnb48 := NB106_101.out
        have hnc48 := NB101_106.out
        obtain ⟨hcz49_0, hcz49_1, hcz49_2, hfz49_0, hfz49_1, hfz49_2⟩ := bc3 BK106.out
        go_wp2
        go_roundg k2
        case measure => have := HK1.out; have := HK2.out; omega
        case rel => exact ⟨(x6_2), (wrap64 (x7_1 + 1)), rs_, H', ⟨by have := HK1.out; have := HK2.out; omega⟩, ⟨pR HO_5.out⟩, ⟨pR HO_6.out⟩, ⟨pB BK101.out⟩, ⟨pL HB.out⟩⟩
    ·rw [if_neg c8] at H
     exact absurd H (by simp)
   ·rw [if_neg c7] at H
    have c7b0 : decide (x7_1 < (l0_1.length : Int)) = false := decide_eq_false c7
    clear c7
    obtain rfl := Option.some.inj H
    obtain ⟨hcz50_0, hcz50_1, hfz50_0, hfz50_1⟩ := bc2 BK101.out
    go_wp2
    go_ret
    exact ⟨_, by first | rfl | (simp [errW_none, errW_some] <;> rfl) | (simp [*, errW_none, errW_some] <;> rfl), by (with_reducible repeat (first | apply Ra | apply Rn | apply Rd)); exact HO_6.out, pL HB.out⟩
end Go.Proofs.Ytmlhnjonmjmhdaa.H
