import Derived.Test.YthpejcnldecmoaaPlanner2
namespace Go.Proofs.Ythpejcnldecmoaa.H
open Go.RowKit Go.Proofs.YthpejcnldecmoaaW.PrintWords Go.Proofs.YthpejcnldecmoaaW.PrintLast Go.Proofs.YthpejcnldecmoaaW.PrintMore
set_option linter.unusedVariables false

/-- the planner at block B -/
structure Pl (w0 w : World) (B : Nat) (A0 : Option Addr) (c0 : Nat) (body : List Liter) (s : Plan) (vl vb vo : Value) : Prop where
  blk : w.heap[B]? = some (.cells #[.slice A0 body.length c0, vl, vb, vo] 78 (0, 0))
  ge : w0.heap.size ≤ B
  below : Below w0.heap.size w0 w
  left : Kd.R (Kd.int .i64) 3 w w0.heap.size (fun k => k ≠ B ∧ some k ≠ vo.ownBlock) vl (ints s.left)
  bound : Kd.R Kd.string 9 w w0.heap.size (fun k => k ≠ B) vb s.bound
  order : Kd.R (Kd.int .i64) 3 w w0.heap.size (fun k => k ≠ B ∧ some k ≠ vl.ownBlock) vo (ints s.order)
theorem Pl.then {w0 w W : World} {B : Nat} {A0 : Option Addr} {c0 : Nat} {body : List Liter} {s : Plan} {vl vb vo : Value} (h : Pl w0 w B A0 c0 body s vl vb vo) (hb : Below w.heap.size w W) : Pl w0 W B A0 c0 body s vl vb vo :=
  ⟨blk_below h.blk hb, h.ge, below_then h.below h.below.size hb, Kd.R_below h.left hb, Kd.R_below h.bound hb, Kd.R_below h.order hb⟩
/-- what is asked of a body: its length, and its atoms' -/
structure Fine (body : List Liter) (s : Plan) : Prop where
  len : body.length ≤ 1000
  args : ∀ l ∈ body, l.atom.args.length ≤ 1000
  left : ∀ k ∈ s.left, k < body.length

theorem lit_at {body : List Liter} {k : Nat} (h : k < body.length) : body[k]? = some (lit body k) := by
  simp [lit, List.getD_eq_getElem?_getD, List.getElem?_eq_getElem h]
theorem lit_mem {body : List Liter} {k : Nat} (h : k < body.length) : lit body k ∈ body := List.mem_of_getElem? (lit_at h)
theorem ints_at {l : List Nat} {k y : Nat} (h : l[k]? = some y) : (ints l)[k]? = some (y : Int) := by simp [ints, h]
theorem ints_len (l : List Nat) : (ints l).length = l.length := by simp [ints]

theorem idxP_ints (p : Nat → Bool) : ∀ (l : List Nat) (i : Nat), idxP (fun x : Int => p x.toNat) (ints l) i = idxP p l i
  | [], _ => rfl
  | x :: l, i => by show idxP _ ((x : Int) :: ints l) i = _; simp only [idxP, Int.toNat_natCast, idxP_ints p l (i + 1)]

theorem test_pred (w0 w : World) (B Bp : Nat) (A0 : Option Addr) (c0 : Nat) (body : List Liter) (s : Plan) (vl vb vo : Value) (hP : Pl w0 w B A0 c0 body s vl vb vo) (hF : Fine body s) (hbody : Kd.C kLiter w0 A0 body.length body)
    (h0 : w.cell? ⟨Bp, 0, none⟩ = some (.pointer (some ⟨B, 0, none⟩))) :
    PredK Try.prog 58 #[.pointer (some ⟨Bp, 0, none⟩)] (Value.int .i64) (fun x => asks s.bound (lit body x.toNat)) w (ints s.left) := by
  intro W x hx hb
  obtain ⟨k, hk, rfl⟩ := List.mem_map.1 hx
  have hlt := hF.left k hk
  obtain ⟨Ab, cb, rfl, hlb, hCb⟩ := Kd.R_reads hP.bound
  have hP2 := hP.then hb
  exact test1 W Bp B _ _ A0 c0 body Ab cb s.bound k (lit body k) (lit_at hlt) hlt (Below.old hb h0) hP2.blk (Kd.C_below hbody hP2.below) (Kd.C_below hCb hb) (by have := hF.args _ (lit_mem hlt); omega)

section
variable {w0 w : World} {B : Nat} {A0 : Option Addr} {c0 : Nat} {body : List Liter} {s : Plan} {vl vb vo : Value}
theorem Pl.cell0 (h : Pl w0 w B A0 c0 body s vl vb vo) : w.cell? ⟨B, 0, none⟩ = some (.slice A0 body.length c0) := (blk_cell h.blk 0).trans rfl
theorem Pl.cell1 (h : Pl w0 w B A0 c0 body s vl vb vo) : w.cell? ⟨B, 1, none⟩ = some vl := (blk_cell h.blk 1).trans rfl
theorem Pl.cell2 (h : Pl w0 w B A0 c0 body s vl vb vo) : w.cell? ⟨B, 2, none⟩ = some vb := (blk_cell h.blk 2).trans rfl
theorem Pl.cell3 (h : Pl w0 w B A0 c0 body s vl vb vo) : w.cell? ⟨B, 3, none⟩ = some vo := (blk_cell h.blk 3).trans rfl
theorem Pl.fz (h : Pl w0 w B A0 c0 body s vl vb vo) (j : Nat) : w.frozen? ⟨B, j, none⟩ = false := blk_frozen h.blk j
end
theorem find_none {l : List Nat} {p : Nat → Bool} (h : ∀ x ∈ l, p x = false) : l.find? p = none := List.find?_eq_none.2 (fun x hx => by simp [h x hx])
theorem find_some {l : List Nat} {p : Nat → Bool} {k y : Nat} (hy : l[k]? = some y) (hp : p y = true) (h : ∀ x ∈ l.take k, p x = false) : l.find? p = some y := by
  have h1 : l = l.take k ++ y :: l.drop (k + 1) := by rw [← drop_cons hy, List.take_append_drop]
  rw [h1, List.find?_append, find_none h]
  simp [hp]

set_option maxHeartbeats 4000000 in
theorem planner_test (w0 w : World) (B : Nat) (A0 : Option Addr) (c0 : Nat) (body : List Liter) (s : Plan) (vl vb vo : Value) (hP : Pl w0 w B A0 c0 body s vl vb vo) (hF : Fine body s) (hbody : Kd.C kLiter w0 A0 body.length body) :
    Calls Try.prog 42 #[.pointer (some ⟨B, 0, none⟩)] w fun e w' => e = .returned (.int .i64 (optInt (testOf body s))) ∧ Below w.heap.size w w' := by
  have HP := Aside0.mk hP
  have eg := enters_of Try.func58 (by kernel_rfl) rfl
  obtain ⟨Al, cl, rfl, hll, hCl⟩ := Kd.R_reads hP.left
  have hlen := hCl.2.1
  have HC := Aside0.mk hCl
  have hb1 := hP.cell1
  have hBs := blk_lt hP.blk
  have hF' := Aside0.mk hF
  have HBd := Aside0.mk hbody
  rcases idxP_cases (fun k => asks s.bound (lit body k)) s.left 0 with ⟨e1, hall⟩ | ⟨k0, y0, e1, hy0, ht, hall⟩
  · have E2 := Aside0.mk ((idxP_ints (fun k => asks s.bound (lit body k)) s.left 0).trans e1)
    have HT := Aside0.mk (show optInt (testOf body s) = -1 by rw [testOf, find_none hall]; rfl)
    clear e1 hall hP hCl hF hbody
    go_enter Try.func42, Try.ntmps42
    go_wp2_with (go_at_call 57; go_must (refine (IndexFuncInt 58 #[.pointer (some ⟨w.heap.size, 0, none⟩)] eg _ _ _ _ _ (Kd.C_alloc HC.out _) (test_pred w0 _ B w.heap.size A0 c0 body s _ _ _ (HP.out.then (below_alloc (Below.refl _ _) _)) hF'.out HBd.out (by go_simp))).mono ?_); rintro e w1 ⟨rfl, hb⟩; rw [E2.out]; have HB := Aside0.mk (Below.then (below_alloc (Below.refl _ _) _) hb); clear hb)
    go_ret
    exact ⟨by rw [HT.out]; rfl, HB.out⟩
  · rw [Nat.zero_add] at e1
    have E2 := Aside0.mk ((idxP_ints (fun k => asks s.bound (lit body k)) s.left 0).trans e1)
    have HT := Aside0.mk (show optInt (testOf body s) = (y0 : Int) by rw [testOf, find_some hy0 ht hall]; rfl)
    have hk0 : k0 < (ints s.left).length := by rw [ints_len]; exact (List.getElem?_eq_some_iff.1 hy0).1
    have hk1 : (k0 : Int) < ((ints s.left).length : Int) := by omega
    obtain ⟨ad, e3, hx⟩ := at_int hCl (ints_at hy0)
    cases e3
    clear e1 hall hP hCl hF hbody hy0 ht
    go_enter Try.func42, Try.ntmps42
    go_wp2_with (go_at_call 57; go_must (refine (IndexFuncInt 58 #[.pointer (some ⟨w.heap.size, 0, none⟩)] eg _ _ _ _ _ (Kd.C_alloc HC.out _) (test_pred w0 _ B w.heap.size A0 c0 body s _ _ _ (HP.out.then (below_alloc (Below.refl _ _) _)) hF'.out HBd.out (by go_simp))).mono ?_); rintro e w1 ⟨rfl, hb⟩; rw [E2.out]; have hc0 := Below.old hb (a := ⟨w.heap.size, 0, none⟩) (v := .pointer (some ⟨B, 0, none⟩)) (by go_simp); have HB := Aside0.mk (Below.then (below_alloc (Below.refl _ _) _) hb); clear hb; have hc1 := Below.old HB.out hb1; have hc2 := Below.old HB.out hx)
    go_ret
    exact ⟨by rw [HT.out]; rfl, HB.out⟩
end Go.Proofs.Ythpejcnldecmoaa.H
