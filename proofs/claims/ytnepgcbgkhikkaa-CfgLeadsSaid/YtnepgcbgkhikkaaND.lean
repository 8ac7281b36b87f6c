/- Texts of this seat that its laws share, joined. -/
import Derived.Test.YtnepgcbgkhikkaaNA
import Derived.Test.YtnepgcbgkhikkaaNB
import Derived.Test.YtnepgcbgkhikkaaNC
-- made by a program of this session (wip/tools) out of the translation; Lean checks it.
namespace Go.Proofs.Ytnepgcbgkhikkaa.H
open Go.RowKit Go.Proofs.YtnepgcbgkhikkaaW.PrintWords Go.Proofs.YtnepgcbgkhikkaaW.PrintLast Go.Proofs.YtnepgcbgkhikkaaW.PrintMore
attribute [local go_sem] max2_int min2_int max_two min_two max_three min_three max_four min_four   -- for this text's walks alone
set_option linter.unusedVariables false
set_option linter.unusedSimpArgs false

/-! ### cfg_Prev: function 24 -/
def cfg_Prev.l0 : Nat → List (Stmt) → Int → List Int → Int → Int → Option (List Int)
 | 0, _, _, _, _, _ => none
 | k + 1, x0, x1, x5, x8, x9 => if x9 < x8 then ((cfg_Next.f x0 x9).bind fun t101 => ((slices_Contains_int_int.f k t101 x1).bind fun t104 => (if t104 = true then (if x5.length < 17592186044416 then (cfg_Prev.l0 k x0 x1 (x5 ++ [x9]) x8 (wrap64 (x9 + 1))) else (none)) else (cfg_Prev.l0 k x0 x1 x5 x8 (wrap64 (x9 + 1)))))) else (some x5)
def cfg_Prev.f (k : Nat) (l0 : List (Stmt)) (a1 : Int) : Option (List Int) := cfg_Prev.l0 k l0 a1 ([] : List Int) (l0.length : Int) 0
theorem cfg_Prev.mono_l : ∀ k, (∀ y0 y1 y2 y3 y4, LeO (cfg_Prev.l0 k y0 y1 y2 y3 y4) (cfg_Prev.l0 (k + 1) y0 y1 y2 y3 y4))
 | 0 => fun _ _ _ _ _ r h => by simp [cfg_Prev.l0] at h
 | k + 1 => by
  have ih0 := cfg_Prev.mono_l k
  ·intro y0 y1 y2 y3 y4
   unfold cfg_Prev.l0
   repeat' first
   | (with_reducible exact ih0 _ _ _ _ _)
   | (with_reducible exact slices_Contains_int_int.mono _ _ _)
   | (with_reducible exact LeO.refl _)
   | (with_reducible exact LeO.none _)
   | (with_reducible refine LeO.ite ?_ ?_)
   | (with_reducible refine LeO.bind ?_ (fun _ => ?_))
   | exact ih0 _ _ _ _ _
   | exact slices_Contains_int_int.mono _ _ _
   | exact LeO.none _
   | refine LeO.ite ?_ ?_
   | refine LeO.bind ?_ (fun _ => ?_)
theorem cfg_Prev.mono : ∀ a0 a1 k, LeO (cfg_Prev.f k a0 a1) (cfg_Prev.f (k + 1) a0 a1) := by
 intro a0 a1 k
 have ih0 := cfg_Prev.mono_l k
 unfold cfg_Prev.f
 repeat' first
   | (with_reducible exact ih0 _ _ _ _ _)
   | (with_reducible exact slices_Contains_int_int.mono _ _ _)
   | (with_reducible exact LeO.refl _)
   | (with_reducible exact LeO.none _)
   | (with_reducible refine LeO.ite ?_ ?_)
   | (with_reducible refine LeO.bind ?_ (fun _ => ?_))
   | exact ih0 _ _ _ _ _
   | exact slices_Contains_int_int.mono _ _ _
   | exact LeO.none _
   | refine LeO.ite ?_ ?_
   | refine LeO.bind ?_ (fun _ => ?_)
set_option maxHeartbeats 8000000 in
set_option maxRecDepth 100000 in
theorem cfg_Prev.calls (k : Nat) (A0 : Option Addr) (c0 : Nat) (l0 : List (Stmt)) (a1 : Int) (r : List Int) (w : World) (hr0 : Kd.C k30 w A0 l0.length l0) (hc0 : l0.length ≤ c0) (h : cfg_Prev.f k l0 a1 = some r) :
  Calls Try.prog 24 #[.slice A0 l0.length c0, .int .i64 a1] w fun e w' => ∃ v0_ : Value, e = .returned (v0_) ∧ Kd.R (Kd.int .i64) 3 w' w.heap.size (fun _ => True) v0_ r ∧ Below w.heap.size w w' := by
 have HR0 := Aside0.mk hr0
 have HC0 := Aside0.mk hc0
 clear hr0 hc0
 have HB := Aside0.mk (Below.refl w.heap.size w)
 have H : (cfg_Prev.l0 k l0 a1 ([] : List Int) (l0.length : Int) 0) = some r := h
 clear h
 have H' := Aside0.mk H
 clear H
 go_enter Try.func24, Try.ntmps24
 go_wp2
 go_loopg [5, 9] k (fun kq v5 v9 w' => ∃ (x5_1 : List Int) (x9_1 : Int), v9 = .int .i64 x9_1 ∧ Aside0 (cfg_Prev.l0 kq l0 a1 x5_1 (l0.length : Int) x9_1 = some r) ∧ Aside0 (kq ≤ k) ∧ Aside0 (Kd.R (Kd.int .i64) 3 w' w.heap.size (fun _ => True) v5 x5_1) ∧ Aside0 (Below w.heap.size w w'))
 case atStart => exact ⟨(([] : List Int)), (0), (by first | rfl | (simp; done) | (simp [*]; done)), H', ⟨Nat.le_refl _⟩, ⟨by first | exact Kd.R_nil _ _ _ _ _ | exact Kd.N_nil _ _ _ _ _ | exact Kd.V_nil _ _ _ _ _ | exact Kd.Q_nil _ _ _ _ _ | exact Kd.S_nil _ _ _ _ _⟩, ⟨by repeat (first | (with_reducible first | exact HB.out | apply below_alloc | apply pw_below_drewN | apply below_drew1) | exact HB.out)⟩⟩
 case round =>
  clear H'
  try clear c2
  try clear p2
  obtain ⟨x5_1, x9_1, rfl, HA, HK1, HO_5, HB⟩ := hrel
  cases gk with
  | zero => exact absurd HA.out (by simp [cfg_Prev.l0])
  | succ k1 =>
   have H := HA.out
   clear HA
   simp only [cfg_Prev.l0] at H
   by_cases c3 : x9_1 < (l0.length : Int)
   ·rw [if_pos c3] at H
    have c3b0 : decide (x9_1 < (l0.length : Int)) = true := decide_eq_true c3
    clear c3
    replace H := Option.bind_eq_some_iff.mp H
    obtain ⟨t101, A40, H⟩ := H
    replace H : ((slices_Contains_int_int.f k1 t101 a1).bind fun t104 => (if t104 = true then (if x5_1.length < 17592186044416 then (cfg_Prev.l0 k1 l0 a1 (x5_1 ++ [x9_1]) (l0.length : Int) (wrap64 (x9_1 + 1))) else (none)) else (cfg_Prev.l0 k1 l0 a1 x5_1 (l0.length : Int) (wrap64 (x9_1 + 1))))) = some r := H
    have A4 := Aside0.mk A40
    clear A40
    replace H := Option.bind_eq_some_iff.mp H
    obtain ⟨t104, A50, H⟩ := H
    replace H : (if t104 = true then (if x5_1.length < 17592186044416 then (cfg_Prev.l0 k1 l0 a1 (x5_1 ++ [x9_1]) (l0.length : Int) (wrap64 (x9_1 + 1))) else (none)) else (cfg_Prev.l0 k1 l0 a1 x5_1 (l0.length : Int) (wrap64 (x9_1 + 1)))) = some r := H
    have A5 := Aside0.mk A50
    clear A50
    by_cases c6 : t104 = true
    ·subst c6
     have H1 : (if x5_1.length < 17592186044416 then (cfg_Prev.l0 k1 l0 a1 (x5_1 ++ [x9_1]) (l0.length : Int) (wrap64 (x9_1 + 1))) else (none)) = some r := by rw [if_pos rfl] at H; exact H
     clear H
     have H := H1
     clear H1
     by_cases c7 : x5_1.length < 17592186044416
     ·rw [if_pos c7] at H
      have LMc7 := Aside0.mk c7
      clear c7
      obtain ⟨y105, hy105⟩ : ∃ y_ : List Int, y_ = (x5_1 ++ [x9_1]) := ⟨_, rfl⟩
      replace H : (cfg_Prev.l0 k1 l0 a1 y105 (l0.length : Int) (wrap64 (x9_1 + 1))) = some r := by first | (rw [hy105]; with_reducible exact H) | (have H2_ := (Option.bind_some _ _).symm.trans H; rw [hy105]; with_reducible exact H2_) | (have H2_ := (Option.bind_some _ _).symm.trans H; with_reducible exact H2_) | with_reducible exact H | (rw [hy105]; exact H) | exact H
      have Ny105 := Aside0.mk hy105
      clear hy105
      have H' := Aside0.mk H
      clear H
      go_wp2_with (first | ((with_reducible refine gate_callee (f := 19) rfl ?_); refine goesL_ (some 14) rfl rfl Try.func19 (by kernel_rfl) rfl #[.slice A0 l0.length c0, .int .i64 x9_1] rfl (by (try simp only [List.map_toArray, List.map_cons, List.map_nil]); first | done | rfl | (simp only [List.length_drop, List.length_take]; rfl)) ?_; (with_reducible refine (cfg_Next.calls _ _ l0 x9_1 t101 _ ?side1 ?side2 A4.out).mono ?_); (case side1 => repeat (first | exact (Kd.C_below HR0.out HB.out) | (with_reducible refine Kd.C_alloc ?_ _) | (with_reducible refine Kd.C_drewN ?_ _) | (with_reducible refine Kd.C_drew ?_))); (case side2 => exact HC0.out); rintro e w8 ⟨v102, rfl, ho0, hb⟩; refine ⟨_, rfl, ?_⟩; have n0_ := Aside0.mk (Kd.R_elder' (by (with_reducible repeat (first | apply Kd.R_alloc | apply Kd.R_drewN | apply Kd.R_drew)); exact HO_5.out) (Kd.R_base ho0) hb); have n1_ := Aside0.mk (Kd.R_lower (Kd.R_new' ho0 (Kd.R_lt (by (with_reducible repeat (first | apply Kd.R_alloc | apply Kd.R_drewN | apply Kd.R_drew)); exact HO_5.out))) (below_size (by repeat (first | (with_reducible first | exact HB.out | apply below_alloc | apply pw_below_drewN | apply below_drew1) | exact HB.out)))); have n2_ := Aside0.mk (below_step (by repeat (first | (with_reducible first | exact HB.out | apply below_alloc | apply pw_below_drewN | apply below_drew1) | exact HB.out)) hb); clear HO_5; clear HB; have HO_5 := n0_; have HO103 := n1_; have HB := n2_; clear n0_ n1_ n2_; (try clear hb); (try clear hb2); (try clear hk); (try clear hi); (try clear ho0); obtain ⟨Ao9, co9, eo9⟩ := Kd.R_slice HO103.out; subst eo9) | ((with_reducible refine gate_callee (f := 52) rfl ?_); refine goesL_ (some 16) rfl rfl Try.func52 (by kernel_rfl) rfl #[.slice Ao9 t101.length co9, .int .i64 a1] rfl (by (try simp only [List.map_toArray, List.map_cons, List.map_nil]); first | done | rfl | (simp only [List.length_drop, List.length_take]; rfl)) ?_; (with_reducible refine (slices_Contains_int_int.calls k1 _ _ t101 a1 true _ ?side1 ?side2 A5.out).mono ?_); (case side1 => repeat (first | exact (Kd.R_reads' HO103.out).2.2 | (with_reducible refine Kd.C_alloc ?_ _) | (with_reducible refine Kd.C_drewN ?_ _) | (with_reducible refine Kd.C_drew ?_))); (case side2 => exact (Kd.R_reads' HO103.out).2.1); rintro e w' ⟨rfl, ⟨nd, rfl⟩⟩; refine ⟨_, rfl, ?_⟩) | ((with_reducible refine gate_builtin (b := .append) (xs := #[.tmp 17, .tmp 19]) rfl ?_); at_builtin; refine Kd.R_append (Kd.int .i64) (w0 := w) w.heap.size rfl (.tmp 17) (.tmp 19) 25 3 (.int .i64 0) 8 rfl Try.underlying25 info3 rfl (by decide) (by omega) u5 x5_1 x9_1 [.int .i64 x9_1] (fun k_ => some k_ ≠ (.slice Ao9 t101.length co9 : Value).ownBlock) (fun _ => False) rfl rfl ?aP (fun _ hk => hk.elim) ?aF ?aO ?aB ?aS ?aL ?_; (case aP => exact rfl); (case aB => exact (by repeat (first | (with_reducible first | exact HB.out | apply below_alloc | apply pw_below_drewN | apply below_drew1) | exact HB.out))); (case aF => exact (fun k_ hk => Kd.fresh' (Kd.R_lt (by (with_reducible repeat (first | apply Kd.R_alloc | apply Kd.R_drewN | apply Kd.R_drew)); exact HO103.out)) k_ hk)); (case aO => exact (by (with_reducible repeat (first | apply Kd.R_alloc | apply Kd.R_drewN | apply Kd.R_drew)); exact Kd.R_mono HO_5.out (fun _ hk => hk.2))); (case aS => exact (below_size (by repeat (first | (with_reducible first | exact HB.out | apply below_alloc | apply pw_below_drewN | apply below_drew1) | exact HB.out)))); (case aL => have := LMc7.out; omega); intro v106 w10 ho hb hg hat; rw [← Ny105.out] at ho; have n0_ := Aside0.mk (Kd.R_after (ok := (fun _ => True)) (by (with_reducible repeat (first | apply Kd.R_alloc | apply Kd.R_drewN | apply Kd.R_drew)); exact HO103.out) hg hat); have n1_ := Aside0.mk (hb); have n2_ := Aside0.mk (ho); clear HO103; clear HB; clear HO_5; have HO103 := n0_; have HB := n1_; have HO107 := n2_; clear n0_ n1_ n2_; clear ho hb hg hat))
      go_roundg k1
      case measure => have := HK1.out; omega
      case rel => exact ⟨(y105), (wrap64 (x9_1 + 1)), (by first | rfl | (simp; done) | (simp [*]; done)), H', ⟨by have := HK1.out; omega⟩, ⟨by (with_reducible repeat (first | apply Kd.R_alloc | apply Kd.R_drewN | apply Kd.R_drew)); exact Kd.R_mono HO107.out (fun _ hk => trivial)⟩, ⟨by repeat (first | (with_reducible first | exact HB.out | apply below_alloc | apply pw_below_drewN | apply below_drew1) | exact HB.out)⟩⟩
     ·rw [if_neg c7] at H
      exact absurd H (by simp)
    ·replace c6 := Bool.eq_false_iff.mpr c6
     subst c6
     have H1 : (cfg_Prev.l0 k1 l0 a1 x5_1 (l0.length : Int) (wrap64 (x9_1 + 1))) = some r := by rw [if_neg (show ¬ (false = true) by decide)] at H; exact H
     clear H
     have H := H1
     clear H1
     have H' := Aside0.mk H
     clear H
     go_wp2_with (first | ((with_reducible refine gate_callee (f := 19) rfl ?_); refine goesL_ (some 14) rfl rfl Try.func19 (by kernel_rfl) rfl #[.slice A0 l0.length c0, .int .i64 x9_1] rfl (by (try simp only [List.map_toArray, List.map_cons, List.map_nil]); first | done | rfl | (simp only [List.length_drop, List.length_take]; rfl)) ?_; (with_reducible refine (cfg_Next.calls _ _ l0 x9_1 t101 _ ?side1 ?side2 A4.out).mono ?_); (case side1 => repeat (first | exact (Kd.C_below HR0.out HB.out) | (with_reducible refine Kd.C_alloc ?_ _) | (with_reducible refine Kd.C_drewN ?_ _) | (with_reducible refine Kd.C_drew ?_))); (case side2 => exact HC0.out); rintro e w11 ⟨v102, rfl, ho0, hb⟩; refine ⟨_, rfl, ?_⟩; have n0_ := Aside0.mk (Kd.R_elder' (by (with_reducible repeat (first | apply Kd.R_alloc | apply Kd.R_drewN | apply Kd.R_drew)); exact HO_5.out) (Kd.R_base ho0) hb); have n1_ := Aside0.mk (Kd.R_lower (Kd.R_new' ho0 (Kd.R_lt (by (with_reducible repeat (first | apply Kd.R_alloc | apply Kd.R_drewN | apply Kd.R_drew)); exact HO_5.out))) (below_size (by repeat (first | (with_reducible first | exact HB.out | apply below_alloc | apply pw_below_drewN | apply below_drew1) | exact HB.out)))); have n2_ := Aside0.mk (below_step (by repeat (first | (with_reducible first | exact HB.out | apply below_alloc | apply pw_below_drewN | apply below_drew1) | exact HB.out)) hb); clear HO_5; clear HB; have HO_5 := n0_; have HO103 := n1_; have HB := n2_; clear n0_ n1_ n2_; (try clear hb); (try clear hb2); (try clear hk); (try clear hi); (try clear ho0); obtain ⟨Ao12, co12, eo12⟩ := Kd.R_slice HO103.out; subst eo12) | ((with_reducible refine gate_callee (f := 52) rfl ?_); refine goesL_ (some 16) rfl rfl Try.func52 (by kernel_rfl) rfl #[.slice Ao12 t101.length co12, .int .i64 a1] rfl (by (try simp only [List.map_toArray, List.map_cons, List.map_nil]); first | done | rfl | (simp only [List.length_drop, List.length_take]; rfl)) ?_; (with_reducible refine (slices_Contains_int_int.calls k1 _ _ t101 a1 false _ ?side1 ?side2 A5.out).mono ?_); (case side1 => repeat (first | exact (Kd.R_reads' HO103.out).2.2 | (with_reducible refine Kd.C_alloc ?_ _) | (with_reducible refine Kd.C_drewN ?_ _) | (with_reducible refine Kd.C_drew ?_))); (case side2 => exact (Kd.R_reads' HO103.out).2.1); rintro e w' ⟨rfl, ⟨nd, rfl⟩⟩; refine ⟨_, rfl, ?_⟩))
     go_roundg k1
     case measure => have := HK1.out; omega
     case rel => exact ⟨(x5_1), (wrap64 (x9_1 + 1)), (by first | rfl | (simp; done) | (simp [*]; done)), H', ⟨by have := HK1.out; omega⟩, ⟨by (with_reducible repeat (first | apply Kd.R_alloc | apply Kd.R_drewN | apply Kd.R_drew)); exact Kd.R_mono HO_5.out (fun _ hk => trivial)⟩, ⟨by repeat (first | (with_reducible first | exact HB.out | apply below_alloc | apply pw_below_drewN | apply below_drew1) | exact HB.out)⟩⟩
   ·rw [if_neg c3] at H
    have c3b0 : decide (x9_1 < (l0.length : Int)) = false := decide_eq_false c3
    clear c3
    obtain rfl := Option.some.inj H
    go_wp2
    go_ret
    exact ⟨_, by first | rfl | (simp [errW_none, errW_some] <;> rfl) | (simp [*, errW_none, errW_some] <;> rfl), by (with_reducible repeat (first | apply Kd.R_alloc | apply Kd.R_drewN | apply Kd.R_drew)); exact HO_5.out, by repeat (first | (with_reducible first | exact HB.out | apply below_alloc | apply pw_below_drewN | apply below_drew1) | exact HB.out)⟩

end Go.Proofs.Ytnepgcbgkhikkaa.H
namespace Go.Proofs.Ytnepgcbgkhikkaa.H
open Go.RowKit Go.Proofs.YtnepgcbgkhikkaaW.PrintWords
set_option linter.unusedVariables false
set_option linter.unusedSimpArgs false
/-! ### sorted -/
theorem srt1 (a : Int) : compactI (sortI [a]) = [a] := by
  simp [compactI, sortI, Go.Lib.compact, Go.Lib.compactUpTo, Go.Lib.keeps, List.filter, List.range_succ]
theorem sort2 (a b : Int) : sortI [a, b] = if a ≤ b then [a, b] else [b, a] := by
  unfold sortI
  by_cases h : a ≤ b
  · rw [if_pos h]
    apply List.mergeSort_of_pairwise
    simp [h]
  · rw [if_neg h]
    have hp := List.mergeSort_perm [a, b] (fun x y => decide (x ≤ y))
    have hs := List.pairwise_mergeSort (le := fun x y : Int => decide (x ≤ y)) (by intro a b c; simp; omega) (by intro a b; simp; omega) [a, b]
    refine List.Perm.eq_of_pairwise (le := fun x y => decide (x ≤ y) = true) ?_ hs ?_ (hp.trans (List.Perm.swap _ _ _))
    · intro x y _ _ h1 h2; simp at h1 h2; omega
    · simp; omega
def srtI2 (a b : Int) : List Int := if a < b then [a, b] else if a = b then [a] else [b, a]
theorem srt2 (a b : Int) : compactI (sortI [a, b]) = srtI2 a b := by
  rw [sort2, srtI2]
  by_cases h : a ≤ b
  · rw [if_pos h]
    by_cases h1 : a = b
    · subst h1; simp [compactI, Go.Lib.compact, Go.Lib.compactUpTo, Go.Lib.keeps, List.filter, List.range_succ]
    · have : ¬ b = a := fun e => h1 e.symm
      simp [compactI, Go.Lib.compact, Go.Lib.compactUpTo, Go.Lib.keeps, List.filter, List.range_succ, show a < b by omega, h1, this]
  · have h1 : ¬ a = b := by omega
    have h2 : ¬ b = a := by omega
    rw [if_neg h]; simp [compactI, Go.Lib.compact, Go.Lib.compactUpTo, Go.Lib.keeps, List.filter, List.range_succ, show ¬ a < b by omega, h1, h2]
theorem sortedI1 (a : Int) : cfg_sorted_int.f [a] = some [a] := by
  simp [cfg_sorted_int.f, slices_Clone_int_int.f, slices_Sort_int_int.f, slices_Compact_int_int.f, srt1]
theorem sortedI2 (a b : Int) : cfg_sorted_int.f [a, b] = some (srtI2 a b) := by
  simp [cfg_sorted_int.f, slices_Clone_int_int.f, slices_Sort_int_int.f, slices_Compact_int_int.f, srt2]
theorem srtS1 (a : ByteArray) : compactS (sortS [a]) = [a] := by
  simp [compactS, sortS, Go.Lib.compact, Go.Lib.compactUpTo, Go.Lib.keeps, List.filter, List.range_succ, ofL_toL, toL_ofL]
/-! ### where a statement leads -/
def nxtRaw (st : Stmt) (n : Int) : List Int := if st.kind = 7 then srtI2 st.a st.b else if st.kind = 8 then [st.a] else if st.kind = 9 then [] else [wrap64 (n + 1)]
def at_ (s : List Stmt) (n : Int) : Stmt := rd_T30 s n
def nxt (s : List Stmt) (n : Int) : List Int := if 0 ≤ n ∧ n < (s.length : Int) then (nxtRaw (at_ s n) n).filter (withinB s.length) else []
theorem Next_eq (s : List Stmt) (n : Int) : cfg_Next.f s n = some (nxt s n) := by
  unfold cfg_Next.f nxt
  rw [within_eq]
  by_cases h0 : 0 ≤ n
  · by_cases h1 : n < (s.length : Int)
    · rw [if_pos (show 0 ≤ n ∧ n < (s.length : Int) from ⟨h0, h1⟩), show withinB s.length n = true by simp [withinB, h0, h1]]
      simp only [Option.bind_some, if_true, if_pos h0, if_pos h1, sortedI1, sortedI2, GNextDel.f]
      change _ = some (List.filter (withinB s.length) (nxtRaw (rd_T30 s n) n))
      unfold nxtRaw
      by_cases k7 : (rd_T30 s n).kind = 7
      · rw [if_pos k7, if_pos k7]
      · rw [if_neg k7, if_neg k7]
        by_cases k8 : (rd_T30 s n).kind = 8
        · rw [if_pos k8, if_pos k8]
        · rw [if_neg k8, if_neg k8]
          by_cases k9 : (rd_T30 s n).kind = 9
          · rw [if_pos k9, if_pos k9]
          · rw [if_neg k9, if_neg k9]
    · rw [if_neg (show ¬ (0 ≤ n ∧ n < (s.length : Int)) from fun h => h1 h.2), show withinB s.length n = false by simp [withinB, h1]]
      simp
  · rw [if_neg (show ¬ (0 ≤ n ∧ n < (s.length : Int)) from fun h => h0 h.1), show withinB s.length n = false by simp [withinB, h0]]
    simp
theorem nxt_within {s : List Stmt} {n m : Int} (h : m ∈ nxt s n) : 0 ≤ m ∧ m < (s.length : Int) ∧ 0 ≤ n ∧ n < (s.length : Int) := by
  unfold nxt at h
  split at h
  case isFalse => simp at h
  rename_i hn
  have := (List.mem_filter.1 h).2
  simp [withinB] at this
  omega
theorem nxt_len (s : List Stmt) (n : Int) : (nxt s n).length ≤ 2 := by
  unfold nxt
  split
  · refine Nat.le_trans (List.length_filter_le _ _) ?_
    unfold nxtRaw srtI2
    repeat' split
    all_goals simp
  · simp
theorem nxt_inc (s : List Stmt) (n : Int) : (nxt s n).Pairwise (· < ·) := by
  unfold nxt
  split
  · refine List.Pairwise.filter _ ?_
    unfold nxtRaw srtI2
    repeat' split
    all_goals simp
    all_goals omega
  · simp
def prv (s : List Stmt) (n : Int) : List Int := ((List.range s.length).map fun m : Nat => (m : Int)).filter fun m => decide (n ∈ nxt s m)
theorem mem_prv {s : List Stmt} {n m : Int} : m ∈ prv s n ↔ n ∈ nxt s m := by
  unfold prv
  rw [List.mem_filter]
  constructor
  · rintro ⟨-, h⟩; simpa using h
  · intro h
    have hw := nxt_within h
    exact ⟨List.mem_map.2 ⟨m.toNat, List.mem_range.2 (by omega), by omega⟩, by simpa using h⟩
theorem prv_len (s : List Stmt) (n : Int) : (prv s n).length ≤ s.length := by
  unfold prv
  exact Nat.le_trans (List.length_filter_le _ _) (by simp)
theorem Prev_l0 (s : List Stmt) (n : Int) (hs : s.length ≤ 1000000) : ∀ (d i : Nat) (acc : List Int), i + d = s.length → acc.length ≤ i →
    Ev (fun k => cfg_Prev.l0 k s n acc (s.length : Int) i) (acc ++ (((List.range' i d).map fun m : Nat => (m : Int)).filter fun m => decide (n ∈ nxt s m)))
  | 0, i, acc, e, ha => by
    refine Ev.step (fun k => by rw [cfg_Prev.l0]) ?_
    exact Ev.neg (by omega) (Ev.some (by simp))
  | d + 1, i, acc, e, ha => by
    refine Ev.step (fun k => by rw [cfg_Prev.l0]) ?_
    refine Ev.pos (by omega) (Ev.pure (Next_eq s i) (Ev.bind (ContainsI_ev _ _ (by have := nxt_len s i; omega)) ?_))
    rw [wrap_up (by omega)]
    by_cases c : n ∈ nxt s i
    · rw [decide_eq_true c]
      exact Ev.pos rfl (Ev.pos (by omega) (Ev.iff (Prev_l0 s n hs d (i + 1) _ (by omega) (by simp; omega)) (by simp [List.range'_succ, c])))
    · rw [decide_eq_false c]
      exact Ev.neg (by simp) (Ev.iff (Prev_l0 s n hs d (i + 1) _ (by omega) (by omega)) (by simp [List.range'_succ, c]))
theorem Prev_ev (s : List Stmt) (n : Int) (hs : s.length ≤ 1000000) : Ev (fun k => cfg_Prev.f k s n) (prv s n) :=
  Ev.iff (Prev_l0 s n hs s.length 0 [] (by omega) (by simp)) (by simp [prv, List.range_eq_range'])
/-! ### ways -/
inductive Rch (s : List Stmt) (on : Int → Bool) (fr : List Int) : Int → Prop
  | base {n : Int} : n ∈ fr → Rch s on fr n
  | step {m n : Int} : Rch s on fr m → on m = true → n ∈ nxt s m → Rch s on fr n
theorem count_set {l : List Bool} {i : Nat} (h : l[i]? = some false) : (l.set i true).count false + 1 = l.count false := by
  obtain ⟨hi, he⟩ := List.getElem?_eq_some_iff.1 h
  rw [List.count_set hi, he]
  have : 0 < l.count false := List.count_pos_iff.2 (he ▸ List.getElem_mem hi)
  simp
  omega
theorem ways_l0 (s : List Stmt) (on : OnFn) (onB : Int → Bool) (hon : ∀ m : Int, 0 ≤ m → m < (s.length : Int) → on m = some (onB m)) (fr : List Int) (hfr : ∀ f ∈ fr, 0 ≤ f ∧ f < (s.length : Int)) : ∀ (M : Nat) (seen : List Bool) (todo : List Int),
    3 * seen.count false + todo.length ≤ M → M ≤ 1000000 → seen.length = s.length → (∀ t ∈ todo, 0 ≤ t ∧ t < (s.length : Int) ∧ Rch s onB fr t) → (∀ i : Nat, seen[i]? = some true → Rch s onB fr i) →
    (∀ f ∈ fr, f ∈ todo ∨ seen[f.toNat]? = some true) → (∀ i : Nat, seen[i]? = some true → onB i = true → ∀ j ∈ nxt s i, j ∈ todo ∨ seen[j.toNat]? = some true) →
    ∃ r, Ev (fun k => cfg_ways.l0 k s on seen todo) r ∧ r.length = s.length ∧ ∀ i : Nat, (r[i]? = some true ↔ Rch s onB fr i)
  | M, seen, [], hM, hm, hl, ht, h1, h2, h3 => by
    refine ⟨seen, Ev.step (fun k => by rw [cfg_ways.l0]) (Ev.neg (by simp) (Ev.now _)), hl, fun i => ⟨h1 i, fun h => ?_⟩⟩
    have key : ∀ n : Int, Rch s onB fr n → 0 ≤ n ∧ seen[n.toNat]? = some true := by
      intro n hn
      induction hn with
      | base hf =>
        rcases h2 _ hf with h | h
        · simp at h
        · exact ⟨(hfr _ hf).1, h⟩
      | step _ ho hj ih =>
        rename_i m n _
        have hw := nxt_within hj
        obtain ⟨i0, rfl⟩ : ∃ q : Nat, m = (q : Int) := ⟨m.toNat, by omega⟩
        rw [Int.toNat_natCast] at ih
        rcases h3 _ ih.2 ho _ hj with h | h
        · simp at h
        · exact ⟨hw.1, h⟩
    have := (key i h).2
    rwa [Int.toNat_natCast] at this
  | 0, seen, n :: t, hM, hm, hl, ht, h1, h2, h3 => by simp at hM
  | M + 1, seen, n :: t, hM, hm, hl, ht, h1, h2, h3 => by
    obtain ⟨hn0, hn1, hnR⟩ := ht n (by simp)
    obtain ⟨i, rfl⟩ : ∃ q : Nat, n = (q : Int) := ⟨n.toNat, by omega⟩
    have hi : i < seen.length := by omega
    have hlen : t.length + 1 + 3 * seen.count false ≤ M + 1 := by simp at hM; omega
    have go : ∀ {r : List Bool} {c : Bool}, seen[i]? = some c → (c = true → Ev (fun k => cfg_ways.l0 k s on seen t) r) → (c = false → onB i = true → Ev (fun k => cfg_ways.l0 k s on (seen.set i true) (t ++ nxt s i)) r) → (c = false → onB i = false → Ev (fun k => cfg_ways.l0 k s on (seen.set i true) t) r) → Ev (fun k => cfg_ways.l0 k s on seen ((i : Int) :: t)) r := by
      intro r c hc k1 k2 k3
      refine Ev.step (fun k => by rw [cfg_ways.l0]) ?_
      have e0 : rd ((i : Int) :: t) 0 = (i : Int) := rfl
      refine Ev.pos (by simp <;> omega) (Ev.pos (by simp <;> omega) (Ev.pos (by simp <;> omega) ?_))
      refine Ev.pure rfl ?_
      rw [e0]
      refine Ev.pos (by omega) (Ev.pos (by omega) ?_)
      rw [show rdOf false seen (i : Int) = c from getD_at hc _]
      cases c with
      | true => exact Ev.pos rfl (k1 rfl)
      | false =>
        refine Ev.neg (by simp) (Ev.pure rfl (Ev.pure (hon i (by omega) (by omega)) ?_))
        cases ho : onB i with
        | true =>
          refine Ev.pos rfl (Ev.pure (Next_eq s i) (Ev.pos ?_ (k2 rfl ho)))
          have := nxt_len s i
          simp
          omega
        | false => exact Ev.neg (by simp) (k3 rfl ho)
    cases hc : seen[i]? with
    | none => rw [List.getElem?_eq_none_iff] at hc; omega
    | some c =>
      cases c with
      | true =>
        have b1 : ∀ f ∈ fr, f ∈ t ∨ seen[f.toNat]? = some true := by
          intro f hf
          rcases h2 f hf with h | h
          · rcases List.mem_cons.1 h with h | h
            · exact .inr (by rw [h, Int.toNat_natCast]; exact hc)
            · exact .inl h
          · exact .inr h
        have b2 : ∀ j : Nat, seen[j]? = some true → onB j = true → ∀ q ∈ nxt s j, q ∈ t ∨ seen[q.toNat]? = some true := by
          intro j hj ho q hq
          rcases h3 j hj ho q hq with h | h
          · rcases List.mem_cons.1 h with h | h
            · exact .inr (by rw [h, Int.toNat_natCast]; exact hc)
            · exact .inl h
          · exact .inr h
        obtain ⟨r, hr, hrl, hri⟩ := ways_l0 s on onB hon fr hfr M seen t (by omega) (by omega) hl (fun x hx => ht x (by simp [hx])) h1 b1 b2
        exact ⟨r, go hc (fun _ => hr) (by simp) (by simp), hrl, hri⟩
      | false =>
        have hcs := count_set hc
        have set_at : ∀ j : Nat, (seen.set i true)[j]? = some true ↔ j = i ∨ seen[j]? = some true := by
          intro j
          rw [List.getElem?_set]
          by_cases e : i = j
          · subst e; simp [hi]
          · have e' : ¬ j = i := fun h => e h.symm
            simp [e, e']
        have hsR : ∀ j : Nat, (seen.set i true)[j]? = some true → Rch s onB fr j := by
          intro j hj
          rcases (set_at j).1 hj with rfl | hj
          · exact hnR
          · exact h1 j hj
        cases ho : onB i with
        | true =>
          have hnl := nxt_len s i
          have b0 : ∀ x ∈ t ++ nxt s i, 0 ≤ x ∧ x < (s.length : Int) ∧ Rch s onB fr x := by
            intro x hx
            rcases List.mem_append.1 hx with hx | hx
            · exact ht x (by simp [hx])
            · have hw := nxt_within hx
              exact ⟨hw.1, hw.2.1, .step hnR ho hx⟩
          have b1 : ∀ f ∈ fr, f ∈ t ++ nxt s i ∨ (seen.set i true)[f.toNat]? = some true := by
            intro f hf
            rcases h2 f hf with h | h
            · rcases List.mem_cons.1 h with h | h
              · exact .inr ((set_at _).2 (.inl (by rw [h, Int.toNat_natCast])))
              · exact .inl (by simp [h])
            · exact .inr ((set_at _).2 (.inr h))
          have b2 : ∀ j : Nat, (seen.set i true)[j]? = some true → onB j = true → ∀ q ∈ nxt s j, q ∈ t ++ nxt s i ∨ (seen.set i true)[q.toNat]? = some true := by
            intro j hj hoj q hq
            rcases (set_at j).1 hj with rfl | hj
            · exact .inl (by simp [hq])
            · rcases h3 j hj hoj q hq with h | h
              · rcases List.mem_cons.1 h with h | h
                · exact .inr ((set_at _).2 (.inl (by rw [h, Int.toNat_natCast])))
                · exact .inl (by simp [h])
              · exact .inr ((set_at _).2 (.inr h))
          obtain ⟨r, hr, hrl, hri⟩ := ways_l0 s on onB hon fr hfr M (seen.set i true) (t ++ nxt s i) (by simp; omega) (by omega) (by simpa using hl) b0 hsR b1 b2
          exact ⟨r, go hc (by simp) (fun _ _ => hr) (by simp [ho]), hrl, hri⟩
        | false =>
          have b1 : ∀ f ∈ fr, f ∈ t ∨ (seen.set i true)[f.toNat]? = some true := by
            intro f hf
            rcases h2 f hf with h | h
            · rcases List.mem_cons.1 h with h | h
              · exact .inr ((set_at _).2 (.inl (by rw [h, Int.toNat_natCast])))
              · exact .inl h
            · exact .inr ((set_at _).2 (.inr h))
          have b2 : ∀ j : Nat, (seen.set i true)[j]? = some true → onB j = true → ∀ q ∈ nxt s j, q ∈ t ∨ (seen.set i true)[q.toNat]? = some true := by
            intro j hj hoj q hq
            rcases (set_at j).1 hj with rfl | hj
            · simp [ho] at hoj
            · rcases h3 j hj hoj q hq with h | h
              · rcases List.mem_cons.1 h with h | h
                · exact .inr ((set_at _).2 (.inl (by rw [h, Int.toNat_natCast])))
                · exact .inl h
              · exact .inr ((set_at _).2 (.inr h))
          obtain ⟨r, hr, hrl, hri⟩ := ways_l0 s on onB hon fr hfr M (seen.set i true) t (by omega) (by omega) (by simpa using hl) (fun x hx => ht x (by simp [hx])) hsR b1 b2
          exact ⟨r, go hc (by simp) (by simp [ho]) (fun _ _ => hr), hrl, hri⟩
theorem ways_ev (s : List Stmt) (on : OnFn) (onB : Int → Bool) (hon : ∀ m : Int, 0 ≤ m → m < (s.length : Int) → on m = some (onB m)) (fr : List Int) (hfr : ∀ f ∈ fr, 0 ≤ f ∧ f < (s.length : Int)) (hs : s.length ≤ 1000) (hl : fr.length ≤ 1000) :
    ∃ r, Ev (fun k => cfg_ways.f k s fr on) r ∧ r.length = s.length ∧ ∀ i : Nat, (r[i]? = some true ↔ Rch s onB fr i) := by
  obtain ⟨r, hr, h⟩ := ways_l0 s on onB hon fr hfr 10000 (List.replicate s.length false) fr (by simp; omega) (by omega) (by simp) (fun t ht => ⟨(hfr t ht).1, (hfr t ht).2, .base ht⟩) (fun i hi => by simp [List.getElem?_replicate] at hi) (fun f hf => .inl hf) (fun i hi => by simp [List.getElem?_replicate] at hi)
  refine ⟨r, ?_, h⟩
  unfold cfg_ways.f
  refine Ev.pos (by omega) (Ev.pos (by omega) (Ev.pure (a := fr) (by unfold slices_Clone_int_int.f; rw [if_pos (by omega)]) ?_))
  rwa [Int.toNat_natCast]
end Go.Proofs.Ytnepgcbgkhikkaa.H
-- made by a program of this session (wip/tools) out of the translation; Lean checks it.
namespace Go.Proofs.Ytnepgcbgkhikkaa.H
open Go.RowKit Go.Proofs.YtnepgcbgkhikkaaW.PrintWords Go.Proofs.YtnepgcbgkhikkaaW.PrintLast Go.Proofs.YtnepgcbgkhikkaaW.PrintMore
attribute [local go_sem] max2_int min2_int max_two min_two max_three min_three max_four min_four   -- for this text's walks alone
set_option linter.unusedVariables false
set_option linter.unusedSimpArgs false

/-! ### lambrequinlaw20_shown: function 17 -/
def lambrequinlaw20_shown.f (k : Nat)  : Option (Bool) := (some (([(⟨1, (⟨#[120]⟩ : ByteArray), (⟨#[]⟩ : ByteArray), (⟨#[]⟩ : ByteArray), (⟨#[]⟩ : ByteArray), 1, 0, 0⟩ : Stmt), (⟨6, (⟨#[]⟩ : ByteArray), (⟨#[120]⟩ : ByteArray), (⟨#[]⟩ : ByteArray), (⟨#[]⟩ : ByteArray), 0, 0, 0⟩ : Stmt), (⟨9, (⟨#[]⟩ : ByteArray), (⟨#[]⟩ : ByteArray), (⟨#[]⟩ : ByteArray), (⟨#[]⟩ : ByteArray), 0, 0, 0⟩ : Stmt)] : List (Stmt)) : List (Stmt))).bind fun y101 => ((cfg_Reaches.f k y101 1 (⟨#[120]⟩ : ByteArray) 0).bind fun t104 => (if t104 = true then ((cfg_Reaches.f k y101 2 (⟨#[120]⟩ : ByteArray) 0).bind fun t105 => (if t105 = true then ((cfg_Reaches.f k y101 0 (⟨#[120]⟩ : ByteArray) 0).bind fun t106 => (if t106 = true then (some false) else ((cfg_Lives.f k y101 1 (⟨#[120]⟩ : ByteArray)).bind fun t107 => (if t107 = true then ((cfg_Lives.f k y101 0 (⟨#[120]⟩ : ByteArray)).bind fun t108 => (if t108 = true then (some false) else ((cfg_Lives.f k y101 2 (⟨#[120]⟩ : ByteArray)).bind fun t109 => (if t109 = true then (some false) else ((cfg_Next.f y101 1).bind fun t110 => ((lambrequinref10_Ints.f k t110 (([2] : List Int))).bind fun t116 => (some t116))))))) else (some false))))) else (some false))) else (some false)))
theorem lambrequinlaw20_shown.mono : ∀ k, LeO (lambrequinlaw20_shown.f k ) (lambrequinlaw20_shown.f (k + 1) ) := by
 intro  k
 unfold lambrequinlaw20_shown.f
 repeat' first
   | (with_reducible exact cfg_Lives.mono _ _ _ _)
   | (with_reducible exact cfg_Reaches.mono _ _ _ _ _)
   | (with_reducible exact lambrequinref10_Ints.mono _ _ _)
   | (with_reducible exact LeO.refl _)
   | (with_reducible exact LeO.none _)
   | (with_reducible refine LeO.ite ?_ ?_)
   | (with_reducible refine LeO.bind ?_ (fun _ => ?_))
   | exact cfg_Lives.mono _ _ _ _
   | exact cfg_Reaches.mono _ _ _ _ _
   | exact lambrequinref10_Ints.mono _ _ _
   | exact LeO.none _
   | refine LeO.ite ?_ ?_
   | refine LeO.bind ?_ (fun _ => ?_)
set_option maxHeartbeats 8000000 in
set_option maxRecDepth 100000 in
theorem lambrequinlaw20_shown.calls (k : Nat)  (r : Bool) (w : World) (h : lambrequinlaw20_shown.f k  = some r) :
  Calls Try.prog 17 #[] w fun e w' => e = .returned (.bool r) ∧ Below w.heap.size w w' := by
 have hu30 := Try.underlying30
 have HB := Aside0.mk (Below.refl w.heap.size w)
 have H : ((some (([(⟨1, (⟨#[120]⟩ : ByteArray), (⟨#[]⟩ : ByteArray), (⟨#[]⟩ : ByteArray), (⟨#[]⟩ : ByteArray), 1, 0, 0⟩ : Stmt), (⟨6, (⟨#[]⟩ : ByteArray), (⟨#[120]⟩ : ByteArray), (⟨#[]⟩ : ByteArray), (⟨#[]⟩ : ByteArray), 0, 0, 0⟩ : Stmt), (⟨9, (⟨#[]⟩ : ByteArray), (⟨#[]⟩ : ByteArray), (⟨#[]⟩ : ByteArray), (⟨#[]⟩ : ByteArray), 0, 0, 0⟩ : Stmt)] : List (Stmt)) : List (Stmt))).bind fun y101 => ((cfg_Reaches.f k y101 1 (⟨#[120]⟩ : ByteArray) 0).bind fun t104 => (if t104 = true then ((cfg_Reaches.f k y101 2 (⟨#[120]⟩ : ByteArray) 0).bind fun t105 => (if t105 = true then ((cfg_Reaches.f k y101 0 (⟨#[120]⟩ : ByteArray) 0).bind fun t106 => (if t106 = true then (some false) else ((cfg_Lives.f k y101 1 (⟨#[120]⟩ : ByteArray)).bind fun t107 => (if t107 = true then ((cfg_Lives.f k y101 0 (⟨#[120]⟩ : ByteArray)).bind fun t108 => (if t108 = true then (some false) else ((cfg_Lives.f k y101 2 (⟨#[120]⟩ : ByteArray)).bind fun t109 => (if t109 = true then (some false) else ((cfg_Next.f y101 1).bind fun t110 => ((lambrequinref10_Ints.f k t110 (([2] : List Int))).bind fun t116 => (some t116))))))) else (some false))))) else (some false))) else (some false)))) = some r := h
 clear h
 obtain ⟨y101, hy101⟩ : ∃ y_ : List (Stmt), y_ = (([(⟨1, (⟨#[120]⟩ : ByteArray), (⟨#[]⟩ : ByteArray), (⟨#[]⟩ : ByteArray), (⟨#[]⟩ : ByteArray), 1, 0, 0⟩ : Stmt), (⟨6, (⟨#[]⟩ : ByteArray), (⟨#[120]⟩ : ByteArray), (⟨#[]⟩ : ByteArray), (⟨#[]⟩ : ByteArray), 0, 0, 0⟩ : Stmt), (⟨9, (⟨#[]⟩ : ByteArray), (⟨#[]⟩ : ByteArray), (⟨#[]⟩ : ByteArray), (⟨#[]⟩ : ByteArray), 0, 0, 0⟩ : Stmt)] : List (Stmt))) := ⟨_, rfl⟩
 replace H : ((cfg_Reaches.f k y101 1 (⟨#[120]⟩ : ByteArray) 0).bind fun t104 => (if t104 = true then ((cfg_Reaches.f k y101 2 (⟨#[120]⟩ : ByteArray) 0).bind fun t105 => (if t105 = true then ((cfg_Reaches.f k y101 0 (⟨#[120]⟩ : ByteArray) 0).bind fun t106 => (if t106 = true then (some false) else ((cfg_Lives.f k y101 1 (⟨#[120]⟩ : ByteArray)).bind fun t107 => (if t107 = true then ((cfg_Lives.f k y101 0 (⟨#[120]⟩ : ByteArray)).bind fun t108 => (if t108 = true then (some false) else ((cfg_Lives.f k y101 2 (⟨#[120]⟩ : ByteArray)).bind fun t109 => (if t109 = true then (some false) else ((cfg_Next.f y101 1).bind fun t110 => ((lambrequinref10_Ints.f k t110 (([2] : List Int))).bind fun t116 => (some t116))))))) else (some false))))) else (some false))) else (some false))) = some r := by first | (rw [hy101]; with_reducible exact H) | (have H2_ := (Option.bind_some _ _).symm.trans H; rw [hy101]; with_reducible exact H2_) | (have H2_ := (Option.bind_some _ _).symm.trans H; with_reducible exact H2_) | with_reducible exact H | (rw [hy101]; exact H) | exact H
 have Ny101 := Aside0.mk hy101
 clear hy101
 replace H := Option.bind_eq_some_iff.mp H
 obtain ⟨t104, A10, H⟩ := H
 replace H : (if t104 = true then ((cfg_Reaches.f k y101 2 (⟨#[120]⟩ : ByteArray) 0).bind fun t105 => (if t105 = true then ((cfg_Reaches.f k y101 0 (⟨#[120]⟩ : ByteArray) 0).bind fun t106 => (if t106 = true then (some false) else ((cfg_Lives.f k y101 1 (⟨#[120]⟩ : ByteArray)).bind fun t107 => (if t107 = true then ((cfg_Lives.f k y101 0 (⟨#[120]⟩ : ByteArray)).bind fun t108 => (if t108 = true then (some false) else ((cfg_Lives.f k y101 2 (⟨#[120]⟩ : ByteArray)).bind fun t109 => (if t109 = true then (some false) else ((cfg_Next.f y101 1).bind fun t110 => ((lambrequinref10_Ints.f k t110 (([2] : List Int))).bind fun t116 => (some t116))))))) else (some false))))) else (some false))) else (some false)) = some r := H
 have A1 := Aside0.mk A10
 clear A10
 by_cases c2 : t104 = true
 ·subst c2
  have H1 : ((cfg_Reaches.f k y101 2 (⟨#[120]⟩ : ByteArray) 0).bind fun t105 => (if t105 = true then ((cfg_Reaches.f k y101 0 (⟨#[120]⟩ : ByteArray) 0).bind fun t106 => (if t106 = true then (some false) else ((cfg_Lives.f k y101 1 (⟨#[120]⟩ : ByteArray)).bind fun t107 => (if t107 = true then ((cfg_Lives.f k y101 0 (⟨#[120]⟩ : ByteArray)).bind fun t108 => (if t108 = true then (some false) else ((cfg_Lives.f k y101 2 (⟨#[120]⟩ : ByteArray)).bind fun t109 => (if t109 = true then (some false) else ((cfg_Next.f y101 1).bind fun t110 => ((lambrequinref10_Ints.f k t110 (([2] : List Int))).bind fun t116 => (some t116))))))) else (some false))))) else (some false))) = some r := by rw [if_pos rfl] at H; exact H
  clear H
  have H := H1
  clear H1
  replace H := Option.bind_eq_some_iff.mp H
  obtain ⟨t105, A30, H⟩ := H
  replace H : (if t105 = true then ((cfg_Reaches.f k y101 0 (⟨#[120]⟩ : ByteArray) 0).bind fun t106 => (if t106 = true then (some false) else ((cfg_Lives.f k y101 1 (⟨#[120]⟩ : ByteArray)).bind fun t107 => (if t107 = true then ((cfg_Lives.f k y101 0 (⟨#[120]⟩ : ByteArray)).bind fun t108 => (if t108 = true then (some false) else ((cfg_Lives.f k y101 2 (⟨#[120]⟩ : ByteArray)).bind fun t109 => (if t109 = true then (some false) else ((cfg_Next.f y101 1).bind fun t110 => ((lambrequinref10_Ints.f k t110 (([2] : List Int))).bind fun t116 => (some t116))))))) else (some false))))) else (some false)) = some r := H
  have A3 := Aside0.mk A30
  clear A30
  by_cases c4 : t105 = true
  ·subst c4
   have H1 : ((cfg_Reaches.f k y101 0 (⟨#[120]⟩ : ByteArray) 0).bind fun t106 => (if t106 = true then (some false) else ((cfg_Lives.f k y101 1 (⟨#[120]⟩ : ByteArray)).bind fun t107 => (if t107 = true then ((cfg_Lives.f k y101 0 (⟨#[120]⟩ : ByteArray)).bind fun t108 => (if t108 = true then (some false) else ((cfg_Lives.f k y101 2 (⟨#[120]⟩ : ByteArray)).bind fun t109 => (if t109 = true then (some false) else ((cfg_Next.f y101 1).bind fun t110 => ((lambrequinref10_Ints.f k t110 (([2] : List Int))).bind fun t116 => (some t116))))))) else (some false))))) = some r := by rw [if_pos rfl] at H; exact H
   clear H
   have H := H1
   clear H1
   replace H := Option.bind_eq_some_iff.mp H
   obtain ⟨t106, A50, H⟩ := H
   replace H : (if t106 = true then (some false) else ((cfg_Lives.f k y101 1 (⟨#[120]⟩ : ByteArray)).bind fun t107 => (if t107 = true then ((cfg_Lives.f k y101 0 (⟨#[120]⟩ : ByteArray)).bind fun t108 => (if t108 = true then (some false) else ((cfg_Lives.f k y101 2 (⟨#[120]⟩ : ByteArray)).bind fun t109 => (if t109 = true then (some false) else ((cfg_Next.f y101 1).bind fun t110 => ((lambrequinref10_Ints.f k t110 (([2] : List Int))).bind fun t116 => (some t116))))))) else (some false)))) = some r := H
   have A5 := Aside0.mk A50
   clear A50
   by_cases c6 : t106 = true
   ·subst c6
    have H1 : (some false) = some r := by rw [if_pos rfl] at H; exact H
    clear H
    have H := H1
    clear H1
    obtain rfl := Option.some.inj H
    go_enter Try.func17, Try.ntmps17
    go_wp2_with (first | ((with_reducible refine gate_dst (N := 5) rfl ?_); (try (refine gate_guard (by rfl) ?_; dsimp only)); refine Kd.R_lit k30 _ 30 ?hg (N := 5) ?hd (xs := ([(⟨1, (⟨#[120]⟩ : ByteArray), (⟨#[]⟩ : ByteArray), (⟨#[]⟩ : ByteArray), (⟨#[]⟩ : ByteArray), 1, 0, 0⟩ : Stmt), (⟨6, (⟨#[]⟩ : ByteArray), (⟨#[120]⟩ : ByteArray), (⟨#[]⟩ : ByteArray), (⟨#[]⟩ : ByteArray), 0, 0, 0⟩ : Stmt), (⟨9, (⟨#[]⟩ : ByteArray), (⟨#[]⟩ : ByteArray), (⟨#[]⟩ : ByteArray), (⟨#[]⟩ : ByteArray), 0, 0, 0⟩ : Stmt)] : List (Stmt))) (inner := [.int .i64 1, .string (⟨#[120]⟩ : ByteArray), .string (⟨#[]⟩ : ByteArray), .string (⟨#[]⟩ : ByteArray), .string (⟨#[]⟩ : ByteArray), .int .i64 1, .int .i64 0, .int .i64 0, .int .i64 6, .string (⟨#[]⟩ : ByteArray), .string (⟨#[120]⟩ : ByteArray), .string (⟨#[]⟩ : ByteArray), .string (⟨#[]⟩ : ByteArray), .int .i64 0, .int .i64 0, .int .i64 0, .int .i64 9, .string (⟨#[]⟩ : ByteArray), .string (⟨#[]⟩ : ByteArray), .string (⟨#[]⟩ : ByteArray), .string (⟨#[]⟩ : ByteArray), .int .i64 0, .int .i64 0, .int .i64 0]) (ok := fun _ => True) (okp := fun _ => True) ?hr ?hp (fun _ hk => hk) trivial (Below.refl _ _) (Nat.le_refl _) (by simp) ?_; (case hd => rfl); (case hg => rfl); (case hr => first | (go_simp; done) | (go_simp; rfl)); (case hp => exact (Reps.c8 (show Kd.M k30 _ _ _ (⟨1, (⟨#[120]⟩ : ByteArray), (⟨#[]⟩ : ByteArray), (⟨#[]⟩ : ByteArray), (⟨#[]⟩ : ByteArray), 1, 0, 0⟩ : Stmt) [.int .i64 1, .string (⟨#[120]⟩ : ByteArray), .string (⟨#[]⟩ : ByteArray), .string (⟨#[]⟩ : ByteArray), .string (⟨#[]⟩ : ByteArray), .int .i64 1, .int .i64 0, .int .i64 0] from (k30_mkM _ _ _ (⟨1, (⟨#[120]⟩ : ByteArray), (⟨#[]⟩ : ByteArray), (⟨#[]⟩ : ByteArray), (⟨#[]⟩ : ByteArray), 1, 0, 0⟩ : Stmt) )) (Reps.c8 (show Kd.M k30 _ _ _ (⟨6, (⟨#[]⟩ : ByteArray), (⟨#[120]⟩ : ByteArray), (⟨#[]⟩ : ByteArray), (⟨#[]⟩ : ByteArray), 0, 0, 0⟩ : Stmt) [.int .i64 6, .string (⟨#[]⟩ : ByteArray), .string (⟨#[120]⟩ : ByteArray), .string (⟨#[]⟩ : ByteArray), .string (⟨#[]⟩ : ByteArray), .int .i64 0, .int .i64 0, .int .i64 0] from (k30_mkM _ _ _ (⟨6, (⟨#[]⟩ : ByteArray), (⟨#[120]⟩ : ByteArray), (⟨#[]⟩ : ByteArray), (⟨#[]⟩ : ByteArray), 0, 0, 0⟩ : Stmt) )) (Reps.c8 (show Kd.M k30 _ _ _ (⟨9, (⟨#[]⟩ : ByteArray), (⟨#[]⟩ : ByteArray), (⟨#[]⟩ : ByteArray), (⟨#[]⟩ : ByteArray), 0, 0, 0⟩ : Stmt) [.int .i64 9, .string (⟨#[]⟩ : ByteArray), .string (⟨#[]⟩ : ByteArray), .string (⟨#[]⟩ : ByteArray), .string (⟨#[]⟩ : ByteArray), .int .i64 0, .int .i64 0, .int .i64 0] from (k30_mkM _ _ _ (⟨9, (⟨#[]⟩ : ByteArray), (⟨#[]⟩ : ByteArray), (⟨#[]⟩ : ByteArray), (⟨#[]⟩ : ByteArray), 0, 0, 0⟩ : Stmt) )) (Reps.none _ _))))); intro v102 w7 ho8 hb hg_ hnew_; clear hg_ hnew_; (first | rw [← Ny101.out] at ho8 | (simp only [Int.reduceToNat] at ho8; rw [← Ny101.out] at ho8)); have n0_ := Aside0.mk (Kd.R_lower ho8 (below_size (by repeat (first | (with_reducible first | exact HB.out | apply below_alloc | apply pw_below_drewN | apply below_drew1) | exact HB.out)))); have n1_ := Aside0.mk (below_step (by repeat (first | (with_reducible first | exact HB.out | apply below_alloc | apply pw_below_drewN | apply below_drew1) | exact HB.out)) hb); clear HB; have HO103 := n0_; have HB := n1_; clear n0_ n1_; clear hb ho8; obtain ⟨Ao9, co9, eo9⟩ := Kd.R_slice HO103.out; subst eo9) | ((with_reducible refine gate_callee (f := 23) rfl ?_); refine goesL_ (some 7) rfl rfl Try.func23 (by kernel_rfl) rfl #[.slice Ao9 y101.length co9, .int .i64 1, .string (⟨#[120]⟩ : ByteArray), .int .i64 0] rfl (by (try simp only [List.map_toArray, List.map_cons, List.map_nil]); first | done | rfl | (simp only [List.length_drop, List.length_take]; rfl)) ?_; (with_reducible refine (cfg_Reaches.calls k _ _ y101 1 (⟨#[120]⟩ : ByteArray) 0 true _ ?side1 ?side2 A1.out).mono ?_); (case side1 => repeat (first | exact (Kd.R_reads' HO103.out).2.2 | (with_reducible refine Kd.C_alloc ?_ _) | (with_reducible refine Kd.C_drewN ?_ _) | (with_reducible refine Kd.C_drew ?_))); (case side2 => exact (Kd.R_reads' HO103.out).2.1); rintro e w10 ⟨rfl, hb⟩; refine ⟨_, rfl, ?_⟩; have n0_ := Aside0.mk (Kd.R_below (by (with_reducible repeat (first | apply Kd.R_alloc | apply Kd.R_drewN | apply Kd.R_drew)); exact HO103.out) hb); have n1_ := Aside0.mk (below_step (by repeat (first | (with_reducible first | exact HB.out | apply below_alloc | apply pw_below_drewN | apply below_drew1) | exact HB.out)) hb); clear HO103; clear HB; have HO103 := n0_; have HB := n1_; clear n0_ n1_; (try clear hb); (try clear hb2); (try clear hk); (try clear hi)) | (go_at_call 23; (with_reducible refine (cfg_Reaches.calls k _ _ y101 2 (⟨#[120]⟩ : ByteArray) 0 true _ ?side1 ?side2 A3.out).mono ?_); (case side1 => repeat (first | exact (Kd.R_reads' HO103.out).2.2 | (with_reducible refine Kd.C_alloc ?_ _) | (with_reducible refine Kd.C_drewN ?_ _) | (with_reducible refine Kd.C_drew ?_))); (case side2 => exact (Kd.R_reads' HO103.out).2.1); rintro e w11 ⟨rfl, hb⟩; have n0_ := Aside0.mk (Kd.R_below (by (with_reducible repeat (first | apply Kd.R_alloc | apply Kd.R_drewN | apply Kd.R_drew)); exact HO103.out) hb); have n1_ := Aside0.mk (below_step (by repeat (first | (with_reducible first | exact HB.out | apply below_alloc | apply pw_below_drewN | apply below_drew1) | exact HB.out)) hb); clear HO103; clear HB; have HO103 := n0_; have HB := n1_; clear n0_ n1_; (try clear hb); (try clear hb2); (try clear hk); (try clear hi)) | (go_at_call 23; (with_reducible refine (cfg_Reaches.calls k _ _ y101 0 (⟨#[120]⟩ : ByteArray) 0 true _ ?side1 ?side2 A5.out).mono ?_); (case side1 => repeat (first | exact (Kd.R_reads' HO103.out).2.2 | (with_reducible refine Kd.C_alloc ?_ _) | (with_reducible refine Kd.C_drewN ?_ _) | (with_reducible refine Kd.C_drew ?_))); (case side2 => exact (Kd.R_reads' HO103.out).2.1); rintro e w12 ⟨rfl, hb⟩; have n0_ := Aside0.mk (Kd.R_below (by (with_reducible repeat (first | apply Kd.R_alloc | apply Kd.R_drewN | apply Kd.R_drew)); exact HO103.out) hb); have n1_ := Aside0.mk (below_step (by repeat (first | (with_reducible first | exact HB.out | apply below_alloc | apply pw_below_drewN | apply below_drew1) | exact HB.out)) hb); clear HO103; clear HB; have HO103 := n0_; have HB := n1_; clear n0_ n1_; (try clear hb); (try clear hb2); (try clear hk); (try clear hi)))
    go_ret
    exact ⟨by first | rfl | (simp [errW_none, errW_some] <;> rfl) | (simp [*, errW_none, errW_some] <;> rfl), by repeat (first | (with_reducible first | exact HB.out | apply below_alloc | apply pw_below_drewN | apply below_drew1) | exact HB.out)⟩
   ·replace c6 := Bool.eq_false_iff.mpr c6
    subst c6
    have H1 : ((cfg_Lives.f k y101 1 (⟨#[120]⟩ : ByteArray)).bind fun t107 => (if t107 = true then ((cfg_Lives.f k y101 0 (⟨#[120]⟩ : ByteArray)).bind fun t108 => (if t108 = true then (some false) else ((cfg_Lives.f k y101 2 (⟨#[120]⟩ : ByteArray)).bind fun t109 => (if t109 = true then (some false) else ((cfg_Next.f y101 1).bind fun t110 => ((lambrequinref10_Ints.f k t110 (([2] : List Int))).bind fun t116 => (some t116))))))) else (some false))) = some r := by rw [if_neg (show ¬ (false = true) by decide)] at H; exact H
    clear H
    have H := H1
    clear H1
    replace H := Option.bind_eq_some_iff.mp H
    obtain ⟨t107, A130, H⟩ := H
    replace H : (if t107 = true then ((cfg_Lives.f k y101 0 (⟨#[120]⟩ : ByteArray)).bind fun t108 => (if t108 = true then (some false) else ((cfg_Lives.f k y101 2 (⟨#[120]⟩ : ByteArray)).bind fun t109 => (if t109 = true then (some false) else ((cfg_Next.f y101 1).bind fun t110 => ((lambrequinref10_Ints.f k t110 (([2] : List Int))).bind fun t116 => (some t116))))))) else (some false)) = some r := H
    have A13 := Aside0.mk A130
    clear A130
    by_cases c14 : t107 = true
    ·subst c14
     have H1 : ((cfg_Lives.f k y101 0 (⟨#[120]⟩ : ByteArray)).bind fun t108 => (if t108 = true then (some false) else ((cfg_Lives.f k y101 2 (⟨#[120]⟩ : ByteArray)).bind fun t109 => (if t109 = true then (some false) else ((cfg_Next.f y101 1).bind fun t110 => ((lambrequinref10_Ints.f k t110 (([2] : List Int))).bind fun t116 => (some t116))))))) = some r := by rw [if_pos rfl] at H; exact H
     clear H
     have H := H1
     clear H1
     replace H := Option.bind_eq_some_iff.mp H
     obtain ⟨t108, A150, H⟩ := H
     replace H : (if t108 = true then (some false) else ((cfg_Lives.f k y101 2 (⟨#[120]⟩ : ByteArray)).bind fun t109 => (if t109 = true then (some false) else ((cfg_Next.f y101 1).bind fun t110 => ((lambrequinref10_Ints.f k t110 (([2] : List Int))).bind fun t116 => (some t116)))))) = some r := H
     have A15 := Aside0.mk A150
     clear A150
     by_cases c16 : t108 = true
     ·subst c16
      have H1 : (some false) = some r := by rw [if_pos rfl] at H; exact H
      clear H
      have H := H1
      clear H1
      obtain rfl := Option.some.inj H
      go_enter Try.func17, Try.ntmps17
      go_wp2_with (first | ((with_reducible refine gate_dst (N := 5) rfl ?_); (try (refine gate_guard (by rfl) ?_; dsimp only)); refine Kd.R_lit k30 _ 30 ?hg (N := 5) ?hd (xs := ([(⟨1, (⟨#[120]⟩ : ByteArray), (⟨#[]⟩ : ByteArray), (⟨#[]⟩ : ByteArray), (⟨#[]⟩ : ByteArray), 1, 0, 0⟩ : Stmt), (⟨6, (⟨#[]⟩ : ByteArray), (⟨#[120]⟩ : ByteArray), (⟨#[]⟩ : ByteArray), (⟨#[]⟩ : ByteArray), 0, 0, 0⟩ : Stmt), (⟨9, (⟨#[]⟩ : ByteArray), (⟨#[]⟩ : ByteArray), (⟨#[]⟩ : ByteArray), (⟨#[]⟩ : ByteArray), 0, 0, 0⟩ : Stmt)] : List (Stmt))) (inner := [.int .i64 1, .string (⟨#[120]⟩ : ByteArray), .string (⟨#[]⟩ : ByteArray), .string (⟨#[]⟩ : ByteArray), .string (⟨#[]⟩ : ByteArray), .int .i64 1, .int .i64 0, .int .i64 0, .int .i64 6, .string (⟨#[]⟩ : ByteArray), .string (⟨#[120]⟩ : ByteArray), .string (⟨#[]⟩ : ByteArray), .string (⟨#[]⟩ : ByteArray), .int .i64 0, .int .i64 0, .int .i64 0, .int .i64 9, .string (⟨#[]⟩ : ByteArray), .string (⟨#[]⟩ : ByteArray), .string (⟨#[]⟩ : ByteArray), .string (⟨#[]⟩ : ByteArray), .int .i64 0, .int .i64 0, .int .i64 0]) (ok := fun _ => True) (okp := fun _ => True) ?hr ?hp (fun _ hk => hk) trivial (Below.refl _ _) (Nat.le_refl _) (by simp) ?_; (case hd => rfl); (case hg => rfl); (case hr => first | (go_simp; done) | (go_simp; rfl)); (case hp => exact (Reps.c8 (show Kd.M k30 _ _ _ (⟨1, (⟨#[120]⟩ : ByteArray), (⟨#[]⟩ : ByteArray), (⟨#[]⟩ : ByteArray), (⟨#[]⟩ : ByteArray), 1, 0, 0⟩ : Stmt) [.int .i64 1, .string (⟨#[120]⟩ : ByteArray), .string (⟨#[]⟩ : ByteArray), .string (⟨#[]⟩ : ByteArray), .string (⟨#[]⟩ : ByteArray), .int .i64 1, .int .i64 0, .int .i64 0] from (k30_mkM _ _ _ (⟨1, (⟨#[120]⟩ : ByteArray), (⟨#[]⟩ : ByteArray), (⟨#[]⟩ : ByteArray), (⟨#[]⟩ : ByteArray), 1, 0, 0⟩ : Stmt) )) (Reps.c8 (show Kd.M k30 _ _ _ (⟨6, (⟨#[]⟩ : ByteArray), (⟨#[120]⟩ : ByteArray), (⟨#[]⟩ : ByteArray), (⟨#[]⟩ : ByteArray), 0, 0, 0⟩ : Stmt) [.int .i64 6, .string (⟨#[]⟩ : ByteArray), .string (⟨#[120]⟩ : ByteArray), .string (⟨#[]⟩ : ByteArray), .string (⟨#[]⟩ : ByteArray), .int .i64 0, .int .i64 0, .int .i64 0] from (k30_mkM _ _ _ (⟨6, (⟨#[]⟩ : ByteArray), (⟨#[120]⟩ : ByteArray), (⟨#[]⟩ : ByteArray), (⟨#[]⟩ : ByteArray), 0, 0, 0⟩ : Stmt) )) (Reps.c8 (show Kd.M k30 _ _ _ (⟨9, (⟨#[]⟩ : ByteArray), (⟨#[]⟩ : ByteArray), (⟨#[]⟩ : ByteArray), (⟨#[]⟩ : ByteArray), 0, 0, 0⟩ : Stmt) [.int .i64 9, .string (⟨#[]⟩ : ByteArray), .string (⟨#[]⟩ : ByteArray), .string (⟨#[]⟩ : ByteArray), .string (⟨#[]⟩ : ByteArray), .int .i64 0, .int .i64 0, .int .i64 0] from (k30_mkM _ _ _ (⟨9, (⟨#[]⟩ : ByteArray), (⟨#[]⟩ : ByteArray), (⟨#[]⟩ : ByteArray), (⟨#[]⟩ : ByteArray), 0, 0, 0⟩ : Stmt) )) (Reps.none _ _))))); intro v102 w17 ho18 hb hg_ hnew_; clear hg_ hnew_; (first | rw [← Ny101.out] at ho18 | (simp only [Int.reduceToNat] at ho18; rw [← Ny101.out] at ho18)); have n0_ := Aside0.mk (Kd.R_lower ho18 (below_size (by repeat (first | (with_reducible first | exact HB.out | apply below_alloc | apply pw_below_drewN | apply below_drew1) | exact HB.out)))); have n1_ := Aside0.mk (below_step (by repeat (first | (with_reducible first | exact HB.out | apply below_alloc | apply pw_below_drewN | apply below_drew1) | exact HB.out)) hb); clear HB; have HO103 := n0_; have HB := n1_; clear n0_ n1_; clear hb ho18; obtain ⟨Ao19, co19, eo19⟩ := Kd.R_slice HO103.out; subst eo19) | ((with_reducible refine gate_callee (f := 23) rfl ?_); refine goesL_ (some 7) rfl rfl Try.func23 (by kernel_rfl) rfl #[.slice Ao19 y101.length co19, .int .i64 1, .string (⟨#[120]⟩ : ByteArray), .int .i64 0] rfl (by (try simp only [List.map_toArray, List.map_cons, List.map_nil]); first | done | rfl | (simp only [List.length_drop, List.length_take]; rfl)) ?_; (with_reducible refine (cfg_Reaches.calls k _ _ y101 1 (⟨#[120]⟩ : ByteArray) 0 true _ ?side1 ?side2 A1.out).mono ?_); (case side1 => repeat (first | exact (Kd.R_reads' HO103.out).2.2 | (with_reducible refine Kd.C_alloc ?_ _) | (with_reducible refine Kd.C_drewN ?_ _) | (with_reducible refine Kd.C_drew ?_))); (case side2 => exact (Kd.R_reads' HO103.out).2.1); rintro e w20 ⟨rfl, hb⟩; refine ⟨_, rfl, ?_⟩; have n0_ := Aside0.mk (Kd.R_below (by (with_reducible repeat (first | apply Kd.R_alloc | apply Kd.R_drewN | apply Kd.R_drew)); exact HO103.out) hb); have n1_ := Aside0.mk (below_step (by repeat (first | (with_reducible first | exact HB.out | apply below_alloc | apply pw_below_drewN | apply below_drew1) | exact HB.out)) hb); clear HO103; clear HB; have HO103 := n0_; have HB := n1_; clear n0_ n1_; (try clear hb); (try clear hb2); (try clear hk); (try clear hi)) | (go_at_call 23; (with_reducible refine (cfg_Reaches.calls k _ _ y101 2 (⟨#[120]⟩ : ByteArray) 0 true _ ?side1 ?side2 A3.out).mono ?_); (case side1 => repeat (first | exact (Kd.R_reads' HO103.out).2.2 | (with_reducible refine Kd.C_alloc ?_ _) | (with_reducible refine Kd.C_drewN ?_ _) | (with_reducible refine Kd.C_drew ?_))); (case side2 => exact (Kd.R_reads' HO103.out).2.1); rintro e w21 ⟨rfl, hb⟩; have n0_ := Aside0.mk (Kd.R_below (by (with_reducible repeat (first | apply Kd.R_alloc | apply Kd.R_drewN | apply Kd.R_drew)); exact HO103.out) hb); have n1_ := Aside0.mk (below_step (by repeat (first | (with_reducible first | exact HB.out | apply below_alloc | apply pw_below_drewN | apply below_drew1) | exact HB.out)) hb); clear HO103; clear HB; have HO103 := n0_; have HB := n1_; clear n0_ n1_; (try clear hb); (try clear hb2); (try clear hk); (try clear hi)) | (go_at_call 23; (with_reducible refine (cfg_Reaches.calls k _ _ y101 0 (⟨#[120]⟩ : ByteArray) 0 false _ ?side1 ?side2 A5.out).mono ?_); (case side1 => repeat (first | exact (Kd.R_reads' HO103.out).2.2 | (with_reducible refine Kd.C_alloc ?_ _) | (with_reducible refine Kd.C_drewN ?_ _) | (with_reducible refine Kd.C_drew ?_))); (case side2 => exact (Kd.R_reads' HO103.out).2.1); rintro e w22 ⟨rfl, hb⟩; have n0_ := Aside0.mk (Kd.R_below (by (with_reducible repeat (first | apply Kd.R_alloc | apply Kd.R_drewN | apply Kd.R_drew)); exact HO103.out) hb); have n1_ := Aside0.mk (below_step (by repeat (first | (with_reducible first | exact HB.out | apply below_alloc | apply pw_below_drewN | apply below_drew1) | exact HB.out)) hb); clear HO103; clear HB; have HO103 := n0_; have HB := n1_; clear n0_ n1_; (try clear hb); (try clear hb2); (try clear hk); (try clear hi)) | (go_at_call 18; (with_reducible refine (cfg_Lives.calls k _ _ y101 1 (⟨#[120]⟩ : ByteArray) true _ ?side1 ?side2 A13.out).mono ?_); (case side1 => repeat (first | exact (Kd.R_reads' HO103.out).2.2 | (with_reducible refine Kd.C_alloc ?_ _) | (with_reducible refine Kd.C_drewN ?_ _) | (with_reducible refine Kd.C_drew ?_))); (case side2 => exact (Kd.R_reads' HO103.out).2.1); rintro e w23 ⟨rfl, hb⟩; have n0_ := Aside0.mk (Kd.R_below (by (with_reducible repeat (first | apply Kd.R_alloc | apply Kd.R_drewN | apply Kd.R_drew)); exact HO103.out) hb); have n1_ := Aside0.mk (below_step (by repeat (first | (with_reducible first | exact HB.out | apply below_alloc | apply pw_below_drewN | apply below_drew1) | exact HB.out)) hb); clear HO103; clear HB; have HO103 := n0_; have HB := n1_; clear n0_ n1_; (try clear hb); (try clear hb2); (try clear hk); (try clear hi)) | (go_at_call 18; (with_reducible refine (cfg_Lives.calls k _ _ y101 0 (⟨#[120]⟩ : ByteArray) true _ ?side1 ?side2 A15.out).mono ?_); (case side1 => repeat (first | exact (Kd.R_reads' HO103.out).2.2 | (with_reducible refine Kd.C_alloc ?_ _) | (with_reducible refine Kd.C_drewN ?_ _) | (with_reducible refine Kd.C_drew ?_))); (case side2 => exact (Kd.R_reads' HO103.out).2.1); rintro e w24 ⟨rfl, hb⟩; have n0_ := Aside0.mk (Kd.R_below (by (with_reducible repeat (first | apply Kd.R_alloc | apply Kd.R_drewN | apply Kd.R_drew)); exact HO103.out) hb); have n1_ := Aside0.mk (below_step (by repeat (first | (with_reducible first | exact HB.out | apply below_alloc | apply pw_below_drewN | apply below_drew1) | exact HB.out)) hb); clear HO103; clear HB; have HO103 := n0_; have HB := n1_; clear n0_ n1_; (try clear hb); (try clear hb2); (try clear hk); (try clear hi)))
      go_ret
      exact ⟨by first | rfl | (simp [errW_none, errW_some] <;> rfl) | (simp [*, errW_none, errW_some] <;> rfl), by repeat (first | (with_reducible first | exact HB.out | apply below_alloc | apply pw_below_drewN | apply below_drew1) | exact HB.out)⟩
     ·replace c16 := Bool.eq_false_iff.mpr c16
      subst c16
      have H1 : ((cfg_Lives.f k y101 2 (⟨#[120]⟩ : ByteArray)).bind fun t109 => (if t109 = true then (some false) else ((cfg_Next.f y101 1).bind fun t110 => ((lambrequinref10_Ints.f k t110 (([2] : List Int))).bind fun t116 => (some t116))))) = some r := by rw [if_neg (show ¬ (false = true) by decide)] at H; exact H
      clear H
      have H := H1
      clear H1
      replace H := Option.bind_eq_some_iff.mp H
      obtain ⟨t109, A250, H⟩ := H
      replace H : (if t109 = true then (some false) else ((cfg_Next.f y101 1).bind fun t110 => ((lambrequinref10_Ints.f k t110 (([2] : List Int))).bind fun t116 => (some t116)))) = some r := H
      have A25 := Aside0.mk A250
      clear A250
      by_cases c26 : t109 = true
      ·subst c26
       have H1 : (some false) = some r := by rw [if_pos rfl] at H; exact H
       clear H
       have H := H1
       clear H1
       obtain rfl := Option.some.inj H
       go_enter Try.func17, Try.ntmps17
       go_wp2_with (first | ((with_reducible refine gate_dst (N := 5) rfl ?_); (try (refine gate_guard (by rfl) ?_; dsimp only)); refine Kd.R_lit k30 _ 30 ?hg (N := 5) ?hd (xs := ([(⟨1, (⟨#[120]⟩ : ByteArray), (⟨#[]⟩ : ByteArray), (⟨#[]⟩ : ByteArray), (⟨#[]⟩ : ByteArray), 1, 0, 0⟩ : Stmt), (⟨6, (⟨#[]⟩ : ByteArray), (⟨#[120]⟩ : ByteArray), (⟨#[]⟩ : ByteArray), (⟨#[]⟩ : ByteArray), 0, 0, 0⟩ : Stmt), (⟨9, (⟨#[]⟩ : ByteArray), (⟨#[]⟩ : ByteArray), (⟨#[]⟩ : ByteArray), (⟨#[]⟩ : ByteArray), 0, 0, 0⟩ : Stmt)] : List (Stmt))) (inner := [.int .i64 1, .string (⟨#[120]⟩ : ByteArray), .string (⟨#[]⟩ : ByteArray), .string (⟨#[]⟩ : ByteArray), .string (⟨#[]⟩ : ByteArray), .int .i64 1, .int .i64 0, .int .i64 0, .int .i64 6, .string (⟨#[]⟩ : ByteArray), .string (⟨#[120]⟩ : ByteArray), .string (⟨#[]⟩ : ByteArray), .string (⟨#[]⟩ : ByteArray), .int .i64 0, .int .i64 0, .int .i64 0, .int .i64 9, .string (⟨#[]⟩ : ByteArray), .string (⟨#[]⟩ : ByteArray), .string (⟨#[]⟩ : ByteArray), .string (⟨#[]⟩ : ByteArray), .int .i64 0, .int .i64 0, .int .i64 0]) (ok := fun _ => True) (okp := fun _ => True) ?hr ?hp (fun _ hk => hk) trivial (Below.refl _ _) (Nat.le_refl _) (by simp) ?_; (case hd => rfl); (case hg => rfl); (case hr => first | (go_simp; done) | (go_simp; rfl)); (case hp => exact (Reps.c8 (show Kd.M k30 _ _ _ (⟨1, (⟨#[120]⟩ : ByteArray), (⟨#[]⟩ : ByteArray), (⟨#[]⟩ : ByteArray), (⟨#[]⟩ : ByteArray), 1, 0, 0⟩ : Stmt) [.int .i64 1, .string (⟨#[120]⟩ : ByteArray), .string (⟨#[]⟩ : ByteArray), .string (⟨#[]⟩ : ByteArray), .string (⟨#[]⟩ : ByteArray), .int .i64 1, .int .i64 0, .int .i64 0] from (k30_mkM _ _ _ (⟨1, (⟨#[120]⟩ : ByteArray), (⟨#[]⟩ : ByteArray), (⟨#[]⟩ : ByteArray), (⟨#[]⟩ : ByteArray), 1, 0, 0⟩ : Stmt) )) (Reps.c8 (show Kd.M k30 _ _ _ (⟨6, (⟨#[]⟩ : ByteArray), (⟨#[120]⟩ : ByteArray), (⟨#[]⟩ : ByteArray), (⟨#[]⟩ : ByteArray), 0, 0, 0⟩ : Stmt) [.int .i64 6, .string (⟨#[]⟩ : ByteArray), .string (⟨#[120]⟩ : ByteArray), .string (⟨#[]⟩ : ByteArray), .string (⟨#[]⟩ : ByteArray), .int .i64 0, .int .i64 0, .int .i64 0] from (k30_mkM _ _ _ (⟨6, (⟨#[]⟩ : ByteArray), (⟨#[120]⟩ : ByteArray), (⟨#[]⟩ : ByteArray), (⟨#[]⟩ : ByteArray), 0, 0, 0⟩ : Stmt) )) (Reps.c8 (show Kd.M k30 _ _ _ (⟨9, (⟨#[]⟩ : ByteArray), (⟨#[]⟩ : ByteArray), (⟨#[]⟩ : ByteArray), (⟨#[]⟩ : ByteArray), 0, 0, 0⟩ : Stmt) [.int .i64 9, .string (⟨#[]⟩ : ByteArray), .string (⟨#[]⟩ : ByteArray), .string (⟨#[]⟩ : ByteArray), .string (⟨#[]⟩ : ByteArray), .int .i64 0, .int .i64 0, .int .i64 0] from (k30_mkM _ _ _ (⟨9, (⟨#[]⟩ : ByteArray), (⟨#[]⟩ : ByteArray), (⟨#[]⟩ : ByteArray), (⟨#[]⟩ : ByteArray), 0, 0, 0⟩ : Stmt) )) (Reps.none _ _))))); intro v102 w27 ho28 hb hg_ hnew_; clear hg_ hnew_; (first | rw [← Ny101.out] at ho28 | (simp only [Int.reduceToNat] at ho28; rw [← Ny101.out] at ho28)); have n0_ := Aside0.mk (Kd.R_lower ho28 (below_size (by repeat (first | (with_reducible first | exact HB.out | apply below_alloc | apply pw_below_drewN | apply below_drew1) | exact HB.out)))); have n1_ := Aside0.mk (below_step (by repeat (first | (with_reducible first | exact HB.out | apply below_alloc | apply pw_below_drewN | apply below_drew1) | exact HB.out)) hb); clear HB; have HO103 := n0_; have HB := n1_; clear n0_ n1_; clear hb ho28; obtain ⟨Ao29, co29, eo29⟩ := Kd.R_slice HO103.out; subst eo29) | ((with_reducible refine gate_callee (f := 23) rfl ?_); refine goesL_ (some 7) rfl rfl Try.func23 (by kernel_rfl) rfl #[.slice Ao29 y101.length co29, .int .i64 1, .string (⟨#[120]⟩ : ByteArray), .int .i64 0] rfl (by (try simp only [List.map_toArray, List.map_cons, List.map_nil]); first | done | rfl | (simp only [List.length_drop, List.length_take]; rfl)) ?_; (with_reducible refine (cfg_Reaches.calls k _ _ y101 1 (⟨#[120]⟩ : ByteArray) 0 true _ ?side1 ?side2 A1.out).mono ?_); (case side1 => repeat (first | exact (Kd.R_reads' HO103.out).2.2 | (with_reducible refine Kd.C_alloc ?_ _) | (with_reducible refine Kd.C_drewN ?_ _) | (with_reducible refine Kd.C_drew ?_))); (case side2 => exact (Kd.R_reads' HO103.out).2.1); rintro e w30 ⟨rfl, hb⟩; refine ⟨_, rfl, ?_⟩; have n0_ := Aside0.mk (Kd.R_below (by (with_reducible repeat (first | apply Kd.R_alloc | apply Kd.R_drewN | apply Kd.R_drew)); exact HO103.out) hb); have n1_ := Aside0.mk (below_step (by repeat (first | (with_reducible first | exact HB.out | apply below_alloc | apply pw_below_drewN | apply below_drew1) | exact HB.out)) hb); clear HO103; clear HB; have HO103 := n0_; have HB := n1_; clear n0_ n1_; (try clear hb); (try clear hb2); (try clear hk); (try clear hi)) | (go_at_call 23; (with_reducible refine (cfg_Reaches.calls k _ _ y101 2 (⟨#[120]⟩ : ByteArray) 0 true _ ?side1 ?side2 A3.out).mono ?_); (case side1 => repeat (first | exact (Kd.R_reads' HO103.out).2.2 | (with_reducible refine Kd.C_alloc ?_ _) | (with_reducible refine Kd.C_drewN ?_ _) | (with_reducible refine Kd.C_drew ?_))); (case side2 => exact (Kd.R_reads' HO103.out).2.1); rintro e w31 ⟨rfl, hb⟩; have n0_ := Aside0.mk (Kd.R_below (by (with_reducible repeat (first | apply Kd.R_alloc | apply Kd.R_drewN | apply Kd.R_drew)); exact HO103.out) hb); have n1_ := Aside0.mk (below_step (by repeat (first | (with_reducible first | exact HB.out | apply below_alloc | apply pw_below_drewN | apply below_drew1) | exact HB.out)) hb); clear HO103; clear HB; have HO103 := n0_; have HB := n1_; clear n0_ n1_; (try clear hb); (try clear hb2); (try clear hk); (try clear hi)) | (go_at_call 23; (with_reducible refine (cfg_Reaches.calls k _ _ y101 0 (⟨#[120]⟩ : ByteArray) 0 false _ ?side1 ?side2 A5.out).mono ?_); (case side1 => repeat (first | exact (Kd.R_reads' HO103.out).2.2 | (with_reducible refine Kd.C_alloc ?_ _) | (with_reducible refine Kd.C_drewN ?_ _) | (with_reducible refine Kd.C_drew ?_))); (case side2 => exact (Kd.R_reads' HO103.out).2.1); rintro e w32 ⟨rfl, hb⟩; have n0_ := Aside0.mk (Kd.R_below (by (with_reducible repeat (first | apply Kd.R_alloc | apply Kd.R_drewN | apply Kd.R_drew)); exact HO103.out) hb); have n1_ := Aside0.mk (below_step (by repeat (first | (with_reducible first | exact HB.out | apply below_alloc | apply pw_below_drewN | apply below_drew1) | exact HB.out)) hb); clear HO103; clear HB; have HO103 := n0_; have HB := n1_; clear n0_ n1_; (try clear hb); (try clear hb2); (try clear hk); (try clear hi)) | (go_at_call 18; (with_reducible refine (cfg_Lives.calls k _ _ y101 1 (⟨#[120]⟩ : ByteArray) true _ ?side1 ?side2 A13.out).mono ?_); (case side1 => repeat (first | exact (Kd.R_reads' HO103.out).2.2 | (with_reducible refine Kd.C_alloc ?_ _) | (with_reducible refine Kd.C_drewN ?_ _) | (with_reducible refine Kd.C_drew ?_))); (case side2 => exact (Kd.R_reads' HO103.out).2.1); rintro e w33 ⟨rfl, hb⟩; have n0_ := Aside0.mk (Kd.R_below (by (with_reducible repeat (first | apply Kd.R_alloc | apply Kd.R_drewN | apply Kd.R_drew)); exact HO103.out) hb); have n1_ := Aside0.mk (below_step (by repeat (first | (with_reducible first | exact HB.out | apply below_alloc | apply pw_below_drewN | apply below_drew1) | exact HB.out)) hb); clear HO103; clear HB; have HO103 := n0_; have HB := n1_; clear n0_ n1_; (try clear hb); (try clear hb2); (try clear hk); (try clear hi)) | (go_at_call 18; (with_reducible refine (cfg_Lives.calls k _ _ y101 0 (⟨#[120]⟩ : ByteArray) false _ ?side1 ?side2 A15.out).mono ?_); (case side1 => repeat (first | exact (Kd.R_reads' HO103.out).2.2 | (with_reducible refine Kd.C_alloc ?_ _) | (with_reducible refine Kd.C_drewN ?_ _) | (with_reducible refine Kd.C_drew ?_))); (case side2 => exact (Kd.R_reads' HO103.out).2.1); rintro e w34 ⟨rfl, hb⟩; have n0_ := Aside0.mk (Kd.R_below (by (with_reducible repeat (first | apply Kd.R_alloc | apply Kd.R_drewN | apply Kd.R_drew)); exact HO103.out) hb); have n1_ := Aside0.mk (below_step (by repeat (first | (with_reducible first | exact HB.out | apply below_alloc | apply pw_below_drewN | apply below_drew1) | exact HB.out)) hb); clear HO103; clear HB; have HO103 := n0_; have HB := n1_; clear n0_ n1_; (try clear hb); (try clear hb2); (try clear hk); (try clear hi)) | (go_at_call 18; (with_reducible refine (cfg_Lives.calls k _ _ y101 2 (⟨#[120]⟩ : ByteArray) true _ ?side1 ?side2 A25.out).mono ?_); (case side1 => repeat (first | exact (Kd.R_reads' HO103.out).2.2 | (with_reducible refine Kd.C_alloc ?_ _) | (with_reducible refine Kd.C_drewN ?_ _) | (with_reducible refine Kd.C_drew ?_))); (case side2 => exact (Kd.R_reads' HO103.out).2.1); rintro e w35 ⟨rfl, hb⟩; have n0_ := Aside0.mk (Kd.R_below (by (with_reducible repeat (first | apply Kd.R_alloc | apply Kd.R_drewN | apply Kd.R_drew)); exact HO103.out) hb); have n1_ := Aside0.mk (below_step (by repeat (first | (with_reducible first | exact HB.out | apply below_alloc | apply pw_below_drewN | apply below_drew1) | exact HB.out)) hb); clear HO103; clear HB; have HO103 := n0_; have HB := n1_; clear n0_ n1_; (try clear hb); (try clear hb2); (try clear hk); (try clear hi)))
       go_ret
       exact ⟨by first | rfl | (simp [errW_none, errW_some] <;> rfl) | (simp [*, errW_none, errW_some] <;> rfl), by repeat (first | (with_reducible first | exact HB.out | apply below_alloc | apply pw_below_drewN | apply below_drew1) | exact HB.out)⟩
      ·replace c26 := Bool.eq_false_iff.mpr c26
       subst c26
       have H1 : ((cfg_Next.f y101 1).bind fun t110 => ((lambrequinref10_Ints.f k t110 (([2] : List Int))).bind fun t116 => (some t116))) = some r := by rw [if_neg (show ¬ (false = true) by decide)] at H; exact H
       clear H
       have H := H1
       clear H1
       replace H := Option.bind_eq_some_iff.mp H
       obtain ⟨t110, A360, H⟩ := H
       replace H : ((lambrequinref10_Ints.f k t110 (([2] : List Int))).bind fun t116 => (some t116)) = some r := H
       have A36 := Aside0.mk A360
       clear A360
       obtain ⟨y113, hy113⟩ : ∃ y_ : List Int, y_ = (([2] : List Int)) := ⟨_, rfl⟩
       replace H : ((lambrequinref10_Ints.f k t110 y113).bind fun t116 => (some t116)) = some r := by first | (rw [hy113]; with_reducible exact H) | (have H2_ := (Option.bind_some _ _).symm.trans H; rw [hy113]; with_reducible exact H2_) | (have H2_ := (Option.bind_some _ _).symm.trans H; with_reducible exact H2_) | with_reducible exact H | (rw [hy113]; exact H) | exact H
       have Ny113 := Aside0.mk hy113
       clear hy113
       replace H := Option.bind_eq_some_iff.mp H
       obtain ⟨t116, A370, H⟩ := H
       replace H : (some t116) = some r := H
       have A37 := Aside0.mk A370
       clear A370
       obtain rfl := Option.some.inj H
       go_enter Try.func17, Try.ntmps17
       go_wp2_with (first | ((with_reducible refine gate_dst (N := 5) rfl ?_); (try (refine gate_guard (by rfl) ?_; dsimp only)); refine Kd.R_lit k30 _ 30 ?hg (N := 5) ?hd (xs := ([(⟨1, (⟨#[120]⟩ : ByteArray), (⟨#[]⟩ : ByteArray), (⟨#[]⟩ : ByteArray), (⟨#[]⟩ : ByteArray), 1, 0, 0⟩ : Stmt), (⟨6, (⟨#[]⟩ : ByteArray), (⟨#[120]⟩ : ByteArray), (⟨#[]⟩ : ByteArray), (⟨#[]⟩ : ByteArray), 0, 0, 0⟩ : Stmt), (⟨9, (⟨#[]⟩ : ByteArray), (⟨#[]⟩ : ByteArray), (⟨#[]⟩ : ByteArray), (⟨#[]⟩ : ByteArray), 0, 0, 0⟩ : Stmt)] : List (Stmt))) (inner := [.int .i64 1, .string (⟨#[120]⟩ : ByteArray), .string (⟨#[]⟩ : ByteArray), .string (⟨#[]⟩ : ByteArray), .string (⟨#[]⟩ : ByteArray), .int .i64 1, .int .i64 0, .int .i64 0, .int .i64 6, .string (⟨#[]⟩ : ByteArray), .string (⟨#[120]⟩ : ByteArray), .string (⟨#[]⟩ : ByteArray), .string (⟨#[]⟩ : ByteArray), .int .i64 0, .int .i64 0, .int .i64 0, .int .i64 9, .string (⟨#[]⟩ : ByteArray), .string (⟨#[]⟩ : ByteArray), .string (⟨#[]⟩ : ByteArray), .string (⟨#[]⟩ : ByteArray), .int .i64 0, .int .i64 0, .int .i64 0]) (ok := fun _ => True) (okp := fun _ => True) ?hr ?hp (fun _ hk => hk) trivial (Below.refl _ _) (Nat.le_refl _) (by simp) ?_; (case hd => rfl); (case hg => rfl); (case hr => first | (go_simp; done) | (go_simp; rfl)); (case hp => exact (Reps.c8 (show Kd.M k30 _ _ _ (⟨1, (⟨#[120]⟩ : ByteArray), (⟨#[]⟩ : ByteArray), (⟨#[]⟩ : ByteArray), (⟨#[]⟩ : ByteArray), 1, 0, 0⟩ : Stmt) [.int .i64 1, .string (⟨#[120]⟩ : ByteArray), .string (⟨#[]⟩ : ByteArray), .string (⟨#[]⟩ : ByteArray), .string (⟨#[]⟩ : ByteArray), .int .i64 1, .int .i64 0, .int .i64 0] from (k30_mkM _ _ _ (⟨1, (⟨#[120]⟩ : ByteArray), (⟨#[]⟩ : ByteArray), (⟨#[]⟩ : ByteArray), (⟨#[]⟩ : ByteArray), 1, 0, 0⟩ : Stmt) )) (Reps.c8 (show Kd.M k30 _ _ _ (⟨6, (⟨#[]⟩ : ByteArray), (⟨#[120]⟩ : ByteArray), (⟨#[]⟩ : ByteArray), (⟨#[]⟩ : ByteArray), 0, 0, 0⟩ : Stmt) [.int .i64 6, .string (⟨#[]⟩ : ByteArray), .string (⟨#[120]⟩ : ByteArray), .string (⟨#[]⟩ : ByteArray), .string (⟨#[]⟩ : ByteArray), .int .i64 0, .int .i64 0, .int .i64 0] from (k30_mkM _ _ _ (⟨6, (⟨#[]⟩ : ByteArray), (⟨#[120]⟩ : ByteArray), (⟨#[]⟩ : ByteArray), (⟨#[]⟩ : ByteArray), 0, 0, 0⟩ : Stmt) )) (Reps.c8 (show Kd.M k30 _ _ _ (⟨9, (⟨#[]⟩ : ByteArray), (⟨#[]⟩ : ByteArray), (⟨#[]⟩ : ByteArray), (⟨#[]⟩ : ByteArray), 0, 0, 0⟩ : Stmt) [.int .i64 9, .string (⟨#[]⟩ : ByteArray), .string (⟨#[]⟩ : ByteArray), .string (⟨#[]⟩ : ByteArray), .string (⟨#[]⟩ : ByteArray), .int .i64 0, .int .i64 0, .int .i64 0] from (k30_mkM _ _ _ (⟨9, (⟨#[]⟩ : ByteArray), (⟨#[]⟩ : ByteArray), (⟨#[]⟩ : ByteArray), (⟨#[]⟩ : ByteArray), 0, 0, 0⟩ : Stmt) )) (Reps.none _ _))))); intro v102 w38 ho39 hb hg_ hnew_; clear hg_ hnew_; (first | rw [← Ny101.out] at ho39 | (simp only [Int.reduceToNat] at ho39; rw [← Ny101.out] at ho39)); have n0_ := Aside0.mk (Kd.R_lower ho39 (below_size (by repeat (first | (with_reducible first | exact HB.out | apply below_alloc | apply pw_below_drewN | apply below_drew1) | exact HB.out)))); have n1_ := Aside0.mk (below_step (by repeat (first | (with_reducible first | exact HB.out | apply below_alloc | apply pw_below_drewN | apply below_drew1) | exact HB.out)) hb); clear HB; have HO103 := n0_; have HB := n1_; clear n0_ n1_; clear hb ho39; obtain ⟨Ao40, co40, eo40⟩ := Kd.R_slice HO103.out; subst eo40) | ((with_reducible refine gate_callee (f := 23) rfl ?_); refine goesL_ (some 7) rfl rfl Try.func23 (by kernel_rfl) rfl #[.slice Ao40 y101.length co40, .int .i64 1, .string (⟨#[120]⟩ : ByteArray), .int .i64 0] rfl (by (try simp only [List.map_toArray, List.map_cons, List.map_nil]); first | done | rfl | (simp only [List.length_drop, List.length_take]; rfl)) ?_; (with_reducible refine (cfg_Reaches.calls k _ _ y101 1 (⟨#[120]⟩ : ByteArray) 0 true _ ?side1 ?side2 A1.out).mono ?_); (case side1 => repeat (first | exact (Kd.R_reads' HO103.out).2.2 | (with_reducible refine Kd.C_alloc ?_ _) | (with_reducible refine Kd.C_drewN ?_ _) | (with_reducible refine Kd.C_drew ?_))); (case side2 => exact (Kd.R_reads' HO103.out).2.1); rintro e w41 ⟨rfl, hb⟩; refine ⟨_, rfl, ?_⟩; have n0_ := Aside0.mk (Kd.R_below (by (with_reducible repeat (first | apply Kd.R_alloc | apply Kd.R_drewN | apply Kd.R_drew)); exact HO103.out) hb); have n1_ := Aside0.mk (below_step (by repeat (first | (with_reducible first | exact HB.out | apply below_alloc | apply pw_below_drewN | apply below_drew1) | exact HB.out)) hb); clear HO103; clear HB; have HO103 := n0_; have HB := n1_; clear n0_ n1_; (try clear hb); (try clear hb2); (try clear hk); (try clear hi)) | (go_at_call 23; (with_reducible refine (cfg_Reaches.calls k _ _ y101 2 (⟨#[120]⟩ : ByteArray) 0 true _ ?side1 ?side2 A3.out).mono ?_); (case side1 => repeat (first | exact (Kd.R_reads' HO103.out).2.2 | (with_reducible refine Kd.C_alloc ?_ _) | (with_reducible refine Kd.C_drewN ?_ _) | (with_reducible refine Kd.C_drew ?_))); (case side2 => exact (Kd.R_reads' HO103.out).2.1); rintro e w42 ⟨rfl, hb⟩; have n0_ := Aside0.mk (Kd.R_below (by (with_reducible repeat (first | apply Kd.R_alloc | apply Kd.R_drewN | apply Kd.R_drew)); exact HO103.out) hb); have n1_ := Aside0.mk (below_step (by repeat (first | (with_reducible first | exact HB.out | apply below_alloc | apply pw_below_drewN | apply below_drew1) | exact HB.out)) hb); clear HO103; clear HB; have HO103 := n0_; have HB := n1_; clear n0_ n1_; (try clear hb); (try clear hb2); (try clear hk); (try clear hi)) | (go_at_call 23; (with_reducible refine (cfg_Reaches.calls k _ _ y101 0 (⟨#[120]⟩ : ByteArray) 0 false _ ?side1 ?side2 A5.out).mono ?_); (case side1 => repeat (first | exact (Kd.R_reads' HO103.out).2.2 | (with_reducible refine Kd.C_alloc ?_ _) | (with_reducible refine Kd.C_drewN ?_ _) | (with_reducible refine Kd.C_drew ?_))); (case side2 => exact (Kd.R_reads' HO103.out).2.1); rintro e w43 ⟨rfl, hb⟩; have n0_ := Aside0.mk (Kd.R_below (by (with_reducible repeat (first | apply Kd.R_alloc | apply Kd.R_drewN | apply Kd.R_drew)); exact HO103.out) hb); have n1_ := Aside0.mk (below_step (by repeat (first | (with_reducible first | exact HB.out | apply below_alloc | apply pw_below_drewN | apply below_drew1) | exact HB.out)) hb); clear HO103; clear HB; have HO103 := n0_; have HB := n1_; clear n0_ n1_; (try clear hb); (try clear hb2); (try clear hk); (try clear hi)) | (go_at_call 18; (with_reducible refine (cfg_Lives.calls k _ _ y101 1 (⟨#[120]⟩ : ByteArray) true _ ?side1 ?side2 A13.out).mono ?_); (case side1 => repeat (first | exact (Kd.R_reads' HO103.out).2.2 | (with_reducible refine Kd.C_alloc ?_ _) | (with_reducible refine Kd.C_drewN ?_ _) | (with_reducible refine Kd.C_drew ?_))); (case side2 => exact (Kd.R_reads' HO103.out).2.1); rintro e w44 ⟨rfl, hb⟩; have n0_ := Aside0.mk (Kd.R_below (by (with_reducible repeat (first | apply Kd.R_alloc | apply Kd.R_drewN | apply Kd.R_drew)); exact HO103.out) hb); have n1_ := Aside0.mk (below_step (by repeat (first | (with_reducible first | exact HB.out | apply below_alloc | apply pw_below_drewN | apply below_drew1) | exact HB.out)) hb); clear HO103; clear HB; have HO103 := n0_; have HB := n1_; clear n0_ n1_; (try clear hb); (try clear hb2); (try clear hk); (try clear hi)) | (go_at_call 18; (with_reducible refine (cfg_Lives.calls k _ _ y101 0 (⟨#[120]⟩ : ByteArray) false _ ?side1 ?side2 A15.out).mono ?_); (case side1 => repeat (first | exact (Kd.R_reads' HO103.out).2.2 | (with_reducible refine Kd.C_alloc ?_ _) | (with_reducible refine Kd.C_drewN ?_ _) | (with_reducible refine Kd.C_drew ?_))); (case side2 => exact (Kd.R_reads' HO103.out).2.1); rintro e w45 ⟨rfl, hb⟩; have n0_ := Aside0.mk (Kd.R_below (by (with_reducible repeat (first | apply Kd.R_alloc | apply Kd.R_drewN | apply Kd.R_drew)); exact HO103.out) hb); have n1_ := Aside0.mk (below_step (by repeat (first | (with_reducible first | exact HB.out | apply below_alloc | apply pw_below_drewN | apply below_drew1) | exact HB.out)) hb); clear HO103; clear HB; have HO103 := n0_; have HB := n1_; clear n0_ n1_; (try clear hb); (try clear hb2); (try clear hk); (try clear hi)) | (go_at_call 18; (with_reducible refine (cfg_Lives.calls k _ _ y101 2 (⟨#[120]⟩ : ByteArray) false _ ?side1 ?side2 A25.out).mono ?_); (case side1 => repeat (first | exact (Kd.R_reads' HO103.out).2.2 | (with_reducible refine Kd.C_alloc ?_ _) | (with_reducible refine Kd.C_drewN ?_ _) | (with_reducible refine Kd.C_drew ?_))); (case side2 => exact (Kd.R_reads' HO103.out).2.1); rintro e w46 ⟨rfl, hb⟩; have n0_ := Aside0.mk (Kd.R_below (by (with_reducible repeat (first | apply Kd.R_alloc | apply Kd.R_drewN | apply Kd.R_drew)); exact HO103.out) hb); have n1_ := Aside0.mk (below_step (by repeat (first | (with_reducible first | exact HB.out | apply below_alloc | apply pw_below_drewN | apply below_drew1) | exact HB.out)) hb); clear HO103; clear HB; have HO103 := n0_; have HB := n1_; clear n0_ n1_; (try clear hb); (try clear hb2); (try clear hk); (try clear hi)) | (go_at_call 19; (with_reducible refine (cfg_Next.calls _ _ y101 1 t110 _ ?side1 ?side2 A36.out).mono ?_); (case side1 => repeat (first | exact (Kd.R_reads' HO103.out).2.2 | (with_reducible refine Kd.C_alloc ?_ _) | (with_reducible refine Kd.C_drewN ?_ _) | (with_reducible refine Kd.C_drew ?_))); (case side2 => exact (Kd.R_reads' HO103.out).2.1); rintro e w47 ⟨v111, rfl, ho0, hb⟩; have n0_ := Aside0.mk (Kd.R_below (by (with_reducible repeat (first | apply Kd.R_alloc | apply Kd.R_drewN | apply Kd.R_drew)); exact HO103.out) hb); have n1_ := Aside0.mk (Kd.R_lower ho0 (below_size (by repeat (first | (with_reducible first | exact HB.out | apply below_alloc | apply pw_below_drewN | apply below_drew1) | exact HB.out)))); have n2_ := Aside0.mk (below_step (by repeat (first | (with_reducible first | exact HB.out | apply below_alloc | apply pw_below_drewN | apply below_drew1) | exact HB.out)) hb); clear HO103; clear HB; have HO103 := n0_; have HO112 := n1_; have HB := n2_; clear n0_ n1_ n2_; (try clear hb); (try clear hb2); (try clear hk); (try clear hi); (try clear ho0)) | ((with_reducible refine gate_dst (N := 34) rfl ?_); (try (refine gate_guard (by rfl) ?_; dsimp only)); refine Kd.R_lit (Kd.int .i64) _ 3 ?hg (N := 34) ?hd (xs := ([2] : List Int)) (inner := [.int .i64 2]) (ok := fun _ => True) (okp := fun _ => True) ?hr ?hp (fun _ hk => hk) trivial (Below.refl _ _) (Nat.le_refl _) (by simp) ?_; (case hd => rfl); (case hg => rfl); (case hr => first | (go_simp; done) | (go_simp; rfl)); (case hp => exact (Reps.one (show Kd.M (Kd.int .i64) _ _ _ 2 [.int .i64 2] from rfl) (Reps.none _ _))); intro v114 w48 ho49 hb hg_ hnew_; clear hg_ hnew_; (first | rw [← Ny113.out] at ho49 | (simp only [Int.reduceToNat] at ho49; rw [← Ny113.out] at ho49)); have n0_ := Aside0.mk (Kd.R_below (by (with_reducible repeat (first | apply Kd.R_alloc | apply Kd.R_drewN | apply Kd.R_drew)); exact HO103.out) hb); have n1_ := Aside0.mk (Kd.R_elder' (by (with_reducible repeat (first | apply Kd.R_alloc | apply Kd.R_drewN | apply Kd.R_drew)); exact HO112.out) (Kd.R_base ho49) hb); have n2_ := Aside0.mk (Kd.R_lower (Kd.R_new' ho49 (Kd.R_lt (by (with_reducible repeat (first | apply Kd.R_alloc | apply Kd.R_drewN | apply Kd.R_drew)); exact HO112.out))) (below_size (by repeat (first | (with_reducible first | exact HB.out | apply below_alloc | apply pw_below_drewN | apply below_drew1) | exact HB.out)))); have n3_ := Aside0.mk (below_step (by repeat (first | (with_reducible first | exact HB.out | apply below_alloc | apply pw_below_drewN | apply below_drew1) | exact HB.out)) hb); clear HO103; clear HO112; clear HB; have HO103 := n0_; have HO112 := n1_; have HO115 := n2_; have HB := n3_; clear n0_ n1_ n2_ n3_; clear hb ho49; obtain ⟨Ao50, co50, eo50⟩ := Kd.R_slice HO112.out; subst eo50; obtain ⟨Ao51, co51, eo51⟩ := Kd.R_slice HO115.out; subst eo51) | (go_at_call 26; (with_reducible refine (lambrequinref10_Ints.calls k _ _ t110 _ _ y113 t116 _ ?side1 ?side2 ?side3 ?side4 A37.out).mono ?_); (case side1 => repeat (first | exact (Kd.R_reads' HO112.out).2.2 | (with_reducible refine Kd.C_alloc ?_ _) | (with_reducible refine Kd.C_drewN ?_ _) | (with_reducible refine Kd.C_drew ?_))); (case side2 => exact (Kd.R_reads' HO112.out).2.1); (case side3 => repeat (first | exact (Kd.R_reads' HO115.out).2.2 | (with_reducible refine Kd.C_alloc ?_ _) | (with_reducible refine Kd.C_drewN ?_ _) | (with_reducible refine Kd.C_drew ?_))); (case side4 => exact (Kd.R_reads' HO115.out).2.1); rintro e w' ⟨rfl, ⟨nd, rfl⟩⟩))
       go_ret
       exact ⟨by first | rfl | (simp [errW_none, errW_some] <;> rfl) | (simp [*, errW_none, errW_some] <;> rfl), by repeat (first | (with_reducible first | exact HB.out | apply below_alloc | apply pw_below_drewN | apply below_drew1) | exact HB.out)⟩
    ·replace c14 := Bool.eq_false_iff.mpr c14
     subst c14
     have H1 : (some false) = some r := by rw [if_neg (show ¬ (false = true) by decide)] at H; exact H
     clear H
     have H := H1
     clear H1
     obtain rfl := Option.some.inj H
     go_enter Try.func17, Try.ntmps17
     go_wp2_with (first | ((with_reducible refine gate_dst (N := 5) rfl ?_); (try (refine gate_guard (by rfl) ?_; dsimp only)); refine Kd.R_lit k30 _ 30 ?hg (N := 5) ?hd (xs := ([(⟨1, (⟨#[120]⟩ : ByteArray), (⟨#[]⟩ : ByteArray), (⟨#[]⟩ : ByteArray), (⟨#[]⟩ : ByteArray), 1, 0, 0⟩ : Stmt), (⟨6, (⟨#[]⟩ : ByteArray), (⟨#[120]⟩ : ByteArray), (⟨#[]⟩ : ByteArray), (⟨#[]⟩ : ByteArray), 0, 0, 0⟩ : Stmt), (⟨9, (⟨#[]⟩ : ByteArray), (⟨#[]⟩ : ByteArray), (⟨#[]⟩ : ByteArray), (⟨#[]⟩ : ByteArray), 0, 0, 0⟩ : Stmt)] : List (Stmt))) (inner := [.int .i64 1, .string (⟨#[120]⟩ : ByteArray), .string (⟨#[]⟩ : ByteArray), .string (⟨#[]⟩ : ByteArray), .string (⟨#[]⟩ : ByteArray), .int .i64 1, .int .i64 0, .int .i64 0, .int .i64 6, .string (⟨#[]⟩ : ByteArray), .string (⟨#[120]⟩ : ByteArray), .string (⟨#[]⟩ : ByteArray), .string (⟨#[]⟩ : ByteArray), .int .i64 0, .int .i64 0, .int .i64 0, .int .i64 9, .string (⟨#[]⟩ : ByteArray), .string (⟨#[]⟩ : ByteArray), .string (⟨#[]⟩ : ByteArray), .string (⟨#[]⟩ : ByteArray), .int .i64 0, .int .i64 0, .int .i64 0]) (ok := fun _ => True) (okp := fun _ => True) ?hr ?hp (fun _ hk => hk) trivial (Below.refl _ _) (Nat.le_refl _) (by simp) ?_; (case hd => rfl); (case hg => rfl); (case hr => first | (go_simp; done) | (go_simp; rfl)); (case hp => exact (Reps.c8 (show Kd.M k30 _ _ _ (⟨1, (⟨#[120]⟩ : ByteArray), (⟨#[]⟩ : ByteArray), (⟨#[]⟩ : ByteArray), (⟨#[]⟩ : ByteArray), 1, 0, 0⟩ : Stmt) [.int .i64 1, .string (⟨#[120]⟩ : ByteArray), .string (⟨#[]⟩ : ByteArray), .string (⟨#[]⟩ : ByteArray), .string (⟨#[]⟩ : ByteArray), .int .i64 1, .int .i64 0, .int .i64 0] from (k30_mkM _ _ _ (⟨1, (⟨#[120]⟩ : ByteArray), (⟨#[]⟩ : ByteArray), (⟨#[]⟩ : ByteArray), (⟨#[]⟩ : ByteArray), 1, 0, 0⟩ : Stmt) )) (Reps.c8 (show Kd.M k30 _ _ _ (⟨6, (⟨#[]⟩ : ByteArray), (⟨#[120]⟩ : ByteArray), (⟨#[]⟩ : ByteArray), (⟨#[]⟩ : ByteArray), 0, 0, 0⟩ : Stmt) [.int .i64 6, .string (⟨#[]⟩ : ByteArray), .string (⟨#[120]⟩ : ByteArray), .string (⟨#[]⟩ : ByteArray), .string (⟨#[]⟩ : ByteArray), .int .i64 0, .int .i64 0, .int .i64 0] from (k30_mkM _ _ _ (⟨6, (⟨#[]⟩ : ByteArray), (⟨#[120]⟩ : ByteArray), (⟨#[]⟩ : ByteArray), (⟨#[]⟩ : ByteArray), 0, 0, 0⟩ : Stmt) )) (Reps.c8 (show Kd.M k30 _ _ _ (⟨9, (⟨#[]⟩ : ByteArray), (⟨#[]⟩ : ByteArray), (⟨#[]⟩ : ByteArray), (⟨#[]⟩ : ByteArray), 0, 0, 0⟩ : Stmt) [.int .i64 9, .string (⟨#[]⟩ : ByteArray), .string (⟨#[]⟩ : ByteArray), .string (⟨#[]⟩ : ByteArray), .string (⟨#[]⟩ : ByteArray), .int .i64 0, .int .i64 0, .int .i64 0] from (k30_mkM _ _ _ (⟨9, (⟨#[]⟩ : ByteArray), (⟨#[]⟩ : ByteArray), (⟨#[]⟩ : ByteArray), (⟨#[]⟩ : ByteArray), 0, 0, 0⟩ : Stmt) )) (Reps.none _ _))))); intro v102 w52 ho53 hb hg_ hnew_; clear hg_ hnew_; (first | rw [← Ny101.out] at ho53 | (simp only [Int.reduceToNat] at ho53; rw [← Ny101.out] at ho53)); have n0_ := Aside0.mk (Kd.R_lower ho53 (below_size (by repeat (first | (with_reducible first | exact HB.out | apply below_alloc | apply pw_below_drewN | apply below_drew1) | exact HB.out)))); have n1_ := Aside0.mk (below_step (by repeat (first | (with_reducible first | exact HB.out | apply below_alloc | apply pw_below_drewN | apply below_drew1) | exact HB.out)) hb); clear HB; have HO103 := n0_; have HB := n1_; clear n0_ n1_; clear hb ho53; obtain ⟨Ao54, co54, eo54⟩ := Kd.R_slice HO103.out; subst eo54) | ((with_reducible refine gate_callee (f := 23) rfl ?_); refine goesL_ (some 7) rfl rfl Try.func23 (by kernel_rfl) rfl #[.slice Ao54 y101.length co54, .int .i64 1, .string (⟨#[120]⟩ : ByteArray), .int .i64 0] rfl (by (try simp only [List.map_toArray, List.map_cons, List.map_nil]); first | done | rfl | (simp only [List.length_drop, List.length_take]; rfl)) ?_; (with_reducible refine (cfg_Reaches.calls k _ _ y101 1 (⟨#[120]⟩ : ByteArray) 0 true _ ?side1 ?side2 A1.out).mono ?_); (case side1 => repeat (first | exact (Kd.R_reads' HO103.out).2.2 | (with_reducible refine Kd.C_alloc ?_ _) | (with_reducible refine Kd.C_drewN ?_ _) | (with_reducible refine Kd.C_drew ?_))); (case side2 => exact (Kd.R_reads' HO103.out).2.1); rintro e w55 ⟨rfl, hb⟩; refine ⟨_, rfl, ?_⟩; have n0_ := Aside0.mk (Kd.R_below (by (with_reducible repeat (first | apply Kd.R_alloc | apply Kd.R_drewN | apply Kd.R_drew)); exact HO103.out) hb); have n1_ := Aside0.mk (below_step (by repeat (first | (with_reducible first | exact HB.out | apply below_alloc | apply pw_below_drewN | apply below_drew1) | exact HB.out)) hb); clear HO103; clear HB; have HO103 := n0_; have HB := n1_; clear n0_ n1_; (try clear hb); (try clear hb2); (try clear hk); (try clear hi)) | (go_at_call 23; (with_reducible refine (cfg_Reaches.calls k _ _ y101 2 (⟨#[120]⟩ : ByteArray) 0 true _ ?side1 ?side2 A3.out).mono ?_); (case side1 => repeat (first | exact (Kd.R_reads' HO103.out).2.2 | (with_reducible refine Kd.C_alloc ?_ _) | (with_reducible refine Kd.C_drewN ?_ _) | (with_reducible refine Kd.C_drew ?_))); (case side2 => exact (Kd.R_reads' HO103.out).2.1); rintro e w56 ⟨rfl, hb⟩; have n0_ := Aside0.mk (Kd.R_below (by (with_reducible repeat (first | apply Kd.R_alloc | apply Kd.R_drewN | apply Kd.R_drew)); exact HO103.out) hb); have n1_ := Aside0.mk (below_step (by repeat (first | (with_reducible first | exact HB.out | apply below_alloc | apply pw_below_drewN | apply below_drew1) | exact HB.out)) hb); clear HO103; clear HB; have HO103 := n0_; have HB := n1_; clear n0_ n1_; (try clear hb); (try clear hb2); (try clear hk); (try clear hi)) | (go_at_call 23; (with_reducible refine (cfg_Reaches.calls k _ _ y101 0 (⟨#[120]⟩ : ByteArray) 0 false _ ?side1 ?side2 A5.out).mono ?_); (case side1 => repeat (first | exact (Kd.R_reads' HO103.out).2.2 | (with_reducible refine Kd.C_alloc ?_ _) | (with_reducible refine Kd.C_drewN ?_ _) | (with_reducible refine Kd.C_drew ?_))); (case side2 => exact (Kd.R_reads' HO103.out).2.1); rintro e w57 ⟨rfl, hb⟩; have n0_ := Aside0.mk (Kd.R_below (by (with_reducible repeat (first | apply Kd.R_alloc | apply Kd.R_drewN | apply Kd.R_drew)); exact HO103.out) hb); have n1_ := Aside0.mk (below_step (by repeat (first | (with_reducible first | exact HB.out | apply below_alloc | apply pw_below_drewN | apply below_drew1) | exact HB.out)) hb); clear HO103; clear HB; have HO103 := n0_; have HB := n1_; clear n0_ n1_; (try clear hb); (try clear hb2); (try clear hk); (try clear hi)) | (go_at_call 18; (with_reducible refine (cfg_Lives.calls k _ _ y101 1 (⟨#[120]⟩ : ByteArray) false _ ?side1 ?side2 A13.out).mono ?_); (case side1 => repeat (first | exact (Kd.R_reads' HO103.out).2.2 | (with_reducible refine Kd.C_alloc ?_ _) | (with_reducible refine Kd.C_drewN ?_ _) | (with_reducible refine Kd.C_drew ?_))); (case side2 => exact (Kd.R_reads' HO103.out).2.1); rintro e w58 ⟨rfl, hb⟩; have n0_ := Aside0.mk (Kd.R_below (by (with_reducible repeat (first | apply Kd.R_alloc | apply Kd.R_drewN | apply Kd.R_drew)); exact HO103.out) hb); have n1_ := Aside0.mk (below_step (by repeat (first | (with_reducible first | exact HB.out | apply below_alloc | apply pw_below_drewN | apply below_drew1) | exact HB.out)) hb); clear HO103; clear HB; have HO103 := n0_; have HB := n1_; clear n0_ n1_; (try clear hb); (try clear hb2); (try clear hk); (try clear hi)))
     go_ret
     exact ⟨by first | rfl | (simp [errW_none, errW_some] <;> rfl) | (simp [*, errW_none, errW_some] <;> rfl), by repeat (first | (with_reducible first | exact HB.out | apply below_alloc | apply pw_below_drewN | apply below_drew1) | exact HB.out)⟩
  ·replace c4 := Bool.eq_false_iff.mpr c4
   subst c4
   have H1 : (some false) = some r := by rw [if_neg (show ¬ (false = true) by decide)] at H; exact H
   clear H
   have H := H1
   clear H1
   obtain rfl := Option.some.inj H
   go_enter Try.func17, Try.ntmps17
   go_wp2_with (first | ((with_reducible refine gate_dst (N := 5) rfl ?_); (try (refine gate_guard (by rfl) ?_; dsimp only)); refine Kd.R_lit k30 _ 30 ?hg (N := 5) ?hd (xs := ([(⟨1, (⟨#[120]⟩ : ByteArray), (⟨#[]⟩ : ByteArray), (⟨#[]⟩ : ByteArray), (⟨#[]⟩ : ByteArray), 1, 0, 0⟩ : Stmt), (⟨6, (⟨#[]⟩ : ByteArray), (⟨#[120]⟩ : ByteArray), (⟨#[]⟩ : ByteArray), (⟨#[]⟩ : ByteArray), 0, 0, 0⟩ : Stmt), (⟨9, (⟨#[]⟩ : ByteArray), (⟨#[]⟩ : ByteArray), (⟨#[]⟩ : ByteArray), (⟨#[]⟩ : ByteArray), 0, 0, 0⟩ : Stmt)] : List (Stmt))) (inner := [.int .i64 1, .string (⟨#[120]⟩ : ByteArray), .string (⟨#[]⟩ : ByteArray), .string (⟨#[]⟩ : ByteArray), .string (⟨#[]⟩ : ByteArray), .int .i64 1, .int .i64 0, .int .i64 0, .int .i64 6, .string (⟨#[]⟩ : ByteArray), .string (⟨#[120]⟩ : ByteArray), .string (⟨#[]⟩ : ByteArray), .string (⟨#[]⟩ : ByteArray), .int .i64 0, .int .i64 0, .int .i64 0, .int .i64 9, .string (⟨#[]⟩ : ByteArray), .string (⟨#[]⟩ : ByteArray), .string (⟨#[]⟩ : ByteArray), .string (⟨#[]⟩ : ByteArray), .int .i64 0, .int .i64 0, .int .i64 0]) (ok := fun _ => True) (okp := fun _ => True) ?hr ?hp (fun _ hk => hk) trivial (Below.refl _ _) (Nat.le_refl _) (by simp) ?_; (case hd => rfl); (case hg => rfl); (case hr => first | (go_simp; done) | (go_simp; rfl)); (case hp => exact (Reps.c8 (show Kd.M k30 _ _ _ (⟨1, (⟨#[120]⟩ : ByteArray), (⟨#[]⟩ : ByteArray), (⟨#[]⟩ : ByteArray), (⟨#[]⟩ : ByteArray), 1, 0, 0⟩ : Stmt) [.int .i64 1, .string (⟨#[120]⟩ : ByteArray), .string (⟨#[]⟩ : ByteArray), .string (⟨#[]⟩ : ByteArray), .string (⟨#[]⟩ : ByteArray), .int .i64 1, .int .i64 0, .int .i64 0] from (k30_mkM _ _ _ (⟨1, (⟨#[120]⟩ : ByteArray), (⟨#[]⟩ : ByteArray), (⟨#[]⟩ : ByteArray), (⟨#[]⟩ : ByteArray), 1, 0, 0⟩ : Stmt) )) (Reps.c8 (show Kd.M k30 _ _ _ (⟨6, (⟨#[]⟩ : ByteArray), (⟨#[120]⟩ : ByteArray), (⟨#[]⟩ : ByteArray), (⟨#[]⟩ : ByteArray), 0, 0, 0⟩ : Stmt) [.int .i64 6, .string (⟨#[]⟩ : ByteArray), .string (⟨#[120]⟩ : ByteArray), .string (⟨#[]⟩ : ByteArray), .string (⟨#[]⟩ : ByteArray), .int .i64 0, .int .i64 0, .int .i64 0] from (k30_mkM _ _ _ (⟨6, (⟨#[]⟩ : ByteArray), (⟨#[120]⟩ : ByteArray), (⟨#[]⟩ : ByteArray), (⟨#[]⟩ : ByteArray), 0, 0, 0⟩ : Stmt) )) (Reps.c8 (show Kd.M k30 _ _ _ (⟨9, (⟨#[]⟩ : ByteArray), (⟨#[]⟩ : ByteArray), (⟨#[]⟩ : ByteArray), (⟨#[]⟩ : ByteArray), 0, 0, 0⟩ : Stmt) [.int .i64 9, .string (⟨#[]⟩ : ByteArray), .string (⟨#[]⟩ : ByteArray), .string (⟨#[]⟩ : ByteArray), .string (⟨#[]⟩ : ByteArray), .int .i64 0, .int .i64 0, .int .i64 0] from (k30_mkM _ _ _ (⟨9, (⟨#[]⟩ : ByteArray), (⟨#[]⟩ : ByteArray), (⟨#[]⟩ : ByteArray), (⟨#[]⟩ : ByteArray), 0, 0, 0⟩ : Stmt) )) (Reps.none _ _))))); intro v102 w59 ho60 hb hg_ hnew_; clear hg_ hnew_; (first | rw [← Ny101.out] at ho60 | (simp only [Int.reduceToNat] at ho60; rw [← Ny101.out] at ho60)); have n0_ := Aside0.mk (Kd.R_lower ho60 (below_size (by repeat (first | (with_reducible first | exact HB.out | apply below_alloc | apply pw_below_drewN | apply below_drew1) | exact HB.out)))); have n1_ := Aside0.mk (below_step (by repeat (first | (with_reducible first | exact HB.out | apply below_alloc | apply pw_below_drewN | apply below_drew1) | exact HB.out)) hb); clear HB; have HO103 := n0_; have HB := n1_; clear n0_ n1_; clear hb ho60; obtain ⟨Ao61, co61, eo61⟩ := Kd.R_slice HO103.out; subst eo61) | ((with_reducible refine gate_callee (f := 23) rfl ?_); refine goesL_ (some 7) rfl rfl Try.func23 (by kernel_rfl) rfl #[.slice Ao61 y101.length co61, .int .i64 1, .string (⟨#[120]⟩ : ByteArray), .int .i64 0] rfl (by (try simp only [List.map_toArray, List.map_cons, List.map_nil]); first | done | rfl | (simp only [List.length_drop, List.length_take]; rfl)) ?_; (with_reducible refine (cfg_Reaches.calls k _ _ y101 1 (⟨#[120]⟩ : ByteArray) 0 true _ ?side1 ?side2 A1.out).mono ?_); (case side1 => repeat (first | exact (Kd.R_reads' HO103.out).2.2 | (with_reducible refine Kd.C_alloc ?_ _) | (with_reducible refine Kd.C_drewN ?_ _) | (with_reducible refine Kd.C_drew ?_))); (case side2 => exact (Kd.R_reads' HO103.out).2.1); rintro e w62 ⟨rfl, hb⟩; refine ⟨_, rfl, ?_⟩; have n0_ := Aside0.mk (Kd.R_below (by (with_reducible repeat (first | apply Kd.R_alloc | apply Kd.R_drewN | apply Kd.R_drew)); exact HO103.out) hb); have n1_ := Aside0.mk (below_step (by repeat (first | (with_reducible first | exact HB.out | apply below_alloc | apply pw_below_drewN | apply below_drew1) | exact HB.out)) hb); clear HO103; clear HB; have HO103 := n0_; have HB := n1_; clear n0_ n1_; (try clear hb); (try clear hb2); (try clear hk); (try clear hi)) | (go_at_call 23; (with_reducible refine (cfg_Reaches.calls k _ _ y101 2 (⟨#[120]⟩ : ByteArray) 0 false _ ?side1 ?side2 A3.out).mono ?_); (case side1 => repeat (first | exact (Kd.R_reads' HO103.out).2.2 | (with_reducible refine Kd.C_alloc ?_ _) | (with_reducible refine Kd.C_drewN ?_ _) | (with_reducible refine Kd.C_drew ?_))); (case side2 => exact (Kd.R_reads' HO103.out).2.1); rintro e w63 ⟨rfl, hb⟩; have n0_ := Aside0.mk (Kd.R_below (by (with_reducible repeat (first | apply Kd.R_alloc | apply Kd.R_drewN | apply Kd.R_drew)); exact HO103.out) hb); have n1_ := Aside0.mk (below_step (by repeat (first | (with_reducible first | exact HB.out | apply below_alloc | apply pw_below_drewN | apply below_drew1) | exact HB.out)) hb); clear HO103; clear HB; have HO103 := n0_; have HB := n1_; clear n0_ n1_; (try clear hb); (try clear hb2); (try clear hk); (try clear hi)))
   go_ret
   exact ⟨by first | rfl | (simp [errW_none, errW_some] <;> rfl) | (simp [*, errW_none, errW_some] <;> rfl), by repeat (first | (with_reducible first | exact HB.out | apply below_alloc | apply pw_below_drewN | apply below_drew1) | exact HB.out)⟩
 ·replace c2 := Bool.eq_false_iff.mpr c2
  subst c2
  have H1 : (some false) = some r := by rw [if_neg (show ¬ (false = true) by decide)] at H; exact H
  clear H
  have H := H1
  clear H1
  obtain rfl := Option.some.inj H
  go_enter Try.func17, Try.ntmps17
  go_wp2_with (first | ((with_reducible refine gate_dst (N := 5) rfl ?_); (try (refine gate_guard (by rfl) ?_; dsimp only)); refine Kd.R_lit k30 _ 30 ?hg (N := 5) ?hd (xs := ([(⟨1, (⟨#[120]⟩ : ByteArray), (⟨#[]⟩ : ByteArray), (⟨#[]⟩ : ByteArray), (⟨#[]⟩ : ByteArray), 1, 0, 0⟩ : Stmt), (⟨6, (⟨#[]⟩ : ByteArray), (⟨#[120]⟩ : ByteArray), (⟨#[]⟩ : ByteArray), (⟨#[]⟩ : ByteArray), 0, 0, 0⟩ : Stmt), (⟨9, (⟨#[]⟩ : ByteArray), (⟨#[]⟩ : ByteArray), (⟨#[]⟩ : ByteArray), (⟨#[]⟩ : ByteArray), 0, 0, 0⟩ : Stmt)] : List (Stmt))) (inner := [.int .i64 1, .string (⟨#[120]⟩ : ByteArray), .string (⟨#[]⟩ : ByteArray), .string (⟨#[]⟩ : ByteArray), .string (⟨#[]⟩ : ByteArray), .int .i64 1, .int .i64 0, .int .i64 0, .int .i64 6, .string (⟨#[]⟩ : ByteArray), .string (⟨#[120]⟩ : ByteArray), .string (⟨#[]⟩ : ByteArray), .string (⟨#[]⟩ : ByteArray), .int .i64 0, .int .i64 0, .int .i64 0, .int .i64 9, .string (⟨#[]⟩ : ByteArray), .string (⟨#[]⟩ : ByteArray), .string (⟨#[]⟩ : ByteArray), .string (⟨#[]⟩ : ByteArray), .int .i64 0, .int .i64 0, .int .i64 0]) (ok := fun _ => True) (okp := fun _ => True) ?hr ?hp (fun _ hk => hk) trivial (Below.refl _ _) (Nat.le_refl _) (by simp) ?_; (case hd => rfl); (case hg => rfl); (case hr => first | (go_simp; done) | (go_simp; rfl)); (case hp => exact (Reps.c8 (show Kd.M k30 _ _ _ (⟨1, (⟨#[120]⟩ : ByteArray), (⟨#[]⟩ : ByteArray), (⟨#[]⟩ : ByteArray), (⟨#[]⟩ : ByteArray), 1, 0, 0⟩ : Stmt) [.int .i64 1, .string (⟨#[120]⟩ : ByteArray), .string (⟨#[]⟩ : ByteArray), .string (⟨#[]⟩ : ByteArray), .string (⟨#[]⟩ : ByteArray), .int .i64 1, .int .i64 0, .int .i64 0] from (k30_mkM _ _ _ (⟨1, (⟨#[120]⟩ : ByteArray), (⟨#[]⟩ : ByteArray), (⟨#[]⟩ : ByteArray), (⟨#[]⟩ : ByteArray), 1, 0, 0⟩ : Stmt) )) (Reps.c8 (show Kd.M k30 _ _ _ (⟨6, (⟨#[]⟩ : ByteArray), (⟨#[120]⟩ : ByteArray), (⟨#[]⟩ : ByteArray), (⟨#[]⟩ : ByteArray), 0, 0, 0⟩ : Stmt) [.int .i64 6, .string (⟨#[]⟩ : ByteArray), .string (⟨#[120]⟩ : ByteArray), .string (⟨#[]⟩ : ByteArray), .string (⟨#[]⟩ : ByteArray), .int .i64 0, .int .i64 0, .int .i64 0] from (k30_mkM _ _ _ (⟨6, (⟨#[]⟩ : ByteArray), (⟨#[120]⟩ : ByteArray), (⟨#[]⟩ : ByteArray), (⟨#[]⟩ : ByteArray), 0, 0, 0⟩ : Stmt) )) (Reps.c8 (show Kd.M k30 _ _ _ (⟨9, (⟨#[]⟩ : ByteArray), (⟨#[]⟩ : ByteArray), (⟨#[]⟩ : ByteArray), (⟨#[]⟩ : ByteArray), 0, 0, 0⟩ : Stmt) [.int .i64 9, .string (⟨#[]⟩ : ByteArray), .string (⟨#[]⟩ : ByteArray), .string (⟨#[]⟩ : ByteArray), .string (⟨#[]⟩ : ByteArray), .int .i64 0, .int .i64 0, .int .i64 0] from (k30_mkM _ _ _ (⟨9, (⟨#[]⟩ : ByteArray), (⟨#[]⟩ : ByteArray), (⟨#[]⟩ : ByteArray), (⟨#[]⟩ : ByteArray), 0, 0, 0⟩ : Stmt) )) (Reps.none _ _))))); intro v102 w64 ho65 hb hg_ hnew_; clear hg_ hnew_; (first | rw [← Ny101.out] at ho65 | (simp only [Int.reduceToNat] at ho65; rw [← Ny101.out] at ho65)); have n0_ := Aside0.mk (Kd.R_lower ho65 (below_size (by repeat (first | (with_reducible first | exact HB.out | apply below_alloc | apply pw_below_drewN | apply below_drew1) | exact HB.out)))); have n1_ := Aside0.mk (below_step (by repeat (first | (with_reducible first | exact HB.out | apply below_alloc | apply pw_below_drewN | apply below_drew1) | exact HB.out)) hb); clear HB; have HO103 := n0_; have HB := n1_; clear n0_ n1_; clear hb ho65; obtain ⟨Ao66, co66, eo66⟩ := Kd.R_slice HO103.out; subst eo66) | ((with_reducible refine gate_callee (f := 23) rfl ?_); refine goesL_ (some 7) rfl rfl Try.func23 (by kernel_rfl) rfl #[.slice Ao66 y101.length co66, .int .i64 1, .string (⟨#[120]⟩ : ByteArray), .int .i64 0] rfl (by (try simp only [List.map_toArray, List.map_cons, List.map_nil]); first | done | rfl | (simp only [List.length_drop, List.length_take]; rfl)) ?_; (with_reducible refine (cfg_Reaches.calls k _ _ y101 1 (⟨#[120]⟩ : ByteArray) 0 false _ ?side1 ?side2 A1.out).mono ?_); (case side1 => repeat (first | exact (Kd.R_reads' HO103.out).2.2 | (with_reducible refine Kd.C_alloc ?_ _) | (with_reducible refine Kd.C_drewN ?_ _) | (with_reducible refine Kd.C_drew ?_))); (case side2 => exact (Kd.R_reads' HO103.out).2.1); rintro e w67 ⟨rfl, hb⟩; refine ⟨_, rfl, ?_⟩; have n0_ := Aside0.mk (Kd.R_below (by (with_reducible repeat (first | apply Kd.R_alloc | apply Kd.R_drewN | apply Kd.R_drew)); exact HO103.out) hb); have n1_ := Aside0.mk (below_step (by repeat (first | (with_reducible first | exact HB.out | apply below_alloc | apply pw_below_drewN | apply below_drew1) | exact HB.out)) hb); clear HO103; clear HB; have HO103 := n0_; have HB := n1_; clear n0_ n1_; (try clear hb); (try clear hb2); (try clear hk); (try clear hi)))
  go_ret
  exact ⟨by first | rfl | (simp [errW_none, errW_some] <;> rfl) | (simp [*, errW_none, errW_some] <;> rfl), by repeat (first | (with_reducible first | exact HB.out | apply below_alloc | apply pw_below_drewN | apply below_drew1) | exact HB.out)⟩

end Go.Proofs.Ytnepgcbgkhikkaa.H
namespace Go.Proofs.Ytnepgcbgkhikkaa.H
open Go.RowKit Go.Proofs.YtnepgcbgkhikkaaW.PrintWords
set_option linter.unusedVariables false
set_option linter.unusedSimpArgs false
/-! ### what a statement defines and uses -/
def defN (st : Stmt) : ByteArray × Bool := if st.kind = 1 ∨ st.kind = 2 ∨ st.kind = 3 ∨ st.kind = 4 ∨ st.kind = 5 then (st.x, true) else ((⟨#[]⟩ : ByteArray), false)
theorem Def_eq (st : Stmt) : cfg_Def.f st.kind st.x st.y st.z st.op st.n st.a st.b = some (defN st) := by
  unfold cfg_Def.f defN
  repeat' split
  all_goals first | rfl | (exfalso; omega)
def defB (st : Stmt) (x : ByteArray) : Bool := (defN st).2 && decide ((defN st).1 = x)
theorem defB_iff {st : Stmt} {x : ByteArray} : defB st x = true ↔ (defN st).2 = true ∧ (defN st).1 = x := by simp [defB]
theorem defines_eq (st : Stmt) (x : ByteArray) : cfg_defines.f st.kind st.x st.y st.z st.op st.n st.a st.b x = some (defB st x) := by
  unfold cfg_defines.f
  rw [Def_eq]
  simp only [Option.bind_some, defB]
  cases h : (defN st).2 with
  | true =>
    rw [if_pos rfl]
    have : ((defN st).1.toList == x.toList) = decide ((defN st).1 = x) := by
      rw [Bool.eq_iff_iff]; simp [lib_ba_eq]
    simp [this]
  | false => rw [if_neg (by simp)]; rfl
def keepS (s : List Stmt) (x : ByteArray) : Int → Bool := fun m => !defB (at_ s m) x
theorem keepF_on (s : List Stmt) (x : ByteArray) (m : Int) (h0 : 0 ≤ m) (h1 : m < (s.length : Int)) : keepF s x m = some (keepS s x m) := by
  unfold keepF keepS at_
  rw [if_pos h0, if_pos h1, defines_eq]; rfl
theorem clone1 (a : ByteArray) : cfg_sorted_string.f [a] = some [a] := by
  simp [cfg_sorted_string.f, slices_Clone_string_string.f, slices_Sort_string_string.f, slices_Compact_string_string.f, srtS1]
theorem clone2 (a b : ByteArray) : cfg_sorted_string.f [a, b] = some (compactS (sortS [a, b])) := by
  simp [cfg_sorted_string.f, slices_Clone_string_string.f, slices_Sort_string_string.f, slices_Compact_string_string.f]
def usesS (st : Stmt) : List ByteArray := if st.kind = 2 then compactS (sortS [st.y, st.z]) else if st.kind = 3 ∨ st.kind = 5 ∨ st.kind = 6 ∨ st.kind = 7 then [st.y] else []
theorem Uses_eq (st : Stmt) : cfg_Uses.f st.kind st.x st.y st.z st.op st.n st.a st.b = some (usesS st) := by
  unfold cfg_Uses.f usesS
  simp only [clone1, clone2, Option.bind_some]
  repeat' split
  all_goals first | rfl | (exfalso; omega)
theorem usesS_len (st : Stmt) : (usesS st).length ≤ 2 := by
  unfold usesS
  repeat' split
  · exact Nat.le_trans (compactS_len _) (by rw [sortS_len]; simp)
  · simp
  · simp
/-! ### Reaches -/
def reachP (s : List Stmt) (n : Int) (x : ByteArray) (d : Int) : Prop := 0 ≤ n ∧ n < (s.length : Int) ∧ 0 ≤ d ∧ d < (s.length : Int) ∧ defB (at_ s d) x = true ∧ Rch s (keepS s x) (nxt s d) n
theorem Reaches_ev (s : List Stmt) (n : Int) (x : ByteArray) (d : Int) (hs : s.length ≤ 1000) : ∃ b, Ev (fun k => cfg_Reaches.f k s n x d) b ∧ (b = true ↔ reachP s n x d) := by
  unfold cfg_Reaches.f
  have no : Ev (fun k => cfg_Reaches.j0 k n d true s x) false := Ev.step (fun k => by rw [cfg_Reaches.j0]) (Ev.pos rfl (Ev.now _))
  have w : ∀ m : Int, withinB s.length m = true ↔ 0 ≤ m ∧ m < (s.length : Int) := by intro m; simp [withinB]
  by_cases hn : 0 ≤ n ∧ n < (s.length : Int)
  · by_cases hd : 0 ≤ d ∧ d < (s.length : Int)
    · cases hb : defB (at_ s d) x with
      | false =>
        refine ⟨false, Ev.pure (within_eq s n) (Ev.pos ((w n).2 hn) (Ev.pure (within_eq s d) (Ev.pos ((w d).2 hd) (Ev.pos hd.1 (Ev.pos hd.2 (Ev.pure (defines_eq (at_ s d) x) ?_)))))), by simp [reachP, hb]⟩
        rw [hb]; exact no
      | true =>
        obtain ⟨r, hr, hrl, hri⟩ := ways_ev s (keepF s x) (keepS s x) (keepF_on s x) (nxt s d) (fun f hf => ⟨(nxt_within hf).1, (nxt_within hf).2.1⟩) hs (by have := nxt_len s d; omega)
        obtain ⟨i, rfl⟩ : ∃ q : Nat, n = (q : Int) := ⟨n.toNat, by omega⟩
        cases hv : r[i]? with
        | none => rw [List.getElem?_eq_none_iff] at hv; omega
        | some v =>
          refine ⟨v, Ev.pure (within_eq s i) (Ev.pos ((w i).2 hn) (Ev.pure (within_eq s d) (Ev.pos ((w d).2 hd) (Ev.pos hd.1 (Ev.pos hd.2 (Ev.pure (defines_eq (at_ s d) x) ?_)))))), ?_⟩
          · rw [hb]
            refine Ev.step (fun k => by rw [cfg_Reaches.j0]) (Ev.neg (by simp) (Ev.pure (Next_eq s d) (Ev.bind hr ?_)))
            exact Ev.pos (by omega) (Ev.pos (by omega) (Ev.some (getD_at hv _)))
          · rw [← Option.some_inj, ← hv, hri i]
            simp [reachP, hb, hn, hd]
    · refine ⟨false, Ev.pure (within_eq s n) (Ev.pos ((w n).2 hn) (Ev.pure (within_eq s d) (Ev.neg (fun h => hd ((w d).1 h)) no))), ⟨fun h => by simp at h, fun h => absurd ⟨h.2.2.1, h.2.2.2.1⟩ hd⟩⟩
  · refine ⟨false, Ev.pure (within_eq s n) (Ev.neg (fun h => hn ((w n).1 h)) no), ⟨fun h => by simp at h, fun h => absurd ⟨h.1, h.2.1⟩ hn⟩⟩
/-! ### Lives -/
def liveP (s : List Stmt) (n : Int) (x : ByteArray) : Prop := 0 ≤ n ∧ n < (s.length : Int) ∧ ∃ m : Int, Rch s (keepS s x) [n] m ∧ x ∈ usesS (at_ s m)
theorem Rch_within {s : List Stmt} {on : Int → Bool} {fr : List Int} (hfr : ∀ f ∈ fr, 0 ≤ f ∧ f < (s.length : Int)) {n : Int} (h : Rch s on fr n) : 0 ≤ n ∧ n < (s.length : Int) := by
  cases h with
  | base h => exact hfr _ h
  | step _ _ h => exact ⟨(nxt_within h).1, (nxt_within h).2.1⟩
theorem Lives_l0 (s : List Stmt) (x : ByteArray) (seen : List Bool) (hl : seen.length = s.length) (hs : s.length ≤ 1000) : ∀ (d i : Nat), i + d = s.length →
    ∃ b, Ev (fun k => cfg_Lives.l0 k seen (seen.length : Int) i s x) b ∧ (b = true ↔ ∃ m : Nat, i ≤ m ∧ seen[m]? = some true ∧ x ∈ usesS (at_ s m))
  | 0, i, e => by
    refine ⟨false, Ev.step (fun k => by rw [cfg_Lives.l0]) (Ev.neg (by omega) (Ev.now _)), by
      simp only [Bool.false_eq_true, false_iff, not_exists]
      rintro m ⟨h1, h2, -⟩
      have := (List.getElem?_eq_some_iff.1 h2).1
      omega⟩
  | d + 1, i, e => by
    obtain ⟨b, hb, hbi⟩ := Lives_l0 s x seen hl hs d (i + 1) (by omega)
    have more : ∀ {P : Prop}, (P ↔ ∃ m : Nat, i + 1 ≤ m ∧ seen[m]? = some true ∧ x ∈ usesS (at_ s m)) → ¬ (seen[i]? = some true ∧ x ∈ usesS (at_ s i)) → (P ↔ ∃ m : Nat, i ≤ m ∧ seen[m]? = some true ∧ x ∈ usesS (at_ s m)) := by
      intro P hP hn
      rw [hP]
      constructor
      · rintro ⟨m, h1, h2⟩; exact ⟨m, by omega, h2⟩
      · rintro ⟨m, h1, h2⟩
        rcases Nat.lt_or_ge i m with h | h
        · exact ⟨m, h, h2⟩
        · obtain rfl : m = i := by omega
          exact absurd h2 hn
    cases hv : seen[i]? with
    | none => rw [List.getElem?_eq_none_iff] at hv; omega
    | some v =>
      cases v with
      | false =>
        refine ⟨b, Ev.step (fun k => by rw [cfg_Lives.l0]) (Ev.pos (by omega) (Ev.pos (by omega) (Ev.pos (by omega) ?_))), more hbi (by rw [hv]; simp)⟩
        rw [show rdOf false seen (i : Int) = false from getD_at hv _, wrap_up (by omega)]
        exact Ev.neg (by simp) hb
      | true =>
        by_cases c : x ∈ usesS (at_ s i)
        · refine ⟨true, Ev.step (fun k => by rw [cfg_Lives.l0]) (Ev.pos (by omega) (Ev.pos (by omega) (Ev.pos (by omega) ?_))), by simp only [true_iff]; exact ⟨i, Nat.le_refl _, hv, c⟩⟩
          rw [show rdOf false seen (i : Int) = true from getD_at hv _]
          refine Ev.pos rfl (Ev.pos (by omega) (Ev.pure (Uses_eq (at_ s i)) (Ev.bind (Contains_ev _ x (by have := usesS_len (at_ s i); omega)) ?_)))
          rw [mem_iff.2 c]
          exact Ev.pos rfl (Ev.now _)
        · refine ⟨b, Ev.step (fun k => by rw [cfg_Lives.l0]) (Ev.pos (by omega) (Ev.pos (by omega) (Ev.pos (by omega) ?_))), more hbi (fun h => c h.2)⟩
          rw [show rdOf false seen (i : Int) = true from getD_at hv _, wrap_up (by omega)]
          refine Ev.pos rfl (Ev.pos (by omega) (Ev.pure (Uses_eq (at_ s i)) (Ev.bind (Contains_ev _ x (by have := usesS_len (at_ s i); omega)) ?_)))
          exact Ev.neg (by rw [mem_iff]; exact c) hb
theorem Lives_ev (s : List Stmt) (n : Int) (x : ByteArray) (hs : s.length ≤ 1000) : ∃ b, Ev (fun k => cfg_Lives.f k s n x) b ∧ (b = true ↔ liveP s n x) := by
  unfold cfg_Lives.f
  have w : withinB s.length n = true ↔ 0 ≤ n ∧ n < (s.length : Int) := by simp [withinB]
  by_cases hn : 0 ≤ n ∧ n < (s.length : Int)
  · have hfr : ∀ f ∈ [n], 0 ≤ f ∧ f < (s.length : Int) := by intro f hf; simp at hf; subst hf; exact hn
    obtain ⟨r, hr, hrl, hri⟩ := ways_ev s (keepF s x) (keepS s x) (keepF_on s x) [n] hfr hs (by simp)
    obtain ⟨b, hb, hbi⟩ := Lives_l0 s x r hrl hs s.length 0 (by omega)
    refine ⟨b, Ev.pure (within_eq s n) (Ev.pos (w.2 hn) (Ev.bind hr hb)), ?_⟩
    rw [hbi]
    constructor
    · rintro ⟨m, -, h2, h3⟩; exact ⟨hn.1, hn.2, m, (hri m).1 h2, h3⟩
    · rintro ⟨-, -, m, h1, h2⟩
      have hm := Rch_within hfr h1
      obtain ⟨i, rfl⟩ : ∃ q : Nat, m = (q : Int) := ⟨m.toNat, by omega⟩
      exact ⟨i, by omega, (hri i).2 h1, h2⟩
  · refine ⟨false, Ev.pure (within_eq s n) (Ev.neg (fun h => hn (w.1 h)) (Ev.now _)), ?_⟩
    simp only [liveP, Bool.false_eq_true, false_iff]
    rintro ⟨a, b, -⟩
    exact hn ⟨a, b⟩
/-! ### the example -/
theorem ev_of {g : Nat → Option Bool} {P : Prop} (h : ∃ b, Ev g b ∧ (b = true ↔ P)) {b : Bool} (e : b = true ↔ P) : Ev g b := by
  obtain ⟨c, hc, hp⟩ := h
  have : c = b := by rw [Bool.eq_iff_iff, hp, e]
  exact this ▸ hc
theorem ev_yes {g : Nat → Option Bool} {P : Prop} (h : ∃ b, Ev g b ∧ (b = true ↔ P)) (e : P) : Ev g true := ev_of h (by simp [e])
theorem ev_no {g : Nat → Option Bool} {P : Prop} (h : ∃ b, Ev g b ∧ (b = true ↔ P)) (e : ¬ P) : Ev g false := ev_of h (by simp [e])
def exX : ByteArray := (⟨#[120]⟩ : ByteArray)
def exL : List Stmt := [(⟨1, (⟨#[120]⟩ : ByteArray), (⟨#[]⟩ : ByteArray), (⟨#[]⟩ : ByteArray), (⟨#[]⟩ : ByteArray), 1, 0, 0⟩ : Stmt), (⟨6, (⟨#[]⟩ : ByteArray), (⟨#[120]⟩ : ByteArray), (⟨#[]⟩ : ByteArray), (⟨#[]⟩ : ByteArray), 0, 0, 0⟩ : Stmt), (⟨9, (⟨#[]⟩ : ByteArray), (⟨#[]⟩ : ByteArray), (⟨#[]⟩ : ByteArray), (⟨#[]⟩ : ByteArray), 0, 0, 0⟩ : Stmt)]
theorem exn (n : Int) : nxt exL n = if n = 0 then [1] else if n = 1 then [2] else [] := by
  by_cases h0 : n = 0
  · subst h0; decide +kernel
  · by_cases h1 : n = 1
    · subst h1; decide +kernel
    · by_cases h2 : n = 2
      · subst h2; decide +kernel
      · unfold nxt
        rw [if_neg (by intro h; have : (exL.length : Int) = 3 := rfl; omega), if_neg h0, if_neg h1]
theorem shown20_ev : Ev (fun k => lambrequinlaw20_shown.f k) true := by
  unfold lambrequinlaw20_shown.f
  refine Ev.pure (a := exL) rfl ?_
  have hl : exL.length ≤ 1000 := by decide
  have k0 : keepS exL exX 0 = false := by decide +kernel
  have k1 : keepS exL exX 1 = true := by decide +kernel
  have k2 : keepS exL exX 2 = true := by decide +kernel
  have e0 : nxt exL 0 = [1] := by rw [exn]; rfl
  have r1 : Rch exL (keepS exL exX) (nxt exL 0) 1 := .base (by rw [e0]; simp)
  refine Ev.bind (ev_yes (Reaches_ev exL 1 exX 0 hl) ⟨by decide, by decide, by decide, by decide, by decide +kernel, r1⟩) (Ev.pos rfl ?_)
  refine Ev.bind (ev_yes (Reaches_ev exL 2 exX 0 hl) ⟨by decide, by decide, by decide, by decide, by decide +kernel, .step r1 k1 (by rw [exn]; decide)⟩) (Ev.pos rfl ?_)
  have n0 : ∀ m : Int, (0 : Int) ∈ nxt exL m → False := by
    intro m hm
    rw [exn] at hm
    split at hm
    · simp at hm
    · split at hm <;> simp at hm
  refine Ev.bind (ev_no (Reaches_ev exL 0 exX 0 hl) ?_) (Ev.neg (by simp) ?_)
  · rintro ⟨-, -, -, -, -, h⟩
    cases h with
    | base h => exact n0 _ h
    | step _ _ h => exact n0 _ h
  refine Ev.bind (ev_yes (Lives_ev exL 1 exX hl) ⟨by decide, by decide, 1, .base (by simp), mem_iff.1 (by decide +kernel)⟩) (Ev.pos rfl ?_)
  refine Ev.bind (ev_no (Lives_ev exL 0 exX hl) ?_) (Ev.neg (by simp) ?_)
  · rintro ⟨-, -, m, h, hu⟩
    have : m = 0 := by
      clear hu
      induction h with
      | base h => simpa using h
      | step h1 ho hj ih => rw [ih, k0] at ho; cases ho
    subst this
    rw [← mem_iff] at hu
    revert hu; decide +kernel
  refine Ev.bind (ev_no (Lives_ev exL 2 exX hl) ?_) (Ev.neg (by simp) ?_)
  · rintro ⟨-, -, m, h, hu⟩
    have : m = 2 := by
      clear hu
      induction h with
      | base h => simpa using h
      | step h1 ho hj ih => rw [ih, exn] at hj; simp at hj
    subst this
    rw [← mem_iff] at hu
    revert hu; decide +kernel
  refine Ev.pure (Next_eq exL 1) (Ev.bind (Ints_ev _ _ (by rw [exn]; decide)) (Ev.some ?_))
  rw [exn]; decide
end Go.Proofs.Ytnepgcbgkhikkaa.H
