/- RowInterpSteps of the seat's law InterpSteps: the law holds, under the statement's own conditions. -/
import Derived.Test.YtnepgcbgkhikkaaNXInterpSteps
import Derived.Test.YtnepgcbgkhikkaaNXInterpSteps2
import Derived.Test.YtnepgcbgkhikkaaNXInterpSteps1
namespace Go.Proofs.Ytnepgcbgkhikkaa.H
open Go.RowKit Go.Proofs.YtnepgcbgkhikkaaW.PrintWords Go.Proofs.YtnepgcbgkhikkaaW.PrintLast Go.Proofs.YtnepgcbgkhikkaaW.PrintMore
attribute [local go_sem] max2_int min2_int max_two min_two max_three min_three max_four min_four
set_option linter.unusedVariables false
set_option linter.unusedSimpArgs false
def lambrequinlaw20_shown.f (k : Nat)  : Option (Bool) := (some (([(⟨1, (⟨#[120]⟩ : ByteArray), (⟨#[]⟩ : ByteArray), (⟨#[]⟩ : ByteArray), (⟨#[]⟩ : ByteArray), 1, 0, 0⟩ : Stmt), (⟨6, (⟨#[]⟩ : ByteArray), (⟨#[120]⟩ : ByteArray), (⟨#[]⟩ : ByteArray), (⟨#[]⟩ : ByteArray), 0, 0, 0⟩ : Stmt), (⟨9, (⟨#[]⟩ : ByteArray), (⟨#[]⟩ : ByteArray), (⟨#[]⟩ : ByteArray), (⟨#[]⟩ : ByteArray), 0, 0, 0⟩ : Stmt)] : List (Stmt)) : List (Stmt))).bind fun y101 => ((cfg_Reaches.f k y101 1 (⟨#[120]⟩ : ByteArray) 0).bind fun t104 => (if t104 = true then ((cfg_Reaches.f k y101 2 (⟨#[120]⟩ : ByteArray) 0).bind fun t105 => (if t105 = true then ((cfg_Reaches.f k y101 0 (⟨#[120]⟩ : ByteArray) 0).bind fun t106 => (if t106 = true then (some false) else ((cfg_Lives.f k y101 1 (⟨#[120]⟩ : ByteArray)).bind fun t107 => (if t107 = true then ((cfg_Lives.f k y101 0 (⟨#[120]⟩ : ByteArray)).bind fun t108 => (if t108 = true then (some false) else ((cfg_Lives.f k y101 2 (⟨#[120]⟩ : ByteArray)).bind fun t109 => (if t109 = true then (some false) else ((cfg_Next.f y101 1).bind fun t110 => ((lambrequinref10_Ints.f k t110 (([2] : List Int))).bind fun t116 => (some t116))))))) else (some false))))) else (some false))) else (some false)))
theorem lambrequinlaw20_shown.mono : ∀ k, LeO (lambrequinlaw20_shown.f k ) (lambrequinlaw20_shown.f (k + 1) ) := by
 intro  k
 unfold lambrequinlaw20_shown.f
 repeat' first
   | (with_reducible exact cfg_Lives.mono _ _ _ _)
   | (with_reducible exact cfg_Reaches.mono _ _ _ _ _)
   | (with_reducible exact lambrequinref10_Ints.mono _ _ _)
   | (with_reducible exact LeO.refl _)
   | (with_reducible exact LeO.none _)
   | (with_reducible refine LeO.ite ?_ ?_)
   | (with_reducible refine LeO.bind ?_ (fun _ => ?_))
   | exact cfg_Lives.mono _ _ _ _
   | exact cfg_Reaches.mono _ _ _ _ _
   | exact lambrequinref10_Ints.mono _ _ _
   | exact LeO.none _
   | refine LeO.ite ?_ ?_
   | refine LeO.bind ?_ (fun _ => ?_)
set_option maxHeartbeats 8000000 in
set_option maxRecDepth 100000 in
theorem lambrequinlaw20_shown.calls (k : Nat)  (r : Bool) (w : World) (h : lambrequinlaw20_shown.f k  = some r) :
  Calls Try.prog 17 #[] w fun e w' => e = .returned (.bool r) ∧ Below w.heap.size w w' := by
 have hu30 := Try.underlying30
 have HB := am (Below.refl w.heap.size w)
 have H : ((some (([(⟨1, (⟨#[120]⟩ : ByteArray), (⟨#[]⟩ : ByteArray), (⟨#[]⟩ : ByteArray), (⟨#[]⟩ : ByteArray), 1, 0, 0⟩ : Stmt), (⟨6, (⟨#[]⟩ : ByteArray), (⟨#[120]⟩ : ByteArray), (⟨#[]⟩ : ByteArray), (⟨#[]⟩ : ByteArray), 0, 0, 0⟩ : Stmt), (⟨9, (⟨#[]⟩ : ByteArray), (⟨#[]⟩ : ByteArray), (⟨#[]⟩ : ByteArray), (⟨#[]⟩ : ByteArray), 0, 0, 0⟩ : Stmt)] : List (Stmt)) : List (Stmt))).bind fun y101 => ((cfg_Reaches.f k y101 1 (⟨#[120]⟩ : ByteArray) 0).bind fun t104 => (if t104 = true then ((cfg_Reaches.f k y101 2 (⟨#[120]⟩ : ByteArray) 0).bind fun t105 => (if t105 = true then ((cfg_Reaches.f k y101 0 (⟨#[120]⟩ : ByteArray) 0).bind fun t106 => (if t106 = true then (some false) else ((cfg_Lives.f k y101 1 (⟨#[120]⟩ : ByteArray)).bind fun t107 => (if t107 = true then ((cfg_Lives.f k y101 0 (⟨#[120]⟩ : ByteArray)).bind fun t108 => (if t108 = true then (some false) else ((cfg_Lives.f k y101 2 (⟨#[120]⟩ : ByteArray)).bind fun t109 => (if t109 = true then (some false) else ((cfg_Next.f y101 1).bind fun t110 => ((lambrequinref10_Ints.f k t110 (([2] : List Int))).bind fun t116 => (some t116))))))) else (some false))))) else (some false))) else (some false)))) = some r := h
 clear h
 obtain ⟨y101, hy101⟩ : ∃ y_ : List (Stmt), y_ = (([(⟨1, (⟨#[120]⟩ : ByteArray), (⟨#[]⟩ : ByteArray), (⟨#[]⟩ : ByteArray), (⟨#[]⟩ : ByteArray), 1, 0, 0⟩ : Stmt), (⟨6, (⟨#[]⟩ : ByteArray), (⟨#[120]⟩ : ByteArray), (⟨#[]⟩ : ByteArray), (⟨#[]⟩ : ByteArray), 0, 0, 0⟩ : Stmt), (⟨9, (⟨#[]⟩ : ByteArray), (⟨#[]⟩ : ByteArray), (⟨#[]⟩ : ByteArray), (⟨#[]⟩ : ByteArray), 0, 0, 0⟩ : Stmt)] : List (Stmt))) := ⟨_, rfl⟩
 replace H : ((cfg_Reaches.f k y101 1 (⟨#[120]⟩ : ByteArray) 0).bind fun t104 => (if t104 = true then ((cfg_Reaches.f k y101 2 (⟨#[120]⟩ : ByteArray) 0).bind fun t105 => (if t105 = true then ((cfg_Reaches.f k y101 0 (⟨#[120]⟩ : ByteArray) 0).bind fun t106 => (if t106 = true then (some false) else ((cfg_Lives.f k y101 1 (⟨#[120]⟩ : ByteArray)).bind fun t107 => (if t107 = true then ((cfg_Lives.f k y101 0 (⟨#[120]⟩ : ByteArray)).bind fun t108 => (if t108 = true then (some false) else ((cfg_Lives.f k y101 2 (⟨#[120]⟩ : ByteArray)).bind fun t109 => (if t109 = true then (some false) else ((cfg_Next.f y101 1).bind fun t110 => ((lambrequinref10_Ints.f k t110 (([2] : List Int))).bind fun t116 => (some t116))))))) else (some false))))) else (some false))) else (some false))) = some r := by first | (rw [hy101]; with_reducible exact H) | (have H2_ := (Option.bind_some _ _).symm.trans H; rw [hy101]; with_reducible exact H2_) | (have H2_ := (Option.bind_some _ _).symm.trans H; with_reducible exact H2_) | with_reducible exact H | (rw [hy101]; exact H) | exact H
 have Ny101 := am hy101
 clear hy101
 replace H := Option.bind_eq_some_iff.mp H
 obtain ⟨t104, A10, H⟩ := H
 replace H : (if t104 = true then ((cfg_Reaches.f k y101 2 (⟨#[120]⟩ : ByteArray) 0).bind fun t105 => (if t105 = true then ((cfg_Reaches.f k y101 0 (⟨#[120]⟩ : ByteArray) 0).bind fun t106 => (if t106 = true then (some false) else ((cfg_Lives.f k y101 1 (⟨#[120]⟩ : ByteArray)).bind fun t107 => (if t107 = true then ((cfg_Lives.f k y101 0 (⟨#[120]⟩ : ByteArray)).bind fun t108 => (if t108 = true then (some false) else ((cfg_Lives.f k y101 2 (⟨#[120]⟩ : ByteArray)).bind fun t109 => (if t109 = true then (some false) else ((cfg_Next.f y101 1).bind fun t110 => ((lambrequinref10_Ints.f k t110 (([2] : List Int))).bind fun t116 => (some t116))))))) else (some false))))) else (some false))) else (some false)) = some r := H
 have A1 := am A10
 clear A10
 by_cases c2 : t104 = true
 ·subst c2
  have H1 : ((cfg_Reaches.f k y101 2 (⟨#[120]⟩ : ByteArray) 0).bind fun t105 => (if t105 = true then ((cfg_Reaches.f k y101 0 (⟨#[120]⟩ : ByteArray) 0).bind fun t106 => (if t106 = true then (some false) else ((cfg_Lives.f k y101 1 (⟨#[120]⟩ : ByteArray)).bind fun t107 => (if t107 = true then ((cfg_Lives.f k y101 0 (⟨#[120]⟩ : ByteArray)).bind fun t108 => (if t108 = true then (some false) else ((cfg_Lives.f k y101 2 (⟨#[120]⟩ : ByteArray)).bind fun t109 => (if t109 = true then (some false) else ((cfg_Next.f y101 1).bind fun t110 => ((lambrequinref10_Ints.f k t110 (([2] : List Int))).bind fun t116 => (some t116))))))) else (some false))))) else (some false))) = some r := by rw [if_pos rfl] at H; exact H
  clear H
  have H := H1
  clear H1
  replace H := Option.bind_eq_some_iff.mp H
  obtain ⟨t105, A30, H⟩ := H
  replace H : (if t105 = true then ((cfg_Reaches.f k y101 0 (⟨#[120]⟩ : ByteArray) 0).bind fun t106 => (if t106 = true then (some false) else ((cfg_Lives.f k y101 1 (⟨#[120]⟩ : ByteArray)).bind fun t107 => (if t107 = true then ((cfg_Lives.f k y101 0 (⟨#[120]⟩ : ByteArray)).bind fun t108 => (if t108 = true then (some false) else ((cfg_Lives.f k y101 2 (⟨#[120]⟩ : ByteArray)).bind fun t109 => (if t109 = true then (some false) else ((cfg_Next.f y101 1).bind fun t110 => ((lambrequinref10_Ints.f k t110 (([2] : List Int))).bind fun t116 => (some t116))))))) else (some false))))) else (some false)) = some r := H
  have A3 := am A30
  clear A30
  by_cases c4 : t105 = true
  ·subst c4
   have H1 : ((cfg_Reaches.f k y101 0 (⟨#[120]⟩ : ByteArray) 0).bind fun t106 => (if t106 = true then (some false) else ((cfg_Lives.f k y101 1 (⟨#[120]⟩ : ByteArray)).bind fun t107 => (if t107 = true then ((cfg_Lives.f k y101 0 (⟨#[120]⟩ : ByteArray)).bind fun t108 => (if t108 = true then (some false) else ((cfg_Lives.f k y101 2 (⟨#[120]⟩ : ByteArray)).bind fun t109 => (if t109 = true then (some false) else ((cfg_Next.f y101 1).bind fun t110 => ((lambrequinref10_Ints.f k t110 (([2] : List Int))).bind fun t116 => (some t116))))))) else (some false))))) = some r := by rw [if_pos rfl] at H; exact H
   clear H
   have H := H1
   clear H1
   replace H := Option.bind_eq_some_iff.mp H
   obtain ⟨t106, A50, H⟩ := H
   replace H : (if t106 = true then (some false) else ((cfg_Lives.f k y101 1 (⟨#[120]⟩ : ByteArray)).bind fun t107 => (if t107 = true then ((cfg_Lives.f k y101 0 (⟨#[120]⟩ : ByteArray)).bind fun t108 => (if t108 = true then (some false) else ((cfg_Lives.f k y101 2 (⟨#[120]⟩ : ByteArray)).bind fun t109 => (if t109 = true then (some false) else ((cfg_Next.f y101 1).bind fun t110 => ((lambrequinref10_Ints.f k t110 (([2] : List Int))).bind fun t116 => (some t116))))))) else (some false)))) = some r := H
   have A5 := am A50
   clear A50
   by_cases c6 : t106 = true
   ·subst c6
    have H1 : (some false) = some r := by rw [if_pos rfl] at H; exact H
    clear H
    have H := H1
    clear H1
    obtain rfl := Option.some.inj H
    go_enter Try.func17, Try.ntmps17
    go_wp2_with (first | ((with_reducible refine gate_dst (N := 5) rfl ?_); (try (refine gate_guard (by rfl) ?_; dsimp only)); refine Kd.R_lit k30 _ 30 ?hg (N := 5) ?hd (xs := ([(⟨1, (⟨#[120]⟩ : ByteArray), (⟨#[]⟩ : ByteArray), (⟨#[]⟩ : ByteArray), (⟨#[]⟩ : ByteArray), 1, 0, 0⟩ : Stmt), (⟨6, (⟨#[]⟩ : ByteArray), (⟨#[120]⟩ : ByteArray), (⟨#[]⟩ : ByteArray), (⟨#[]⟩ : ByteArray), 0, 0, 0⟩ : Stmt), (⟨9, (⟨#[]⟩ : ByteArray), (⟨#[]⟩ : ByteArray), (⟨#[]⟩ : ByteArray), (⟨#[]⟩ : ByteArray), 0, 0, 0⟩ : Stmt)] : List (Stmt))) (inner := [.int .i64 1, .string (⟨#[120]⟩ : ByteArray), .string (⟨#[]⟩ : ByteArray), .string (⟨#[]⟩ : ByteArray), .string (⟨#[]⟩ : ByteArray), .int .i64 1, .int .i64 0, .int .i64 0, .int .i64 6, .string (⟨#[]⟩ : ByteArray), .string (⟨#[120]⟩ : ByteArray), .string (⟨#[]⟩ : ByteArray), .string (⟨#[]⟩ : ByteArray), .int .i64 0, .int .i64 0, .int .i64 0, .int .i64 9, .string (⟨#[]⟩ : ByteArray), .string (⟨#[]⟩ : ByteArray), .string (⟨#[]⟩ : ByteArray), .string (⟨#[]⟩ : ByteArray), .int .i64 0, .int .i64 0, .int .i64 0]) (ok := fun _ => True) (okp := fun _ => True) ?hr ?hp (fun _ hk => hk) trivial (Below.refl _ _) (Nat.le_refl _) (by simp) ?_; (case hd => rfl); (case hg => rfl); (case hr => first | (go_simp; done) | (go_simp; rfl)); (case hp => exact (Reps.c8 (show Kd.M k30 _ _ _ (⟨1, (⟨#[120]⟩ : ByteArray), (⟨#[]⟩ : ByteArray), (⟨#[]⟩ : ByteArray), (⟨#[]⟩ : ByteArray), 1, 0, 0⟩ : Stmt) [.int .i64 1, .string (⟨#[120]⟩ : ByteArray), .string (⟨#[]⟩ : ByteArray), .string (⟨#[]⟩ : ByteArray), .string (⟨#[]⟩ : ByteArray), .int .i64 1, .int .i64 0, .int .i64 0] from (k30_mkM _ _ _ (⟨1, (⟨#[120]⟩ : ByteArray), (⟨#[]⟩ : ByteArray), (⟨#[]⟩ : ByteArray), (⟨#[]⟩ : ByteArray), 1, 0, 0⟩ : Stmt) )) (Reps.c8 (show Kd.M k30 _ _ _ (⟨6, (⟨#[]⟩ : ByteArray), (⟨#[120]⟩ : ByteArray), (⟨#[]⟩ : ByteArray), (⟨#[]⟩ : ByteArray), 0, 0, 0⟩ : Stmt) [.int .i64 6, .string (⟨#[]⟩ : ByteArray), .string (⟨#[120]⟩ : ByteArray), .string (⟨#[]⟩ : ByteArray), .string (⟨#[]⟩ : ByteArray), .int .i64 0, .int .i64 0, .int .i64 0] from (k30_mkM _ _ _ (⟨6, (⟨#[]⟩ : ByteArray), (⟨#[120]⟩ : ByteArray), (⟨#[]⟩ : ByteArray), (⟨#[]⟩ : ByteArray), 0, 0, 0⟩ : Stmt) )) (Reps.c8 (show Kd.M k30 _ _ _ (⟨9, (⟨#[]⟩ : ByteArray), (⟨#[]⟩ : ByteArray), (⟨#[]⟩ : ByteArray), (⟨#[]⟩ : ByteArray), 0, 0, 0⟩ : Stmt) [.int .i64 9, .string (⟨#[]⟩ : ByteArray), .string (⟨#[]⟩ : ByteArray), .string (⟨#[]⟩ : ByteArray), .string (⟨#[]⟩ : ByteArray), .int .i64 0, .int .i64 0, .int .i64 0] from (k30_mkM _ _ _ (⟨9, (⟨#[]⟩ : ByteArray), (⟨#[]⟩ : ByteArray), (⟨#[]⟩ : ByteArray), (⟨#[]⟩ : ByteArray), 0, 0, 0⟩ : Stmt) )) (Reps.none _ _))))); intro v102 w7 ho8 hb hg_ hnew_; clear hg_ hnew_; (first | rw [← Ny101.out] at ho8 | (simp only [Int.reduceToNat] at ho8; rw [← Ny101.out] at ho8)); have HO103 := am (Kd.R_lower ho8 (below_size (by repeat (first | (with_reducible first | exact HB.out | apply lA | apply lN | apply lD) | exact HB.out)))); replace HB := am (below_step (by repeat (first | (with_reducible first | exact HB.out | apply lA | apply lN | apply lD) | exact HB.out)) hb); clear hb ho8; obtain ⟨Ao9, co9, eo9⟩ := Kd.R_slice HO103.out; subst eo9) | ((with_reducible refine gate_callee (f := 23) rfl ?_); refine goesL_ (some 7) rfl rfl Try.func23 (by kernel_rfl) rfl #[.slice Ao9 y101.length co9, .int .i64 1, .string (⟨#[120]⟩ : ByteArray), .int .i64 0] rfl (by (try simp only [List.map_toArray, List.map_cons, List.map_nil]); first | done | rfl | (simp only [List.length_drop, List.length_take]; rfl)) ?_; (with_reducible refine (cfg_Reaches.calls k _ _ y101 1 (⟨#[120]⟩ : ByteArray) 0 true _ ?side1 ?side2 A1.out).mono ?_); (case side1 => repeat (first | exact (Kd.R_reads' HO103.out).2.2 | (with_reducible refine Kd.C_alloc ?_ _) | (with_reducible refine Kd.C_drewN ?_ _) | (with_reducible refine Kd.C_drew ?_))); (case side2 => exact (Kd.R_reads' HO103.out).2.1); rintro e w10 ⟨rfl, hb⟩; refine ⟨_, rfl, ?_⟩; replace HO103 := am (Kd.R_below (by (with_reducible repeat (first | apply Ra | apply Rn | apply Rd)); exact HO103.out) hb); replace HB := am (below_step (by repeat (first | (with_reducible first | exact HB.out | apply lA | apply lN | apply lD) | exact HB.out)) hb); (try clear hb); (try clear hb2); (try clear hk); (try clear hi)) | (go_at_call 23; (with_reducible refine (cfg_Reaches.calls k _ _ y101 2 (⟨#[120]⟩ : ByteArray) 0 true _ ?side1 ?side2 A3.out).mono ?_); (case side1 => repeat (first | exact (Kd.R_reads' HO103.out).2.2 | (with_reducible refine Kd.C_alloc ?_ _) | (with_reducible refine Kd.C_drewN ?_ _) | (with_reducible refine Kd.C_drew ?_))); (case side2 => exact (Kd.R_reads' HO103.out).2.1); rintro e w11 ⟨rfl, hb⟩; replace HO103 := am (Kd.R_below (by (with_reducible repeat (first | apply Ra | apply Rn | apply Rd)); exact HO103.out) hb); replace HB := am (below_step (by repeat (first | (with_reducible first | exact HB.out | apply lA | apply lN | apply lD) | exact HB.out)) hb); (try clear hb); (try clear hb2); (try clear hk); (try clear hi)) | (go_at_call 23; (with_reducible refine (cfg_Reaches.calls k _ _ y101 0 (⟨#[120]⟩ : ByteArray) 0 true _ ?side1 ?side2 A5.out).mono ?_); (case side1 => repeat (first | exact (Kd.R_reads' HO103.out).2.2 | (with_reducible refine Kd.C_alloc ?_ _) | (with_reducible refine Kd.C_drewN ?_ _) | (with_reducible refine Kd.C_drew ?_))); (case side2 => exact (Kd.R_reads' HO103.out).2.1); rintro e w12 ⟨rfl, hb⟩; replace HO103 := am (Kd.R_below (by (with_reducible repeat (first | apply Ra | apply Rn | apply Rd)); exact HO103.out) hb); replace HB := am (below_step (by repeat (first | (with_reducible first | exact HB.out | apply lA | apply lN | apply lD) | exact HB.out)) hb); (try clear hb); (try clear hb2); (try clear hk); (try clear hi)))
    go_ret
    exact ⟨by first | rfl | (simp [errW_none, errW_some] <;> rfl) | (simp [*, errW_none, errW_some] <;> rfl), by repeat (first | (with_reducible first | exact HB.out | apply lA | apply lN | apply lD) | exact HB.out)⟩
   ·replace c6 := Bool.eq_false_iff.mpr c6
    subst c6
    have H1 : ((cfg_Lives.f k y101 1 (⟨#[120]⟩ : ByteArray)).bind fun t107 => (if t107 = true then ((cfg_Lives.f k y101 0 (⟨#[120]⟩ : ByteArray)).bind fun t108 => (if t108 = true then (some false) else ((cfg_Lives.f k y101 2 (⟨#[120]⟩ : ByteArray)).bind fun t109 => (if t109 = true then (some false) else ((cfg_Next.f y101 1).bind fun t110 => ((lambrequinref10_Ints.f k t110 (([2] : List Int))).bind fun t116 => (some t116))))))) else (some false))) = some r := by rw [if_neg (show ¬ (false = true) by decide)] at H; exact H
    clear H
    have H := H1
    clear H1
    replace H := Option.bind_eq_some_iff.mp H
    obtain ⟨t107, A130, H⟩ := H
    replace H : (if t107 = true then ((cfg_Lives.f k y101 0 (⟨#[120]⟩ : ByteArray)).bind fun t108 => (if t108 = true then (some false) else ((cfg_Lives.f k y101 2 (⟨#[120]⟩ : ByteArray)).bind fun t109 => (if t109 = true then (some false) else ((cfg_Next.f y101 1).bind fun t110 => ((lambrequinref10_Ints.f k t110 (([2] : List Int))).bind fun t116 => (some t116))))))) else (some false)) = some r := H
    have A13 := am A130
    clear A130
    by_cases c14 : t107 = true
    ·subst c14
     have H1 : ((cfg_Lives.f k y101 0 (⟨#[120]⟩ : ByteArray)).bind fun t108 => (if t108 = true then (some false) else ((cfg_Lives.f k y101 2 (⟨#[120]⟩ : ByteArray)).bind fun t109 => (if t109 = true then (some false) else ((cfg_Next.f y101 1).bind fun t110 => ((lambrequinref10_Ints.f k t110 (([2] : List Int))).bind fun t116 => (some t116))))))) = some r := by rw [if_pos rfl] at H; exact H
     clear H
     have H := H1
     clear H1
     replace H := Option.bind_eq_some_iff.mp H
     obtain ⟨t108, A150, H⟩ := H
     replace H : (if t108 = true then (some false) else ((cfg_Lives.f k y101 2 (⟨#[120]⟩ : ByteArray)).bind fun t109 => (if t109 = true then (some false) else ((cfg_Next.f y101 1).bind fun t110 => ((lambrequinref10_Ints.f k t110 (([2] : List Int))).bind fun t116 => (some t116)))))) = some r := H
     have A15 := am A150
     clear A150
     by_cases c16 : t108 = true
     ·subst c16
      have H1 : (some false) = some r := by rw [if_pos rfl] at H; exact H
      clear H
      have H := H1
      clear H1
      obtain rfl := Option.some.inj H
      go_enter Try.func17, Try.ntmps17
      go_wp2_with (first | ((with_reducible refine gate_dst (N := 5) rfl ?_); (try (refine gate_guard (by rfl) ?_; dsimp only)); refine Kd.R_lit k30 _ 30 ?hg (N := 5) ?hd (xs := ([(⟨1, (⟨#[120]⟩ : ByteArray), (⟨#[]⟩ : ByteArray), (⟨#[]⟩ : ByteArray), (⟨#[]⟩ : ByteArray), 1, 0, 0⟩ : Stmt), (⟨6, (⟨#[]⟩ : ByteArray), (⟨#[120]⟩ : ByteArray), (⟨#[]⟩ : ByteArray), (⟨#[]⟩ : ByteArray), 0, 0, 0⟩ : Stmt), (⟨9, (⟨#[]⟩ : ByteArray), (⟨#[]⟩ : ByteArray), (⟨#[]⟩ : ByteArray), (⟨#[]⟩ : ByteArray), 0, 0, 0⟩ : Stmt)] : List (Stmt))) (inner := [.int .i64 1, .string (⟨#[120]⟩ : ByteArray), .string (⟨#[]⟩ : ByteArray), .string (⟨#[]⟩ : ByteArray), .string (⟨#[]⟩ : ByteArray), .int .i64 1, .int .i64 0, .int .i64 0, .int .i64 6, .string (⟨#[]⟩ : ByteArray), .string (⟨#[120]⟩ : ByteArray), .string (⟨#[]⟩ : ByteArray), .string (⟨#[]⟩ : ByteArray), .int .i64 0, .int .i64 0, .int .i64 0, .int .i64 9, .string (⟨#[]⟩ : ByteArray), .string (⟨#[]⟩ : ByteArray), .string (⟨#[]⟩ : ByteArray), .string (⟨#[]⟩ : ByteArray), .int .i64 0, .int .i64 0, .int .i64 0]) (ok := fun _ => True) (okp := fun _ => True) ?hr ?hp (fun _ hk => hk) trivial (Below.refl _ _) (Nat.le_refl _) (by simp) ?_; (case hd => rfl); (case hg => rfl); (case hr => first | (go_simp; done) | (go_simp; rfl)); (case hp => exact (Reps.c8 (show Kd.M k30 _ _ _ (⟨1, (⟨#[120]⟩ : ByteArray), (⟨#[]⟩ : ByteArray), (⟨#[]⟩ : ByteArray), (⟨#[]⟩ : ByteArray), 1, 0, 0⟩ : Stmt) [.int .i64 1, .string (⟨#[120]⟩ : ByteArray), .string (⟨#[]⟩ : ByteArray), .string (⟨#[]⟩ : ByteArray), .string (⟨#[]⟩ : ByteArray), .int .i64 1, .int .i64 0, .int .i64 0] from (k30_mkM _ _ _ (⟨1, (⟨#[120]⟩ : ByteArray), (⟨#[]⟩ : ByteArray), (⟨#[]⟩ : ByteArray), (⟨#[]⟩ : ByteArray), 1, 0, 0⟩ : Stmt) )) (Reps.c8 (show Kd.M k30 _ _ _ (⟨6, (⟨#[]⟩ : ByteArray), (⟨#[120]⟩ : ByteArray), (⟨#[]⟩ : ByteArray), (⟨#[]⟩ : ByteArray), 0, 0, 0⟩ : Stmt) [.int .i64 6, .string (⟨#[]⟩ : ByteArray), .string (⟨#[120]⟩ : ByteArray), .string (⟨#[]⟩ : ByteArray), .string (⟨#[]⟩ : ByteArray), .int .i64 0, .int .i64 0, .int .i64 0] from (k30_mkM _ _ _ (⟨6, (⟨#[]⟩ : ByteArray), (⟨#[120]⟩ : ByteArray), (⟨#[]⟩ : ByteArray), (⟨#[]⟩ : ByteArray), 0, 0, 0⟩ : Stmt) )) (Reps.c8 (show Kd.M k30 _ _ _ (⟨9, (⟨#[]⟩ : ByteArray), (⟨#[]⟩ : ByteArray), (⟨#[]⟩ : ByteArray), (⟨#[]⟩ : ByteArray), 0, 0, 0⟩ : Stmt) [.int .i64 9, .string (⟨#[]⟩ : ByteArray), .string (⟨#[]⟩ : ByteArray), .string (⟨#[]⟩ : ByteArray), .string (⟨#[]⟩ : ByteArray), .int .i64 0, .int .i64 0, .int .i64 0] from (k30_mkM _ _ _ (⟨9, (⟨#[]⟩ : ByteArray), (⟨#[]⟩ : ByteArray), (⟨#[]⟩ : ByteArray), (⟨#[]⟩ : ByteArray), 0, 0, 0⟩ : Stmt) )) (Reps.none _ _))))); intro v102 w17 ho18 hb hg_ hnew_; clear hg_ hnew_; (first | rw [← Ny101.out] at ho18 | (simp only [Int.reduceToNat] at ho18; rw [← Ny101.out] at ho18)); have HO103 := am (Kd.R_lower ho18 (below_size (by repeat (first | (with_reducible first | exact HB.out | apply lA | apply lN | apply lD) | exact HB.out)))); replace HB := am (below_step (by repeat (first | (with_reducible first | exact HB.out | apply lA | apply lN | apply lD) | exact HB.out)) hb); clear hb ho18; obtain ⟨Ao19, co19, eo19⟩ := Kd.R_slice HO103.out; subst eo19) | ((with_reducible refine gate_callee (f := 23) rfl ?_); refine goesL_ (some 7) rfl rfl Try.func23 (by kernel_rfl) rfl #[.slice Ao19 y101.length co19, .int .i64 1, .string (⟨#[120]⟩ : ByteArray), .int .i64 0] rfl (by (try simp only [List.map_toArray, List.map_cons, List.map_nil]); first | done | rfl | (simp only [List.length_drop, List.length_take]; rfl)) ?_; (with_reducible refine (cfg_Reaches.calls k _ _ y101 1 (⟨#[120]⟩ : ByteArray) 0 true _ ?side1 ?side2 A1.out).mono ?_); (case side1 => repeat (first | exact (Kd.R_reads' HO103.out).2.2 | (with_reducible refine Kd.C_alloc ?_ _) | (with_reducible refine Kd.C_drewN ?_ _) | (with_reducible refine Kd.C_drew ?_))); (case side2 => exact (Kd.R_reads' HO103.out).2.1); rintro e w20 ⟨rfl, hb⟩; refine ⟨_, rfl, ?_⟩; replace HO103 := am (Kd.R_below (by (with_reducible repeat (first | apply Ra | apply Rn | apply Rd)); exact HO103.out) hb); replace HB := am (below_step (by repeat (first | (with_reducible first | exact HB.out | apply lA | apply lN | apply lD) | exact HB.out)) hb); (try clear hb); (try clear hb2); (try clear hk); (try clear hi)) | (go_at_call 23; (with_reducible refine (cfg_Reaches.calls k _ _ y101 2 (⟨#[120]⟩ : ByteArray) 0 true _ ?side1 ?side2 A3.out).mono ?_); (case side1 => repeat (first | exact (Kd.R_reads' HO103.out).2.2 | (with_reducible refine Kd.C_alloc ?_ _) | (with_reducible refine Kd.C_drewN ?_ _) | (with_reducible refine Kd.C_drew ?_))); (case side2 => exact (Kd.R_reads' HO103.out).2.1); rintro e w21 ⟨rfl, hb⟩; replace HO103 := am (Kd.R_below (by (with_reducible repeat (first | apply Ra | apply Rn | apply Rd)); exact HO103.out) hb); replace HB := am (below_step (by repeat (first | (with_reducible first | exact HB.out | apply lA | apply lN | apply lD) | exact HB.out)) hb); (try clear hb); (try clear hb2); (try clear hk); (try clear hi)) | (go_at_call 23; (with_reducible refine (cfg_Reaches.calls k _ _ y101 0 (⟨#[120]⟩ : ByteArray) 0 false _ ?side1 ?side2 A5.out).mono ?_); (case side1 => repeat (first | exact (Kd.R_reads' HO103.out).2.2 | (with_reducible refine Kd.C_alloc ?_ _) | (with_reducible refine Kd.C_drewN ?_ _) | (with_reducible refine Kd.C_drew ?_))); (case side2 => exact (Kd.R_reads' HO103.out).2.1); rintro e w22 ⟨rfl, hb⟩; replace HO103 := am (Kd.R_below (by (with_reducible repeat (first | apply Ra | apply Rn | apply Rd)); exact HO103.out) hb); replace HB := am (below_step (by repeat (first | (with_reducible first | exact HB.out | apply lA | apply lN | apply lD) | exact HB.out)) hb); (try clear hb); (try clear hb2); (try clear hk); (try clear hi)) | (go_at_call 18; (with_reducible refine (cfg_Lives.calls k _ _ y101 1 (⟨#[120]⟩ : ByteArray) true _ ?side1 ?side2 A13.out).mono ?_); (case side1 => repeat (first | exact (Kd.R_reads' HO103.out).2.2 | (with_reducible refine Kd.C_alloc ?_ _) | (with_reducible refine Kd.C_drewN ?_ _) | (with_reducible refine Kd.C_drew ?_))); (case side2 => exact (Kd.R_reads' HO103.out).2.1); rintro e w23 ⟨rfl, hb⟩; replace HO103 := am (Kd.R_below (by (with_reducible repeat (first | apply Ra | apply Rn | apply Rd)); exact HO103.out) hb); replace HB := am (below_step (by repeat (first | (with_reducible first | exact HB.out | apply lA | apply lN | apply lD) | exact HB.out)) hb); (try clear hb); (try clear hb2); (try clear hk); (try clear hi)) | (go_at_call 18; (with_reducible refine (cfg_Lives.calls k _ _ y101 0 (⟨#[120]⟩ : ByteArray) true _ ?side1 ?side2 A15.out).mono ?_); (case side1 => repeat (first | exact (Kd.R_reads' HO103.out).2.2 | (with_reducible refine Kd.C_alloc ?_ _) | (with_reducible refine Kd.C_drewN ?_ _) | (with_reducible refine Kd.C_drew ?_))); (case side2 => exact (Kd.R_reads' HO103.out).2.1); rintro e w24 ⟨rfl, hb⟩; replace HO103 := am (Kd.R_below (by (with_reducible repeat (first | apply Ra | apply Rn | apply Rd)); exact HO103.out) hb); replace HB := am (below_step (by repeat (first | (with_reducible first | exact HB.out | apply lA | apply lN | apply lD) | exact HB.out)) hb); (try clear hb); (try clear hb2); (try clear hk); (try clear hi)))
      go_ret
      exact ⟨by first | rfl | (simp [errW_none, errW_some] <;> rfl) | (simp [*, errW_none, errW_some] <;> rfl), by repeat (first | (with_reducible first | exact HB.out | apply lA | apply lN | apply lD) | exact HB.out)⟩
     ·replace c16 := Bool.eq_false_iff.mpr c16
      subst c16
      have H1 : ((cfg_Lives.f k y101 2 (⟨#[120]⟩ : ByteArray)).bind fun t109 => (if t109 = true then (some false) else ((cfg_Next.f y101 1).bind fun t110 => ((lambrequinref10_Ints.f k t110 (([2] : List Int))).bind fun t116 => (some t116))))) = some r := by rw [if_neg (show ¬ (false = true) by decide)] at H; exact H
      clear H
      have H := H1
      clear H1
      replace H := Option.bind_eq_some_iff.mp H
      obtain ⟨t109, A250, H⟩ := H
      replace H : (if t109 = true then (some false) else ((cfg_Next.f y101 1).bind fun t110 => ((lambrequinref10_Ints.f k t110 (([2] : List Int))).bind fun t116 => (some t116)))) = some r := H
      have A25 := am A250
      clear A250
      by_cases c26 : t109 = true
      ·subst c26
       have H1 : (some false) = some r := by rw [if_pos rfl] at H; exact H
       clear H
       have H := H1
       clear H1
       obtain rfl := Option.some.inj H
       go_enter Try.func17, Try.ntmps17
       go_wp2_with (first | ((with_reducible refine gate_dst (N := 5) rfl ?_); (try (refine gate_guard (by rfl) ?_; dsimp only)); refine Kd.R_lit k30 _ 30 ?hg (N := 5) ?hd (xs := ([(⟨1, (⟨#[120]⟩ : ByteArray), (⟨#[]⟩ : ByteArray), (⟨#[]⟩ : ByteArray), (⟨#[]⟩ : ByteArray), 1, 0, 0⟩ : Stmt), (⟨6, (⟨#[]⟩ : ByteArray), (⟨#[120]⟩ : ByteArray), (⟨#[]⟩ : ByteArray), (⟨#[]⟩ : ByteArray), 0, 0, 0⟩ : Stmt), (⟨9, (⟨#[]⟩ : ByteArray), (⟨#[]⟩ : ByteArray), (⟨#[]⟩ : ByteArray), (⟨#[]⟩ : ByteArray), 0, 0, 0⟩ : Stmt)] : List (Stmt))) (inner := [.int .i64 1, .string (⟨#[120]⟩ : ByteArray), .string (⟨#[]⟩ : ByteArray), .string (⟨#[]⟩ : ByteArray), .string (⟨#[]⟩ : ByteArray), .int .i64 1, .int .i64 0, .int .i64 0, .int .i64 6, .string (⟨#[]⟩ : ByteArray), .string (⟨#[120]⟩ : ByteArray), .string (⟨#[]⟩ : ByteArray), .string (⟨#[]⟩ : ByteArray), .int .i64 0, .int .i64 0, .int .i64 0, .int .i64 9, .string (⟨#[]⟩ : ByteArray), .string (⟨#[]⟩ : ByteArray), .string (⟨#[]⟩ : ByteArray), .string (⟨#[]⟩ : ByteArray), .int .i64 0, .int .i64 0, .int .i64 0]) (ok := fun _ => True) (okp := fun _ => True) ?hr ?hp (fun _ hk => hk) trivial (Below.refl _ _) (Nat.le_refl _) (by simp) ?_; (case hd => rfl); (case hg => rfl); (case hr => first | (go_simp; done) | (go_simp; rfl)); (case hp => exact (Reps.c8 (show Kd.M k30 _ _ _ (⟨1, (⟨#[120]⟩ : ByteArray), (⟨#[]⟩ : ByteArray), (⟨#[]⟩ : ByteArray), (⟨#[]⟩ : ByteArray), 1, 0, 0⟩ : Stmt) [.int .i64 1, .string (⟨#[120]⟩ : ByteArray), .string (⟨#[]⟩ : ByteArray), .string (⟨#[]⟩ : ByteArray), .string (⟨#[]⟩ : ByteArray), .int .i64 1, .int .i64 0, .int .i64 0] from (k30_mkM _ _ _ (⟨1, (⟨#[120]⟩ : ByteArray), (⟨#[]⟩ : ByteArray), (⟨#[]⟩ : ByteArray), (⟨#[]⟩ : ByteArray), 1, 0, 0⟩ : Stmt) )) (Reps.c8 (show Kd.M k30 _ _ _ (⟨6, (⟨#[]⟩ : ByteArray), (⟨#[120]⟩ : ByteArray), (⟨#[]⟩ : ByteArray), (⟨#[]⟩ : ByteArray), 0, 0, 0⟩ : Stmt) [.int .i64 6, .string (⟨#[]⟩ : ByteArray), .string (⟨#[120]⟩ : ByteArray), .string (⟨#[]⟩ : ByteArray), .string (⟨#[]⟩ : ByteArray), .int .i64 0, .int .i64 0, .int .i64 0] from (k30_mkM _ _ _ (⟨6, (⟨#[]⟩ : ByteArray), (⟨#[120]⟩ : ByteArray), (⟨#[]⟩ : ByteArray), (⟨#[]⟩ : ByteArray), 0, 0, 0⟩ : Stmt) )) (Reps.c8 (show Kd.M k30 _ _ _ (⟨9, (⟨#[]⟩ : ByteArray), (⟨#[]⟩ : ByteArray), (⟨#[]⟩ : ByteArray), (⟨#[]⟩ : ByteArray), 0, 0, 0⟩ : Stmt) [.int .i64 9, .string (⟨#[]⟩ : ByteArray), .string (⟨#[]⟩ : ByteArray), .string (⟨#[]⟩ : ByteArray), .string (⟨#[]⟩ : ByteArray), .int .i64 0, .int .i64 0, .int .i64 0] from (k30_mkM _ _ _ (⟨9, (⟨#[]⟩ : ByteArray), (⟨#[]⟩ : ByteArray), (⟨#[]⟩ : ByteArray), (⟨#[]⟩ : ByteArray), 0, 0, 0⟩ : Stmt) )) (Reps.none _ _))))); intro v102 w27 ho28 hb hg_ hnew_; clear hg_ hnew_; (first | rw [← Ny101.out] at ho28 | (simp only [Int.reduceToNat] at ho28; rw [← Ny101.out] at ho28)); have HO103 := am (Kd.R_lower ho28 (below_size (by repeat (first | (with_reducible first | exact HB.out | apply lA | apply lN | apply lD) | exact HB.out)))); replace HB := am (below_step (by repeat (first | (with_reducible first | exact HB.out | apply lA | apply lN | apply lD) | exact HB.out)) hb); clear hb ho28; obtain ⟨Ao29, co29, eo29⟩ := Kd.R_slice HO103.out; subst eo29) | ((with_reducible refine gate_callee (f := 23) rfl ?_); refine goesL_ (some 7) rfl rfl Try.func23 (by kernel_rfl) rfl #[.slice Ao29 y101.length co29, .int .i64 1, .string (⟨#[120]⟩ : ByteArray), .int .i64 0] rfl (by (try simp only [List.map_toArray, List.map_cons, List.map_nil]); first | done | rfl | (simp only [List.length_drop, List.length_take]; rfl)) ?_; (with_reducible refine (cfg_Reaches.calls k _ _ y101 1 (⟨#[120]⟩ : ByteArray) 0 true _ ?side1 ?side2 A1.out).mono ?_); (case side1 => repeat (first | exact (Kd.R_reads' HO103.out).2.2 | (with_reducible refine Kd.C_alloc ?_ _) | (with_reducible refine Kd.C_drewN ?_ _) | (with_reducible refine Kd.C_drew ?_))); (case side2 => exact (Kd.R_reads' HO103.out).2.1); rintro e w30 ⟨rfl, hb⟩; refine ⟨_, rfl, ?_⟩; replace HO103 := am (Kd.R_below (by (with_reducible repeat (first | apply Ra | apply Rn | apply Rd)); exact HO103.out) hb); replace HB := am (below_step (by repeat (first | (with_reducible first | exact HB.out | apply lA | apply lN | apply lD) | exact HB.out)) hb); (try clear hb); (try clear hb2); (try clear hk); (try clear hi)) | (go_at_call 23; (with_reducible refine (cfg_Reaches.calls k _ _ y101 2 (⟨#[120]⟩ : ByteArray) 0 true _ ?side1 ?side2 A3.out).mono ?_); (case side1 => repeat (first | exact (Kd.R_reads' HO103.out).2.2 | (with_reducible refine Kd.C_alloc ?_ _) | (with_reducible refine Kd.C_drewN ?_ _) | (with_reducible refine Kd.C_drew ?_))); (case side2 => exact (Kd.R_reads' HO103.out).2.1); rintro e w31 ⟨rfl, hb⟩; replace HO103 := am (Kd.R_below (by (with_reducible repeat (first | apply Ra | apply Rn | apply Rd)); exact HO103.out) hb); replace HB := am (below_step (by repeat (first | (with_reducible first | exact HB.out | apply lA | apply lN | apply lD) | exact HB.out)) hb); (try clear hb); (try clear hb2); (try clear hk); (try clear hi)) | (go_at_call 23; (with_reducible refine (cfg_Reaches.calls k _ _ y101 0 (⟨#[120]⟩ : ByteArray) 0 false _ ?side1 ?side2 A5.out).mono ?_); (case side1 => repeat (first | exact (Kd.R_reads' HO103.out).2.2 | (with_reducible refine Kd.C_alloc ?_ _) | (with_reducible refine Kd.C_drewN ?_ _) | (with_reducible refine Kd.C_drew ?_))); (case side2 => exact (Kd.R_reads' HO103.out).2.1); rintro e w32 ⟨rfl, hb⟩; replace HO103 := am (Kd.R_below (by (with_reducible repeat (first | apply Ra | apply Rn | apply Rd)); exact HO103.out) hb); replace HB := am (below_step (by repeat (first | (with_reducible first | exact HB.out | apply lA | apply lN | apply lD) | exact HB.out)) hb); (try clear hb); (try clear hb2); (try clear hk); (try clear hi)) | (go_at_call 18; (with_reducible refine (cfg_Lives.calls k _ _ y101 1 (⟨#[120]⟩ : ByteArray) true _ ?side1 ?side2 A13.out).mono ?_); (case side1 => repeat (first | exact (Kd.R_reads' HO103.out).2.2 | (with_reducible refine Kd.C_alloc ?_ _) | (with_reducible refine Kd.C_drewN ?_ _) | (with_reducible refine Kd.C_drew ?_))); (case side2 => exact (Kd.R_reads' HO103.out).2.1); rintro e w33 ⟨rfl, hb⟩; replace HO103 := am (Kd.R_below (by (with_reducible repeat (first | apply Ra | apply Rn | apply Rd)); exact HO103.out) hb); replace HB := am (below_step (by repeat (first | (with_reducible first | exact HB.out | apply lA | apply lN | apply lD) | exact HB.out)) hb); (try clear hb); (try clear hb2); (try clear hk); (try clear hi)) | (go_at_call 18; (with_reducible refine (cfg_Lives.calls k _ _ y101 0 (⟨#[120]⟩ : ByteArray) false _ ?side1 ?side2 A15.out).mono ?_); (case side1 => repeat (first | exact (Kd.R_reads' HO103.out).2.2 | (with_reducible refine Kd.C_alloc ?_ _) | (with_reducible refine Kd.C_drewN ?_ _) | (with_reducible refine Kd.C_drew ?_))); (case side2 => exact (Kd.R_reads' HO103.out).2.1); rintro e w34 ⟨rfl, hb⟩; replace HO103 := am (Kd.R_below (by (with_reducible repeat (first | apply Ra | apply Rn | apply Rd)); exact HO103.out) hb); replace HB := am (below_step (by repeat (first | (with_reducible first | exact HB.out | apply lA | apply lN | apply lD) | exact HB.out)) hb); (try clear hb); (try clear hb2); (try clear hk); (try clear hi)) | (go_at_call 18; (with_reducible refine (cfg_Lives.calls k _ _ y101 2 (⟨#[120]⟩ : ByteArray) true _ ?side1 ?side2 A25.out).mono ?_); (case side1 => repeat (first | exact (Kd.R_reads' HO103.out).2.2 | (with_reducible refine Kd.C_alloc ?_ _) | (with_reducible refine Kd.C_drewN ?_ _) | (with_reducible refine Kd.C_drew ?_))); (case side2 => exact (Kd.R_reads' HO103.out).2.1); rintro e w35 ⟨rfl, hb⟩; replace HO103 := am (Kd.R_below (by (with_reducible repeat (first | apply Ra | apply Rn | apply Rd)); exact HO103.out) hb); replace HB := am (below_step (by repeat (first | (with_reducible first | exact HB.out | apply lA | apply lN | apply lD) | exact HB.out)) hb); (try clear hb); (try clear hb2); (try clear hk); (try clear hi)))
       go_ret
       exact ⟨by first | rfl | (simp [errW_none, errW_some] <;> rfl) | (simp [*, errW_none, errW_some] <;> rfl), by repeat (first | (with_reducible first | exact HB.out | apply lA | apply lN | apply lD) | exact HB.out)⟩
      ·replace c26 := Bool.eq_false_iff.mpr c26
       subst c26
       have H1 : ((cfg_Next.f y101 1).bind fun t110 => ((lambrequinref10_Ints.f k t110 (([2] : List Int))).bind fun t116 => (some t116))) = some r := by rw [if_neg (show ¬ (false = true) by decide)] at H; exact H
       clear H
       have H := H1
       clear H1
       replace H := Option.bind_eq_some_iff.mp H
       obtain ⟨t110, A360, H⟩ := H
       replace H : ((lambrequinref10_Ints.f k t110 (([2] : List Int))).bind fun t116 => (some t116)) = some r := H
       have A36 := am A360
       clear A360
       obtain ⟨y113, hy113⟩ : ∃ y_ : List Int, y_ = (([2] : List Int)) := ⟨_, rfl⟩
       replace H : ((lambrequinref10_Ints.f k t110 y113).bind fun t116 => (some t116)) = some r := by first | (rw [hy113]; with_reducible exact H) | (have H2_ := (Option.bind_some _ _).symm.trans H; rw [hy113]; with_reducible exact H2_) | (have H2_ := (Option.bind_some _ _).symm.trans H; with_reducible exact H2_) | with_reducible exact H | (rw [hy113]; exact H) | exact H
       have Ny113 := am hy113
       clear hy113
       replace H := Option.bind_eq_some_iff.mp H
       obtain ⟨t116, A370, H⟩ := H
       replace H : (some t116) = some r := H
       have A37 := am A370
       clear A370
       obtain rfl := Option.some.inj H
       go_enter Try.func17, Try.ntmps17
       go_wp2_with (first | ((with_reducible refine gate_dst (N := 5) rfl ?_); (try (refine gate_guard (by rfl) ?_; dsimp only)); refine Kd.R_lit k30 _ 30 ?hg (N := 5) ?hd (xs := ([(⟨1, (⟨#[120]⟩ : ByteArray), (⟨#[]⟩ : ByteArray), (⟨#[]⟩ : ByteArray), (⟨#[]⟩ : ByteArray), 1, 0, 0⟩ : Stmt), (⟨6, (⟨#[]⟩ : ByteArray), (⟨#[120]⟩ : ByteArray), (⟨#[]⟩ : ByteArray), (⟨#[]⟩ : ByteArray), 0, 0, 0⟩ : Stmt), (⟨9, (⟨#[]⟩ : ByteArray), (⟨#[]⟩ : ByteArray), (⟨#[]⟩ : ByteArray), (⟨#[]⟩ : ByteArray), 0, 0, 0⟩ : Stmt)] : List (Stmt))) (inner := [.int .i64 1, .string (⟨#[120]⟩ : ByteArray), .string (⟨#[]⟩ : ByteArray), .string (⟨#[]⟩ : ByteArray), .string (⟨#[]⟩ : ByteArray), .int .i64 1, .int .i64 0, .int .i64 0, .int .i64 6, .string (⟨#[]⟩ : ByteArray), .string (⟨#[120]⟩ : ByteArray), .string (⟨#[]⟩ : ByteArray), .string (⟨#[]⟩ : ByteArray), .int .i64 0, .int .i64 0, .int .i64 0, .int .i64 9, .string (⟨#[]⟩ : ByteArray), .string (⟨#[]⟩ : ByteArray), .string (⟨#[]⟩ : ByteArray), .string (⟨#[]⟩ : ByteArray), .int .i64 0, .int .i64 0, .int .i64 0]) (ok := fun _ => True) (okp := fun _ => True) ?hr ?hp (fun _ hk => hk) trivial (Below.refl _ _) (Nat.le_refl _) (by simp) ?_; (case hd => rfl); (case hg => rfl); (case hr => first | (go_simp; done) | (go_simp; rfl)); (case hp => exact (Reps.c8 (show Kd.M k30 _ _ _ (⟨1, (⟨#[120]⟩ : ByteArray), (⟨#[]⟩ : ByteArray), (⟨#[]⟩ : ByteArray), (⟨#[]⟩ : ByteArray), 1, 0, 0⟩ : Stmt) [.int .i64 1, .string (⟨#[120]⟩ : ByteArray), .string (⟨#[]⟩ : ByteArray), .string (⟨#[]⟩ : ByteArray), .string (⟨#[]⟩ : ByteArray), .int .i64 1, .int .i64 0, .int .i64 0] from (k30_mkM _ _ _ (⟨1, (⟨#[120]⟩ : ByteArray), (⟨#[]⟩ : ByteArray), (⟨#[]⟩ : ByteArray), (⟨#[]⟩ : ByteArray), 1, 0, 0⟩ : Stmt) )) (Reps.c8 (show Kd.M k30 _ _ _ (⟨6, (⟨#[]⟩ : ByteArray), (⟨#[120]⟩ : ByteArray), (⟨#[]⟩ : ByteArray), (⟨#[]⟩ : ByteArray), 0, 0, 0⟩ : Stmt) [.int .i64 6, .string (⟨#[]⟩ : ByteArray), .string (⟨#[120]⟩ : ByteArray), .string (⟨#[]⟩ : ByteArray), .string (⟨#[]⟩ : ByteArray), .int .i64 0, .int .i64 0, .int .i64 0] from (k30_mkM _ _ _ (⟨6, (⟨#[]⟩ : ByteArray), (⟨#[120]⟩ : ByteArray), (⟨#[]⟩ : ByteArray), (⟨#[]⟩ : ByteArray), 0, 0, 0⟩ : Stmt) )) (Reps.c8 (show Kd.M k30 _ _ _ (⟨9, (⟨#[]⟩ : ByteArray), (⟨#[]⟩ : ByteArray), (⟨#[]⟩ : ByteArray), (⟨#[]⟩ : ByteArray), 0, 0, 0⟩ : Stmt) [.int .i64 9, .string (⟨#[]⟩ : ByteArray), .string (⟨#[]⟩ : ByteArray), .string (⟨#[]⟩ : ByteArray), .string (⟨#[]⟩ : ByteArray), .int .i64 0, .int .i64 0, .int .i64 0] from (k30_mkM _ _ _ (⟨9, (⟨#[]⟩ : ByteArray), (⟨#[]⟩ : ByteArray), (⟨#[]⟩ : ByteArray), (⟨#[]⟩ : ByteArray), 0, 0, 0⟩ : Stmt) )) (Reps.none _ _))))); intro v102 w38 ho39 hb hg_ hnew_; clear hg_ hnew_; (first | rw [← Ny101.out] at ho39 | (simp only [Int.reduceToNat] at ho39; rw [← Ny101.out] at ho39)); have HO103 := am (Kd.R_lower ho39 (below_size (by repeat (first | (with_reducible first | exact HB.out | apply lA | apply lN | apply lD) | exact HB.out)))); replace HB := am (below_step (by repeat (first | (with_reducible first | exact HB.out | apply lA | apply lN | apply lD) | exact HB.out)) hb); clear hb ho39; obtain ⟨Ao40, co40, eo40⟩ := Kd.R_slice HO103.out; subst eo40) | ((with_reducible refine gate_callee (f := 23) rfl ?_); refine goesL_ (some 7) rfl rfl Try.func23 (by kernel_rfl) rfl #[.slice Ao40 y101.length co40, .int .i64 1, .string (⟨#[120]⟩ : ByteArray), .int .i64 0] rfl (by (try simp only [List.map_toArray, List.map_cons, List.map_nil]); first | done | rfl | (simp only [List.length_drop, List.length_take]; rfl)) ?_; (with_reducible refine (cfg_Reaches.calls k _ _ y101 1 (⟨#[120]⟩ : ByteArray) 0 true _ ?side1 ?side2 A1.out).mono ?_); (case side1 => repeat (first | exact (Kd.R_reads' HO103.out).2.2 | (with_reducible refine Kd.C_alloc ?_ _) | (with_reducible refine Kd.C_drewN ?_ _) | (with_reducible refine Kd.C_drew ?_))); (case side2 => exact (Kd.R_reads' HO103.out).2.1); rintro e w41 ⟨rfl, hb⟩; refine ⟨_, rfl, ?_⟩; replace HO103 := am (Kd.R_below (by (with_reducible repeat (first | apply Ra | apply Rn | apply Rd)); exact HO103.out) hb); replace HB := am (below_step (by repeat (first | (with_reducible first | exact HB.out | apply lA | apply lN | apply lD) | exact HB.out)) hb); (try clear hb); (try clear hb2); (try clear hk); (try clear hi)) | (go_at_call 23; (with_reducible refine (cfg_Reaches.calls k _ _ y101 2 (⟨#[120]⟩ : ByteArray) 0 true _ ?side1 ?side2 A3.out).mono ?_); (case side1 => repeat (first | exact (Kd.R_reads' HO103.out).2.2 | (with_reducible refine Kd.C_alloc ?_ _) | (with_reducible refine Kd.C_drewN ?_ _) | (with_reducible refine Kd.C_drew ?_))); (case side2 => exact (Kd.R_reads' HO103.out).2.1); rintro e w42 ⟨rfl, hb⟩; replace HO103 := am (Kd.R_below (by (with_reducible repeat (first | apply Ra | apply Rn | apply Rd)); exact HO103.out) hb); replace HB := am (below_step (by repeat (first | (with_reducible first | exact HB.out | apply lA | apply lN | apply lD) | exact HB.out)) hb); (try clear hb); (try clear hb2); (try clear hk); (try clear hi)) | (go_at_call 23; (with_reducible refine (cfg_Reaches.calls k _ _ y101 0 (⟨#[120]⟩ : ByteArray) 0 false _ ?side1 ?side2 A5.out).mono ?_); (case side1 => repeat (first | exact (Kd.R_reads' HO103.out).2.2 | (with_reducible refine Kd.C_alloc ?_ _) | (with_reducible refine Kd.C_drewN ?_ _) | (with_reducible refine Kd.C_drew ?_))); (case side2 => exact (Kd.R_reads' HO103.out).2.1); rintro e w43 ⟨rfl, hb⟩; replace HO103 := am (Kd.R_below (by (with_reducible repeat (first | apply Ra | apply Rn | apply Rd)); exact HO103.out) hb); replace HB := am (below_step (by repeat (first | (with_reducible first | exact HB.out | apply lA | apply lN | apply lD) | exact HB.out)) hb); (try clear hb); (try clear hb2); (try clear hk); (try clear hi)) | (go_at_call 18; (with_reducible refine (cfg_Lives.calls k _ _ y101 1 (⟨#[120]⟩ : ByteArray) true _ ?side1 ?side2 A13.out).mono ?_); (case side1 => repeat (first | exact (Kd.R_reads' HO103.out).2.2 | (with_reducible refine Kd.C_alloc ?_ _) | (with_reducible refine Kd.C_drewN ?_ _) | (with_reducible refine Kd.C_drew ?_))); (case side2 => exact (Kd.R_reads' HO103.out).2.1); rintro e w44 ⟨rfl, hb⟩; replace HO103 := am (Kd.R_below (by (with_reducible repeat (first | apply Ra | apply Rn | apply Rd)); exact HO103.out) hb); replace HB := am (below_step (by repeat (first | (with_reducible first | exact HB.out | apply lA | apply lN | apply lD) | exact HB.out)) hb); (try clear hb); (try clear hb2); (try clear hk); (try clear hi)) | (go_at_call 18; (with_reducible refine (cfg_Lives.calls k _ _ y101 0 (⟨#[120]⟩ : ByteArray) false _ ?side1 ?side2 A15.out).mono ?_); (case side1 => repeat (first | exact (Kd.R_reads' HO103.out).2.2 | (with_reducible refine Kd.C_alloc ?_ _) | (with_reducible refine Kd.C_drewN ?_ _) | (with_reducible refine Kd.C_drew ?_))); (case side2 => exact (Kd.R_reads' HO103.out).2.1); rintro e w45 ⟨rfl, hb⟩; replace HO103 := am (Kd.R_below (by (with_reducible repeat (first | apply Ra | apply Rn | apply Rd)); exact HO103.out) hb); replace HB := am (below_step (by repeat (first | (with_reducible first | exact HB.out | apply lA | apply lN | apply lD) | exact HB.out)) hb); (try clear hb); (try clear hb2); (try clear hk); (try clear hi)) | (go_at_call 18; (with_reducible refine (cfg_Lives.calls k _ _ y101 2 (⟨#[120]⟩ : ByteArray) false _ ?side1 ?side2 A25.out).mono ?_); (case side1 => repeat (first | exact (Kd.R_reads' HO103.out).2.2 | (with_reducible refine Kd.C_alloc ?_ _) | (with_reducible refine Kd.C_drewN ?_ _) | (with_reducible refine Kd.C_drew ?_))); (case side2 => exact (Kd.R_reads' HO103.out).2.1); rintro e w46 ⟨rfl, hb⟩; replace HO103 := am (Kd.R_below (by (with_reducible repeat (first | apply Ra | apply Rn | apply Rd)); exact HO103.out) hb); replace HB := am (below_step (by repeat (first | (with_reducible first | exact HB.out | apply lA | apply lN | apply lD) | exact HB.out)) hb); (try clear hb); (try clear hb2); (try clear hk); (try clear hi)) | (go_at_call 19; (with_reducible refine (cfg_Next.calls _ _ y101 1 t110 _ ?side1 ?side2 A36.out).mono ?_); (case side1 => repeat (first | exact (Kd.R_reads' HO103.out).2.2 | (with_reducible refine Kd.C_alloc ?_ _) | (with_reducible refine Kd.C_drewN ?_ _) | (with_reducible refine Kd.C_drew ?_))); (case side2 => exact (Kd.R_reads' HO103.out).2.1); rintro e w47 ⟨v111, rfl, ho0, hb⟩; replace HO103 := am (Kd.R_below (by (with_reducible repeat (first | apply Ra | apply Rn | apply Rd)); exact HO103.out) hb); have HO112 := am (Kd.R_lower ho0 (below_size (by repeat (first | (with_reducible first | exact HB.out | apply lA | apply lN | apply lD) | exact HB.out)))); replace HB := am (below_step (by repeat (first | (with_reducible first | exact HB.out | apply lA | apply lN | apply lD) | exact HB.out)) hb); (try clear hb); (try clear hb2); (try clear hk); (try clear hi); (try clear ho0)) | ((with_reducible refine gate_dst (N := 34) rfl ?_); (try (refine gate_guard (by rfl) ?_; dsimp only)); refine Kd.R_lit (Kd.int .i64) _ 3 ?hg (N := 34) ?hd (xs := ([2] : List Int)) (inner := [.int .i64 2]) (ok := fun _ => True) (okp := fun _ => True) ?hr ?hp (fun _ hk => hk) trivial (Below.refl _ _) (Nat.le_refl _) (by simp) ?_; (case hd => rfl); (case hg => rfl); (case hr => first | (go_simp; done) | (go_simp; rfl)); (case hp => exact (Reps.one (show Kd.M (Kd.int .i64) _ _ _ 2 [.int .i64 2] from rfl) (Reps.none _ _))); intro v114 w48 ho49 hb hg_ hnew_; clear hg_ hnew_; (first | rw [← Ny113.out] at ho49 | (simp only [Int.reduceToNat] at ho49; rw [← Ny113.out] at ho49)); replace HO103 := am (Kd.R_below (by (with_reducible repeat (first | apply Ra | apply Rn | apply Rd)); exact HO103.out) hb); have HO115 := am (Kd.R_lower (Kd.R_new' ho49 (Kd.R_lt (by (with_reducible repeat (first | apply Ra | apply Rn | apply Rd)); exact HO112.out))) (below_size (by repeat (first | (with_reducible first | exact HB.out | apply lA | apply lN | apply lD) | exact HB.out)))); replace HO112 := am (Kd.R_elder' (by (with_reducible repeat (first | apply Ra | apply Rn | apply Rd)); exact HO112.out) (Kd.R_base ho49) hb); replace HB := am (below_step (by repeat (first | (with_reducible first | exact HB.out | apply lA | apply lN | apply lD) | exact HB.out)) hb); clear hb ho49; obtain ⟨Ao50, co50, eo50⟩ := Kd.R_slice HO112.out; subst eo50; obtain ⟨Ao51, co51, eo51⟩ := Kd.R_slice HO115.out; subst eo51) | (go_at_call 26; (with_reducible refine (lambrequinref10_Ints.calls k _ _ t110 _ _ y113 t116 _ ?side1 ?side2 ?side3 ?side4 A37.out).mono ?_); (case side1 => repeat (first | exact (Kd.R_reads' HO112.out).2.2 | (with_reducible refine Kd.C_alloc ?_ _) | (with_reducible refine Kd.C_drewN ?_ _) | (with_reducible refine Kd.C_drew ?_))); (case side2 => exact (Kd.R_reads' HO112.out).2.1); (case side3 => repeat (first | exact (Kd.R_reads' HO115.out).2.2 | (with_reducible refine Kd.C_alloc ?_ _) | (with_reducible refine Kd.C_drewN ?_ _) | (with_reducible refine Kd.C_drew ?_))); (case side4 => exact (Kd.R_reads' HO115.out).2.1); rintro e w' ⟨rfl, ⟨nd, rfl⟩⟩))
       go_ret
       exact ⟨by first | rfl | (simp [errW_none, errW_some] <;> rfl) | (simp [*, errW_none, errW_some] <;> rfl), by repeat (first | (with_reducible first | exact HB.out | apply lA | apply lN | apply lD) | exact HB.out)⟩
    ·replace c14 := Bool.eq_false_iff.mpr c14
     subst c14
     have H1 : (some false) = some r := by rw [if_neg (show ¬ (false = true) by decide)] at H; exact H
     clear H
     have H := H1
     clear H1
     obtain rfl := Option.some.inj H
     go_enter Try.func17, Try.ntmps17
     go_wp2_with (first | ((with_reducible refine gate_dst (N := 5) rfl ?_); (try (refine gate_guard (by rfl) ?_; dsimp only)); refine Kd.R_lit k30 _ 30 ?hg (N := 5) ?hd (xs := ([(⟨1, (⟨#[120]⟩ : ByteArray), (⟨#[]⟩ : ByteArray), (⟨#[]⟩ : ByteArray), (⟨#[]⟩ : ByteArray), 1, 0, 0⟩ : Stmt), (⟨6, (⟨#[]⟩ : ByteArray), (⟨#[120]⟩ : ByteArray), (⟨#[]⟩ : ByteArray), (⟨#[]⟩ : ByteArray), 0, 0, 0⟩ : Stmt), (⟨9, (⟨#[]⟩ : ByteArray), (⟨#[]⟩ : ByteArray), (⟨#[]⟩ : ByteArray), (⟨#[]⟩ : ByteArray), 0, 0, 0⟩ : Stmt)] : List (Stmt))) (inner := [.int .i64 1, .string (⟨#[120]⟩ : ByteArray), .string (⟨#[]⟩ : ByteArray), .string (⟨#[]⟩ : ByteArray), .string (⟨#[]⟩ : ByteArray), .int .i64 1, .int .i64 0, .int .i64 0, .int .i64 6, .string (⟨#[]⟩ : ByteArray), .string (⟨#[120]⟩ : ByteArray), .string (⟨#[]⟩ : ByteArray), .string (⟨#[]⟩ : ByteArray), .int .i64 0, .int .i64 0, .int .i64 0, .int .i64 9, .string (⟨#[]⟩ : ByteArray), .string (⟨#[]⟩ : ByteArray), .string (⟨#[]⟩ : ByteArray), .string (⟨#[]⟩ : ByteArray), .int .i64 0, .int .i64 0, .int .i64 0]) (ok := fun _ => True) (okp := fun _ => True) ?hr ?hp (fun _ hk => hk) trivial (Below.refl _ _) (Nat.le_refl _) (by simp) ?_; (case hd => rfl); (case hg => rfl); (case hr => first | (go_simp; done) | (go_simp; rfl)); (case hp => exact (Reps.c8 (show Kd.M k30 _ _ _ (⟨1, (⟨#[120]⟩ : ByteArray), (⟨#[]⟩ : ByteArray), (⟨#[]⟩ : ByteArray), (⟨#[]⟩ : ByteArray), 1, 0, 0⟩ : Stmt) [.int .i64 1, .string (⟨#[120]⟩ : ByteArray), .string (⟨#[]⟩ : ByteArray), .string (⟨#[]⟩ : ByteArray), .string (⟨#[]⟩ : ByteArray), .int .i64 1, .int .i64 0, .int .i64 0] from (k30_mkM _ _ _ (⟨1, (⟨#[120]⟩ : ByteArray), (⟨#[]⟩ : ByteArray), (⟨#[]⟩ : ByteArray), (⟨#[]⟩ : ByteArray), 1, 0, 0⟩ : Stmt) )) (Reps.c8 (show Kd.M k30 _ _ _ (⟨6, (⟨#[]⟩ : ByteArray), (⟨#[120]⟩ : ByteArray), (⟨#[]⟩ : ByteArray), (⟨#[]⟩ : ByteArray), 0, 0, 0⟩ : Stmt) [.int .i64 6, .string (⟨#[]⟩ : ByteArray), .string (⟨#[120]⟩ : ByteArray), .string (⟨#[]⟩ : ByteArray), .string (⟨#[]⟩ : ByteArray), .int .i64 0, .int .i64 0, .int .i64 0] from (k30_mkM _ _ _ (⟨6, (⟨#[]⟩ : ByteArray), (⟨#[120]⟩ : ByteArray), (⟨#[]⟩ : ByteArray), (⟨#[]⟩ : ByteArray), 0, 0, 0⟩ : Stmt) )) (Reps.c8 (show Kd.M k30 _ _ _ (⟨9, (⟨#[]⟩ : ByteArray), (⟨#[]⟩ : ByteArray), (⟨#[]⟩ : ByteArray), (⟨#[]⟩ : ByteArray), 0, 0, 0⟩ : Stmt) [.int .i64 9, .string (⟨#[]⟩ : ByteArray), .string (⟨#[]⟩ : ByteArray), .string (⟨#[]⟩ : ByteArray), .string (⟨#[]⟩ : ByteArray), .int .i64 0, .int .i64 0, .int .i64 0] from (k30_mkM _ _ _ (⟨9, (⟨#[]⟩ : ByteArray), (⟨#[]⟩ : ByteArray), (⟨#[]⟩ : ByteArray), (⟨#[]⟩ : ByteArray), 0, 0, 0⟩ : Stmt) )) (Reps.none _ _))))); intro v102 w52 ho53 hb hg_ hnew_; clear hg_ hnew_; (first | rw [← Ny101.out] at ho53 | (simp only [Int.reduceToNat] at ho53; rw [← Ny101.out] at ho53)); have HO103 := am (Kd.R_lower ho53 (below_size (by repeat (first | (with_reducible first | exact HB.out | apply lA | apply lN | apply lD) | exact HB.out)))); replace HB := am (below_step (by repeat (first | (with_reducible first | exact HB.out | apply lA | apply lN | apply lD) | exact HB.out)) hb); clear hb ho53; obtain ⟨Ao54, co54, eo54⟩ := Kd.R_slice HO103.out; subst eo54) | ((with_reducible refine gate_callee (f := 23) rfl ?_); refine goesL_ (some 7) rfl rfl Try.func23 (by kernel_rfl) rfl #[.slice Ao54 y101.length co54, .int .i64 1, .string (⟨#[120]⟩ : ByteArray), .int .i64 0] rfl (by (try simp only [List.map_toArray, List.map_cons, List.map_nil]); first | done | rfl | (simp only [List.length_drop, List.length_take]; rfl)) ?_; (with_reducible refine (cfg_Reaches.calls k _ _ y101 1 (⟨#[120]⟩ : ByteArray) 0 true _ ?side1 ?side2 A1.out).mono ?_); (case side1 => repeat (first | exact (Kd.R_reads' HO103.out).2.2 | (with_reducible refine Kd.C_alloc ?_ _) | (with_reducible refine Kd.C_drewN ?_ _) | (with_reducible refine Kd.C_drew ?_))); (case side2 => exact (Kd.R_reads' HO103.out).2.1); rintro e w55 ⟨rfl, hb⟩; refine ⟨_, rfl, ?_⟩; replace HO103 := am (Kd.R_below (by (with_reducible repeat (first | apply Ra | apply Rn | apply Rd)); exact HO103.out) hb); replace HB := am (below_step (by repeat (first | (with_reducible first | exact HB.out | apply lA | apply lN | apply lD) | exact HB.out)) hb); (try clear hb); (try clear hb2); (try clear hk); (try clear hi)) | (go_at_call 23; (with_reducible refine (cfg_Reaches.calls k _ _ y101 2 (⟨#[120]⟩ : ByteArray) 0 true _ ?side1 ?side2 A3.out).mono ?_); (case side1 => repeat (first | exact (Kd.R_reads' HO103.out).2.2 | (with_reducible refine Kd.C_alloc ?_ _) | (with_reducible refine Kd.C_drewN ?_ _) | (with_reducible refine Kd.C_drew ?_))); (case side2 => exact (Kd.R_reads' HO103.out).2.1); rintro e w56 ⟨rfl, hb⟩; replace HO103 := am (Kd.R_below (by (with_reducible repeat (first | apply Ra | apply Rn | apply Rd)); exact HO103.out) hb); replace HB := am (below_step (by repeat (first | (with_reducible first | exact HB.out | apply lA | apply lN | apply lD) | exact HB.out)) hb); (try clear hb); (try clear hb2); (try clear hk); (try clear hi)) | (go_at_call 23; (with_reducible refine (cfg_Reaches.calls k _ _ y101 0 (⟨#[120]⟩ : ByteArray) 0 false _ ?side1 ?side2 A5.out).mono ?_); (case side1 => repeat (first | exact (Kd.R_reads' HO103.out).2.2 | (with_reducible refine Kd.C_alloc ?_ _) | (with_reducible refine Kd.C_drewN ?_ _) | (with_reducible refine Kd.C_drew ?_))); (case side2 => exact (Kd.R_reads' HO103.out).2.1); rintro e w57 ⟨rfl, hb⟩; replace HO103 := am (Kd.R_below (by (with_reducible repeat (first | apply Ra | apply Rn | apply Rd)); exact HO103.out) hb); replace HB := am (below_step (by repeat (first | (with_reducible first | exact HB.out | apply lA | apply lN | apply lD) | exact HB.out)) hb); (try clear hb); (try clear hb2); (try clear hk); (try clear hi)) | (go_at_call 18; (with_reducible refine (cfg_Lives.calls k _ _ y101 1 (⟨#[120]⟩ : ByteArray) false _ ?side1 ?side2 A13.out).mono ?_); (case side1 => repeat (first | exact (Kd.R_reads' HO103.out).2.2 | (with_reducible refine Kd.C_alloc ?_ _) | (with_reducible refine Kd.C_drewN ?_ _) | (with_reducible refine Kd.C_drew ?_))); (case side2 => exact (Kd.R_reads' HO103.out).2.1); rintro e w58 ⟨rfl, hb⟩; replace HO103 := am (Kd.R_below (by (with_reducible repeat (first | apply Ra | apply Rn | apply Rd)); exact HO103.out) hb); replace HB := am (below_step (by repeat (first | (with_reducible first | exact HB.out | apply lA | apply lN | apply lD) | exact HB.out)) hb); (try clear hb); (try clear hb2); (try clear hk); (try clear hi)))
     go_ret
     exact ⟨by first | rfl | (simp [errW_none, errW_some] <;> rfl) | (simp [*, errW_none, errW_some] <;> rfl), by repeat (first | (with_reducible first | exact HB.out | apply lA | apply lN | apply lD) | exact HB.out)⟩
  ·replace c4 := Bool.eq_false_iff.mpr c4
   subst c4
   have H1 : (some false) = some r := by rw [if_neg (show ¬ (false = true) by decide)] at H; exact H
   clear H
   have H := H1
   clear H1
   obtain rfl := Option.some.inj H
   go_enter Try.func17, Try.ntmps17
   go_wp2_with (first | ((with_reducible refine gate_dst (N := 5) rfl ?_); (try (refine gate_guard (by rfl) ?_; dsimp only)); refine Kd.R_lit k30 _ 30 ?hg (N := 5) ?hd (xs := ([(⟨1, (⟨#[120]⟩ : ByteArray), (⟨#[]⟩ : ByteArray), (⟨#[]⟩ : ByteArray), (⟨#[]⟩ : ByteArray), 1, 0, 0⟩ : Stmt), (⟨6, (⟨#[]⟩ : ByteArray), (⟨#[120]⟩ : ByteArray), (⟨#[]⟩ : ByteArray), (⟨#[]⟩ : ByteArray), 0, 0, 0⟩ : Stmt), (⟨9, (⟨#[]⟩ : ByteArray), (⟨#[]⟩ : ByteArray), (⟨#[]⟩ : ByteArray), (⟨#[]⟩ : ByteArray), 0, 0, 0⟩ : Stmt)] : List (Stmt))) (inner := [.int .i64 1, .string (⟨#[120]⟩ : ByteArray), .string (⟨#[]⟩ : ByteArray), .string (⟨#[]⟩ : ByteArray), .string (⟨#[]⟩ : ByteArray), .int .i64 1, .int .i64 0, .int .i64 0, .int .i64 6, .string (⟨#[]⟩ : ByteArray), .string (⟨#[120]⟩ : ByteArray), .string (⟨#[]⟩ : ByteArray), .string (⟨#[]⟩ : ByteArray), .int .i64 0, .int .i64 0, .int .i64 0, .int .i64 9, .string (⟨#[]⟩ : ByteArray), .string (⟨#[]⟩ : ByteArray), .string (⟨#[]⟩ : ByteArray), .string (⟨#[]⟩ : ByteArray), .int .i64 0, .int .i64 0, .int .i64 0]) (ok := fun _ => True) (okp := fun _ => True) ?hr ?hp (fun _ hk => hk) trivial (Below.refl _ _) (Nat.le_refl _) (by simp) ?_; (case hd => rfl); (case hg => rfl); (case hr => first | (go_simp; done) | (go_simp; rfl)); (case hp => exact (Reps.c8 (show Kd.M k30 _ _ _ (⟨1, (⟨#[120]⟩ : ByteArray), (⟨#[]⟩ : ByteArray), (⟨#[]⟩ : ByteArray), (⟨#[]⟩ : ByteArray), 1, 0, 0⟩ : Stmt) [.int .i64 1, .string (⟨#[120]⟩ : ByteArray), .string (⟨#[]⟩ : ByteArray), .string (⟨#[]⟩ : ByteArray), .string (⟨#[]⟩ : ByteArray), .int .i64 1, .int .i64 0, .int .i64 0] from (k30_mkM _ _ _ (⟨1, (⟨#[120]⟩ : ByteArray), (⟨#[]⟩ : ByteArray), (⟨#[]⟩ : ByteArray), (⟨#[]⟩ : ByteArray), 1, 0, 0⟩ : Stmt) )) (Reps.c8 (show Kd.M k30 _ _ _ (⟨6, (⟨#[]⟩ : ByteArray), (⟨#[120]⟩ : ByteArray), (⟨#[]⟩ : ByteArray), (⟨#[]⟩ : ByteArray), 0, 0, 0⟩ : Stmt) [.int .i64 6, .string (⟨#[]⟩ : ByteArray), .string (⟨#[120]⟩ : ByteArray), .string (⟨#[]⟩ : ByteArray), .string (⟨#[]⟩ : ByteArray), .int .i64 0, .int .i64 0, .int .i64 0] from (k30_mkM _ _ _ (⟨6, (⟨#[]⟩ : ByteArray), (⟨#[120]⟩ : ByteArray), (⟨#[]⟩ : ByteArray), (⟨#[]⟩ : ByteArray), 0, 0, 0⟩ : Stmt) )) (Reps.c8 (show Kd.M k30 _ _ _ (⟨9, (⟨#[]⟩ : ByteArray), (⟨#[]⟩ : ByteArray), (⟨#[]⟩ : ByteArray), (⟨#[]⟩ : ByteArray), 0, 0, 0⟩ : Stmt) [.int .i64 9, .string (⟨#[]⟩ : ByteArray), .string (⟨#[]⟩ : ByteArray), .string (⟨#[]⟩ : ByteArray), .string (⟨#[]⟩ : ByteArray), .int .i64 0, .int .i64 0, .int .i64 0] from (k30_mkM _ _ _ (⟨9, (⟨#[]⟩ : ByteArray), (⟨#[]⟩ : ByteArray), (⟨#[]⟩ : ByteArray), (⟨#[]⟩ : ByteArray), 0, 0, 0⟩ : Stmt) )) (Reps.none _ _))))); intro v102 w59 ho60 hb hg_ hnew_; clear hg_ hnew_; (first | rw [← Ny101.out] at ho60 | (simp only [Int.reduceToNat] at ho60; rw [← Ny101.out] at ho60)); have HO103 := am (Kd.R_lower ho60 (below_size (by repeat (first | (with_reducible first | exact HB.out | apply lA | apply lN | apply lD) | exact HB.out)))); replace HB := am (below_step (by repeat (first | (with_reducible first | exact HB.out | apply lA | apply lN | apply lD) | exact HB.out)) hb); clear hb ho60; obtain ⟨Ao61, co61, eo61⟩ := Kd.R_slice HO103.out; subst eo61) | ((with_reducible refine gate_callee (f := 23) rfl ?_); refine goesL_ (some 7) rfl rfl Try.func23 (by kernel_rfl) rfl #[.slice Ao61 y101.length co61, .int .i64 1, .string (⟨#[120]⟩ : ByteArray), .int .i64 0] rfl (by (try simp only [List.map_toArray, List.map_cons, List.map_nil]); first | done | rfl | (simp only [List.length_drop, List.length_take]; rfl)) ?_; (with_reducible refine (cfg_Reaches.calls k _ _ y101 1 (⟨#[120]⟩ : ByteArray) 0 true _ ?side1 ?side2 A1.out).mono ?_); (case side1 => repeat (first | exact (Kd.R_reads' HO103.out).2.2 | (with_reducible refine Kd.C_alloc ?_ _) | (with_reducible refine Kd.C_drewN ?_ _) | (with_reducible refine Kd.C_drew ?_))); (case side2 => exact (Kd.R_reads' HO103.out).2.1); rintro e w62 ⟨rfl, hb⟩; refine ⟨_, rfl, ?_⟩; replace HO103 := am (Kd.R_below (by (with_reducible repeat (first | apply Ra | apply Rn | apply Rd)); exact HO103.out) hb); replace HB := am (below_step (by repeat (first | (with_reducible first | exact HB.out | apply lA | apply lN | apply lD) | exact HB.out)) hb); (try clear hb); (try clear hb2); (try clear hk); (try clear hi)) | (go_at_call 23; (with_reducible refine (cfg_Reaches.calls k _ _ y101 2 (⟨#[120]⟩ : ByteArray) 0 false _ ?side1 ?side2 A3.out).mono ?_); (case side1 => repeat (first | exact (Kd.R_reads' HO103.out).2.2 | (with_reducible refine Kd.C_alloc ?_ _) | (with_reducible refine Kd.C_drewN ?_ _) | (with_reducible refine Kd.C_drew ?_))); (case side2 => exact (Kd.R_reads' HO103.out).2.1); rintro e w63 ⟨rfl, hb⟩; replace HO103 := am (Kd.R_below (by (with_reducible repeat (first | apply Ra | apply Rn | apply Rd)); exact HO103.out) hb); replace HB := am (below_step (by repeat (first | (with_reducible first | exact HB.out | apply lA | apply lN | apply lD) | exact HB.out)) hb); (try clear hb); (try clear hb2); (try clear hk); (try clear hi)))
   go_ret
   exact ⟨by first | rfl | (simp [errW_none, errW_some] <;> rfl) | (simp [*, errW_none, errW_some] <;> rfl), by repeat (first | (with_reducible first | exact HB.out | apply lA | apply lN | apply lD) | exact HB.out)⟩
 ·replace c2 := Bool.eq_false_iff.mpr c2
  subst c2
  have H1 : (some false) = some r := by rw [if_neg (show ¬ (false = true) by decide)] at H; exact H
  clear H
  have H := H1
  clear H1
  obtain rfl := Option.some.inj H
  go_enter Try.func17, Try.ntmps17
  go_wp2_with (first | ((with_reducible refine gate_dst (N := 5) rfl ?_); (try (refine gate_guard (by rfl) ?_; dsimp only)); refine Kd.R_lit k30 _ 30 ?hg (N := 5) ?hd (xs := ([(⟨1, (⟨#[120]⟩ : ByteArray), (⟨#[]⟩ : ByteArray), (⟨#[]⟩ : ByteArray), (⟨#[]⟩ : ByteArray), 1, 0, 0⟩ : Stmt), (⟨6, (⟨#[]⟩ : ByteArray), (⟨#[120]⟩ : ByteArray), (⟨#[]⟩ : ByteArray), (⟨#[]⟩ : ByteArray), 0, 0, 0⟩ : Stmt), (⟨9, (⟨#[]⟩ : ByteArray), (⟨#[]⟩ : ByteArray), (⟨#[]⟩ : ByteArray), (⟨#[]⟩ : ByteArray), 0, 0, 0⟩ : Stmt)] : List (Stmt))) (inner := [.int .i64 1, .string (⟨#[120]⟩ : ByteArray), .string (⟨#[]⟩ : ByteArray), .string (⟨#[]⟩ : ByteArray), .string (⟨#[]⟩ : ByteArray), .int .i64 1, .int .i64 0, .int .i64 0, .int .i64 6, .string (⟨#[]⟩ : ByteArray), .string (⟨#[120]⟩ : ByteArray), .string (⟨#[]⟩ : ByteArray), .string (⟨#[]⟩ : ByteArray), .int .i64 0, .int .i64 0, .int .i64 0, .int .i64 9, .string (⟨#[]⟩ : ByteArray), .string (⟨#[]⟩ : ByteArray), .string (⟨#[]⟩ : ByteArray), .string (⟨#[]⟩ : ByteArray), .int .i64 0, .int .i64 0, .int .i64 0]) (ok := fun _ => True) (okp := fun _ => True) ?hr ?hp (fun _ hk => hk) trivial (Below.refl _ _) (Nat.le_refl _) (by simp) ?_; (case hd => rfl); (case hg => rfl); (case hr => first | (go_simp; done) | (go_simp; rfl)); (case hp => exact (Reps.c8 (show Kd.M k30 _ _ _ (⟨1, (⟨#[120]⟩ : ByteArray), (⟨#[]⟩ : ByteArray), (⟨#[]⟩ : ByteArray), (⟨#[]⟩ : ByteArray), 1, 0, 0⟩ : Stmt) [.int .i64 1, .string (⟨#[120]⟩ : ByteArray), .string (⟨#[]⟩ : ByteArray), .string (⟨#[]⟩ : ByteArray), .string (⟨#[]⟩ : ByteArray), .int .i64 1, .int .i64 0, .int .i64 0] from (k30_mkM _ _ _ (⟨1, (⟨#[120]⟩ : ByteArray), (⟨#[]⟩ : ByteArray), (⟨#[]⟩ : ByteArray), (⟨#[]⟩ : ByteArray), 1, 0, 0⟩ : Stmt) )) (Reps.c8 (show Kd.M k30 _ _ _ (⟨6, (⟨#[]⟩ : ByteArray), (⟨#[120]⟩ : ByteArray), (⟨#[]⟩ : ByteArray), (⟨#[]⟩ : ByteArray), 0, 0, 0⟩ : Stmt) [.int .i64 6, .string (⟨#[]⟩ : ByteArray), .string (⟨#[120]⟩ : ByteArray), .string (⟨#[]⟩ : ByteArray), .string (⟨#[]⟩ : ByteArray), .int .i64 0, .int .i64 0, .int .i64 0] from (k30_mkM _ _ _ (⟨6, (⟨#[]⟩ : ByteArray), (⟨#[120]⟩ : ByteArray), (⟨#[]⟩ : ByteArray), (⟨#[]⟩ : ByteArray), 0, 0, 0⟩ : Stmt) )) (Reps.c8 (show Kd.M k30 _ _ _ (⟨9, (⟨#[]⟩ : ByteArray), (⟨#[]⟩ : ByteArray), (⟨#[]⟩ : ByteArray), (⟨#[]⟩ : ByteArray), 0, 0, 0⟩ : Stmt) [.int .i64 9, .string (⟨#[]⟩ : ByteArray), .string (⟨#[]⟩ : ByteArray), .string (⟨#[]⟩ : ByteArray), .string (⟨#[]⟩ : ByteArray), .int .i64 0, .int .i64 0, .int .i64 0] from (k30_mkM _ _ _ (⟨9, (⟨#[]⟩ : ByteArray), (⟨#[]⟩ : ByteArray), (⟨#[]⟩ : ByteArray), (⟨#[]⟩ : ByteArray), 0, 0, 0⟩ : Stmt) )) (Reps.none _ _))))); intro v102 w64 ho65 hb hg_ hnew_; clear hg_ hnew_; (first | rw [← Ny101.out] at ho65 | (simp only [Int.reduceToNat] at ho65; rw [← Ny101.out] at ho65)); have HO103 := am (Kd.R_lower ho65 (below_size (by repeat (first | (with_reducible first | exact HB.out | apply lA | apply lN | apply lD) | exact HB.out)))); replace HB := am (below_step (by repeat (first | (with_reducible first | exact HB.out | apply lA | apply lN | apply lD) | exact HB.out)) hb); clear hb ho65; obtain ⟨Ao66, co66, eo66⟩ := Kd.R_slice HO103.out; subst eo66) | ((with_reducible refine gate_callee (f := 23) rfl ?_); refine goesL_ (some 7) rfl rfl Try.func23 (by kernel_rfl) rfl #[.slice Ao66 y101.length co66, .int .i64 1, .string (⟨#[120]⟩ : ByteArray), .int .i64 0] rfl (by (try simp only [List.map_toArray, List.map_cons, List.map_nil]); first | done | rfl | (simp only [List.length_drop, List.length_take]; rfl)) ?_; (with_reducible refine (cfg_Reaches.calls k _ _ y101 1 (⟨#[120]⟩ : ByteArray) 0 false _ ?side1 ?side2 A1.out).mono ?_); (case side1 => repeat (first | exact (Kd.R_reads' HO103.out).2.2 | (with_reducible refine Kd.C_alloc ?_ _) | (with_reducible refine Kd.C_drewN ?_ _) | (with_reducible refine Kd.C_drew ?_))); (case side2 => exact (Kd.R_reads' HO103.out).2.1); rintro e w67 ⟨rfl, hb⟩; refine ⟨_, rfl, ?_⟩; replace HO103 := am (Kd.R_below (by (with_reducible repeat (first | apply Ra | apply Rn | apply Rd)); exact HO103.out) hb); replace HB := am (below_step (by repeat (first | (with_reducible first | exact HB.out | apply lA | apply lN | apply lD) | exact HB.out)) hb); (try clear hb); (try clear hb2); (try clear hk); (try clear hi)))
  go_ret
  exact ⟨by first | rfl | (simp [errW_none, errW_some] <;> rfl) | (simp [*, errW_none, errW_some] <;> rfl), by repeat (first | (with_reducible first | exact HB.out | apply lA | apply lN | apply lD) | exact HB.out)⟩
end Go.Proofs.Ytnepgcbgkhikkaa.H
namespace Go.Proofs.Ytnepgcbgkhikkaa.H
open Go.RowKit Go.Proofs.YtnepgcbgkhikkaaW.PrintWords
set_option linter.unusedVariables false
set_option linter.unusedSimpArgs false
def defB (st : Stmt) (x : ByteArray) : Bool := (defN st).2 && decide ((defN st).1 = x)
theorem defB_iff {st : Stmt} {x : ByteArray} : defB st x = true ↔ (defN st).2 = true ∧ (defN st).1 = x := by simp [defB]
theorem defines_eq (st : Stmt) (x : ByteArray) : cfg_defines.f st.kind st.x st.y st.z st.op st.n st.a st.b x = some (defB st x) := by
  unfold cfg_defines.f
  rw [Def_eq]
  simp only [Option.bind_some, defB]
  cases h : (defN st).2 with
  | true =>
    rw [if_pos rfl]
    have : ((defN st).1.toList == x.toList) = decide ((defN st).1 = x) := by
      rw [Bool.eq_iff_iff]; simp [lib_ba_eq]
    simp [this]
  | false => rw [if_neg (by simp)]; rfl
def keepS (s : List Stmt) (x : ByteArray) : Int → Bool := fun m => !defB (at_ s m) x
theorem keepF_on (s : List Stmt) (x : ByteArray) (m : Int) (h0 : 0 ≤ m) (h1 : m < (s.length : Int)) : keepF s x m = some (keepS s x m) := by
  unfold keepF keepS at_
  rw [if_pos h0, if_pos h1, defines_eq]; rfl
def reachP (s : List Stmt) (n : Int) (x : ByteArray) (d : Int) : Prop := 0 ≤ n ∧ n < (s.length : Int) ∧ 0 ≤ d ∧ d < (s.length : Int) ∧ defB (at_ s d) x = true ∧ Rch s (keepS s x) (nxt s d) n
theorem Reaches_ev (s : List Stmt) (n : Int) (x : ByteArray) (d : Int) (hs : s.length ≤ 1000) : ∃ b, Ev (fun k => cfg_Reaches.f k s n x d) b ∧ (b = true ↔ reachP s n x d) := by
  unfold cfg_Reaches.f
  have no : Ev (fun k => cfg_Reaches.j0 k n d true s x) false := Ev.step (fun k => by rw [cfg_Reaches.j0]) (Ev.pos rfl (Ev.now _))
  have w : ∀ m : Int, withinB s.length m = true ↔ 0 ≤ m ∧ m < (s.length : Int) := by intro m; simp [withinB]
  by_cases hn : 0 ≤ n ∧ n < (s.length : Int)
  · by_cases hd : 0 ≤ d ∧ d < (s.length : Int)
    · cases hb : defB (at_ s d) x with
      | false =>
        refine ⟨false, Ev.pure (within_eq s n) (Ev.pos ((w n).2 hn) (Ev.pure (within_eq s d) (Ev.pos ((w d).2 hd) (Ev.pos hd.1 (Ev.pos hd.2 (Ev.pure (defines_eq (at_ s d) x) ?_)))))), by simp [reachP, hb]⟩
        rw [hb]; exact no
      | true =>
        obtain ⟨r, hr, hrl, hri⟩ := ways_ev s (keepF s x) (keepS s x) (keepF_on s x) (nxt s d) (fun f hf => ⟨(nxt_within hf).1, (nxt_within hf).2.1⟩) hs (by have := nxt_len s d; omega)
        obtain ⟨i, rfl⟩ : ∃ q : Nat, n = (q : Int) := ⟨n.toNat, by omega⟩
        cases hv : r[i]? with
        | none => rw [List.getElem?_eq_none_iff] at hv; omega
        | some v =>
          refine ⟨v, Ev.pure (within_eq s i) (Ev.pos ((w i).2 hn) (Ev.pure (within_eq s d) (Ev.pos ((w d).2 hd) (Ev.pos hd.1 (Ev.pos hd.2 (Ev.pure (defines_eq (at_ s d) x) ?_)))))), ?_⟩
          · rw [hb]
            refine Ev.step (fun k => by rw [cfg_Reaches.j0]) (Ev.neg (by simp) (Ev.pure (Next_eq s d) (Ev.bind hr ?_)))
            exact Ev.pos (by omega) (Ev.pos (by omega) (Ev.some (getD_at hv _)))
          · rw [← Option.some_inj, ← hv, hri i]
            simp [reachP, hb, hn, hd]
    · refine ⟨false, Ev.pure (within_eq s n) (Ev.pos ((w n).2 hn) (Ev.pure (within_eq s d) (Ev.neg (fun h => hd ((w d).1 h)) no))), ⟨fun h => by simp at h, fun h => absurd ⟨h.2.2.1, h.2.2.2.1⟩ hd⟩⟩
  · refine ⟨false, Ev.pure (within_eq s n) (Ev.neg (fun h => hn ((w n).1 h)) no), ⟨fun h => by simp at h, fun h => absurd ⟨h.1, h.2.1⟩ hn⟩⟩
def liveP (s : List Stmt) (n : Int) (x : ByteArray) : Prop := 0 ≤ n ∧ n < (s.length : Int) ∧ ∃ m : Int, Rch s (keepS s x) [n] m ∧ x ∈ usesS (at_ s m)
theorem Rch_within {s : List Stmt} {on : Int → Bool} {fr : List Int} (hfr : ∀ f ∈ fr, 0 ≤ f ∧ f < (s.length : Int)) {n : Int} (h : Rch s on fr n) : 0 ≤ n ∧ n < (s.length : Int) := by
  cases h with
  | base h => exact hfr _ h
  | step _ _ h => exact ⟨(nxt_within h).1, (nxt_within h).2.1⟩
theorem Lives_l0 (s : List Stmt) (x : ByteArray) (seen : List Bool) (hl : seen.length = s.length) (hs : s.length ≤ 1000) : ∀ (d i : Nat), i + d = s.length →
    ∃ b, Ev (fun k => cfg_Lives.l0 k seen (seen.length : Int) i s x) b ∧ (b = true ↔ ∃ m : Nat, i ≤ m ∧ seen[m]? = some true ∧ x ∈ usesS (at_ s m))
  | 0, i, e => by
    refine ⟨false, Ev.step (fun k => by rw [cfg_Lives.l0]) (Ev.neg (by omega) (Ev.now _)), by
      simp only [Bool.false_eq_true, false_iff, not_exists]
      rintro m ⟨h1, h2, -⟩
      have := (List.getElem?_eq_some_iff.1 h2).1
      omega⟩
  | d + 1, i, e => by
    obtain ⟨b, hb, hbi⟩ := Lives_l0 s x seen hl hs d (i + 1) (by omega)
    have more : ∀ {P : Prop}, (P ↔ ∃ m : Nat, i + 1 ≤ m ∧ seen[m]? = some true ∧ x ∈ usesS (at_ s m)) → ¬ (seen[i]? = some true ∧ x ∈ usesS (at_ s i)) → (P ↔ ∃ m : Nat, i ≤ m ∧ seen[m]? = some true ∧ x ∈ usesS (at_ s m)) := by
      intro P hP hn
      rw [hP]
      constructor
      · rintro ⟨m, h1, h2⟩; exact ⟨m, by omega, h2⟩
      · rintro ⟨m, h1, h2⟩
        rcases Nat.lt_or_ge i m with h | h
        · exact ⟨m, h, h2⟩
        · obtain rfl : m = i := by omega
          exact absurd h2 hn
    cases hv : seen[i]? with
    | none => rw [List.getElem?_eq_none_iff] at hv; omega
    | some v =>
      cases v with
      | false =>
        refine ⟨b, Ev.step (fun k => by rw [cfg_Lives.l0]) (Ev.pos (by omega) (Ev.pos (by omega) (Ev.pos (by omega) ?_))), more hbi (by rw [hv]; simp)⟩
        rw [show rdOf false seen (i : Int) = false from getD_at hv _, wrap_up (by omega)]
        exact Ev.neg (by simp) hb
      | true =>
        by_cases c : x ∈ usesS (at_ s i)
        · refine ⟨true, Ev.step (fun k => by rw [cfg_Lives.l0]) (Ev.pos (by omega) (Ev.pos (by omega) (Ev.pos (by omega) ?_))), by simp only [true_iff]; exact ⟨i, Nat.le_refl _, hv, c⟩⟩
          rw [show rdOf false seen (i : Int) = true from getD_at hv _]
          refine Ev.pos rfl (Ev.pos (by omega) (Ev.pure (Uses_eq (at_ s i)) (Ev.bind (Contains_ev _ x (by have := usesS_len (at_ s i); omega)) ?_)))
          rw [mem_iff.2 c]
          exact Ev.pos rfl (Ev.now _)
        · refine ⟨b, Ev.step (fun k => by rw [cfg_Lives.l0]) (Ev.pos (by omega) (Ev.pos (by omega) (Ev.pos (by omega) ?_))), more hbi (fun h => c h.2)⟩
          rw [show rdOf false seen (i : Int) = true from getD_at hv _, wrap_up (by omega)]
          refine Ev.pos rfl (Ev.pos (by omega) (Ev.pure (Uses_eq (at_ s i)) (Ev.bind (Contains_ev _ x (by have := usesS_len (at_ s i); omega)) ?_)))
          exact Ev.neg (by rw [mem_iff]; exact c) hb
theorem Lives_ev (s : List Stmt) (n : Int) (x : ByteArray) (hs : s.length ≤ 1000) : ∃ b, Ev (fun k => cfg_Lives.f k s n x) b ∧ (b = true ↔ liveP s n x) := by
  unfold cfg_Lives.f
  have w : withinB s.length n = true ↔ 0 ≤ n ∧ n < (s.length : Int) := by simp [withinB]
  by_cases hn : 0 ≤ n ∧ n < (s.length : Int)
  · have hfr : ∀ f ∈ [n], 0 ≤ f ∧ f < (s.length : Int) := by intro f hf; simp at hf; subst hf; exact hn
    obtain ⟨r, hr, hrl, hri⟩ := ways_ev s (keepF s x) (keepS s x) (keepF_on s x) [n] hfr hs (by simp)
    obtain ⟨b, hb, hbi⟩ := Lives_l0 s x r hrl hs s.length 0 (by omega)
    refine ⟨b, Ev.pure (within_eq s n) (Ev.pos (w.2 hn) (Ev.bind hr hb)), ?_⟩
    rw [hbi]
    constructor
    · rintro ⟨m, -, h2, h3⟩; exact ⟨hn.1, hn.2, m, (hri m).1 h2, h3⟩
    · rintro ⟨-, -, m, h1, h2⟩
      have hm := Rch_within hfr h1
      obtain ⟨i, rfl⟩ : ∃ q : Nat, m = (q : Int) := ⟨m.toNat, by omega⟩
      exact ⟨i, by omega, (hri i).2 h1, h2⟩
  · refine ⟨false, Ev.pure (within_eq s n) (Ev.neg (fun h => hn (w.1 h)) (Ev.now _)), ?_⟩
    simp only [liveP, Bool.false_eq_true, false_iff]
    rintro ⟨a, b, -⟩
    exact hn ⟨a, b⟩
theorem ev_of {g : Nat → Option Bool} {P : Prop} (h : ∃ b, Ev g b ∧ (b = true ↔ P)) {b : Bool} (e : b = true ↔ P) : Ev g b := by
  obtain ⟨c, hc, hp⟩ := h
  have : c = b := by rw [Bool.eq_iff_iff, hp, e]
  exact this ▸ hc
theorem ev_yes {g : Nat → Option Bool} {P : Prop} (h : ∃ b, Ev g b ∧ (b = true ↔ P)) (e : P) : Ev g true := ev_of h (by simp [e])
theorem ev_no {g : Nat → Option Bool} {P : Prop} (h : ∃ b, Ev g b ∧ (b = true ↔ P)) (e : ¬ P) : Ev g false := ev_of h (by simp [e])
def exX : ByteArray := (⟨#[120]⟩ : ByteArray)
def exL : List Stmt := [(⟨1, (⟨#[120]⟩ : ByteArray), (⟨#[]⟩ : ByteArray), (⟨#[]⟩ : ByteArray), (⟨#[]⟩ : ByteArray), 1, 0, 0⟩ : Stmt), (⟨6, (⟨#[]⟩ : ByteArray), (⟨#[120]⟩ : ByteArray), (⟨#[]⟩ : ByteArray), (⟨#[]⟩ : ByteArray), 0, 0, 0⟩ : Stmt), (⟨9, (⟨#[]⟩ : ByteArray), (⟨#[]⟩ : ByteArray), (⟨#[]⟩ : ByteArray), (⟨#[]⟩ : ByteArray), 0, 0, 0⟩ : Stmt)]
theorem exn (n : Int) : nxt exL n = if n = 0 then [1] else if n = 1 then [2] else [] := by
  by_cases h0 : n = 0
  · subst h0; decide +kernel
  · by_cases h1 : n = 1
    · subst h1; decide +kernel
    · by_cases h2 : n = 2
      · subst h2; decide +kernel
      · unfold nxt
        rw [if_neg (by intro h; have : (exL.length : Int) = 3 := rfl; omega), if_neg h0, if_neg h1]
theorem shown20_ev : Ev (fun k => lambrequinlaw20_shown.f k) true := by
  unfold lambrequinlaw20_shown.f
  refine Ev.pure (a := exL) rfl ?_
  have hl : exL.length ≤ 1000 := by decide
  have k0 : keepS exL exX 0 = false := by decide +kernel
  have k1 : keepS exL exX 1 = true := by decide +kernel
  have k2 : keepS exL exX 2 = true := by decide +kernel
  have e0 : nxt exL 0 = [1] := by rw [exn]; rfl
  have r1 : Rch exL (keepS exL exX) (nxt exL 0) 1 := .base (by rw [e0]; simp)
  refine Ev.bind (ev_yes (Reaches_ev exL 1 exX 0 hl) ⟨by decide, by decide, by decide, by decide, by decide +kernel, r1⟩) (Ev.pos rfl ?_)
  refine Ev.bind (ev_yes (Reaches_ev exL 2 exX 0 hl) ⟨by decide, by decide, by decide, by decide, by decide +kernel, .step r1 k1 (by rw [exn]; decide)⟩) (Ev.pos rfl ?_)
  have n0 : ∀ m : Int, (0 : Int) ∈ nxt exL m → False := by
    intro m hm
    rw [exn] at hm
    split at hm
    · simp at hm
    · split at hm <;> simp at hm
  refine Ev.bind (ev_no (Reaches_ev exL 0 exX 0 hl) ?_) (Ev.neg (by simp) ?_)
  · rintro ⟨-, -, -, -, -, h⟩
    cases h with
    | base h => exact n0 _ h
    | step _ _ h => exact n0 _ h
  refine Ev.bind (ev_yes (Lives_ev exL 1 exX hl) ⟨by decide, by decide, 1, .base (by simp), mem_iff.1 (by decide +kernel)⟩) (Ev.pos rfl ?_)
  refine Ev.bind (ev_no (Lives_ev exL 0 exX hl) ?_) (Ev.neg (by simp) ?_)
  · rintro ⟨-, -, m, h, hu⟩
    have : m = 0 := by
      clear hu
      induction h with
      | base h => simpa using h
      | step h1 ho hj ih => rw [ih, k0] at ho; cases ho
    subst this
    rw [← mem_iff] at hu
    revert hu; decide +kernel
  refine Ev.bind (ev_no (Lives_ev exL 2 exX hl) ?_) (Ev.neg (by simp) ?_)
  · rintro ⟨-, -, m, h, hu⟩
    have : m = 2 := by
      clear hu
      induction h with
      | base h => simpa using h
      | step h1 ho hj ih => rw [ih, exn] at hj; simp at hj
    subst this
    rw [← mem_iff] at hu
    revert hu; decide +kernel
  refine Ev.pure (Next_eq exL 1) (Ev.bind (Ints_ev _ _ (by rw [exn]; decide)) (Ev.some ?_))
  rw [exn]; decide
end Go.Proofs.Ytnepgcbgkhikkaa.H
/- on a trace: where it leads, who wrote a name last, what is read later -/
namespace Go.Proofs.Ytnepgcbgkhikkaa.H
open Go.RowKit Go.Proofs.YtnepgcbgkhikkaaW.PrintWords
set_option linter.unusedVariables false
set_option linter.unusedSimpArgs false
theorem mem_srtI2 {a b x : Int} : x ∈ srtI2 a b ↔ x = a ∨ x = b := by
  unfold srtI2
  split
  · simp
  · split
    · simp; omega
    · simp; omega
theorem stmt_at2 {l : List Stmt} {s : St} (h : inS l s) {st : Stmt} (e : l[s.n.toNat]? = some st) : at_ l s.n = st := by
  unfold at_ rd_T30
  rw [List.getD_eq_getElem?_getD, e]
  rfl
theorem leads {l : List Stmt} {s : St} (h : inS l s) (h' : inS l (nextS l s)) : (nextS l s).n ∈ nxt l s.n := by
  obtain ⟨st, e, hm, hn⟩ := inS_at h
  have ha := stmt_at2 h e
  have hq : 0 ≤ (nextS l s).n ∧ (nextS l s).n < (l.length : Int) := h'
  unfold nxt
  rw [if_pos (show 0 ≤ s.n ∧ s.n < (l.length : Int) from h), List.mem_filter, ha]
  refine ⟨?_, by simp [withinB]; exact hq⟩
  rw [hn] at hq ⊢
  show stepN st s.n.toNat s.vs s.ora ∈ nxtRaw st s.n
  replace hq : 0 ≤ stepN st s.n.toNat s.vs s.ora ∧ _ := hq
  have h0 : ((s.n.toNat : Nat) : Int) = s.n := by have := h.1; omega
  unfold stepN at hq ⊢
  unfold nxtRaw
  by_cases k7 : st.kind = 7
  · rw [if_pos k7, if_pos k7, mem_srtI2]; split <;> simp
  · rw [if_neg k7] at hq ⊢
    rw [if_neg k7]
    by_cases k8 : st.kind = 8
    · rw [if_pos k8, if_pos k8]; simp
    · rw [if_neg k8] at hq ⊢
      rw [if_neg k8]
      by_cases k9 : st.kind = 9
      · rw [if_pos k9] at hq; omega
      · rw [if_neg k9, if_neg k9, h0]; simp
theorem defB_at {l : List Stmt} {s : St} (h : inS l s) {st : Stmt} (e : l[s.n.toNat]? = some st) (x : ByteArray) : defB (at_ l s.n) x = true ↔ defK st ∧ st.x = x := by
  rw [stmt_at2 h e, defB_iff]
  unfold defN defK
  split
  · rename_i c; simp [c]
  · rename_i c; simp [c]
theorem nodup_names {l : List Stmt} {s : St} (hn : s.vs.map Var.name = nmsV l) {i j : Nat} {v w : Var} (hi : s.vs[i]? = some v) (hj : s.vs[j]? = some w) (e : v.name = w.name) : i = j := by
  have hp : ((s.vs.map Var.name).map toL).Pairwise (· < ·) := by rw [hn]; exact setS_sorted (l.flatMap namesOf)
  have hq : ∀ {i j : Nat} {v w : Var}, s.vs[i]? = some v → s.vs[j]? = some w → v.name = w.name → ¬ i < j := by
    intro i j v w hi hj e hlt
    obtain ⟨hil, ei⟩ := List.getElem?_eq_some_iff.1 hi
    obtain ⟨hjl, ej⟩ := List.getElem?_eq_some_iff.1 hj
    have := List.pairwise_iff_getElem.1 hp i j (by simpa using hil) (by simpa using hjl) hlt
    simp only [List.getElem_map, ei, ej, e] at this
    exact List.lt_irrefl _ this
  have h1 := hq hi hj e
  have h2 := hq hj hi e.symm
  omega
/-- what a name has behind a statement: what it had, if that doesn't define it, or what was made -/
theorem vars_next {l : List Stmt} {s : St} (h : inS l s) (hn : s.vs.map Var.name = nmsV l) {st : Stmt} (e : l[s.n.toNat]? = some st) {i : Nat} {v : Var} (hv : (nextS l s).vs[i]? = some v) :
    (¬ (defK st ∧ st.x = v.name) ∧ s.vs[i]? = some v) ∨ (defK st ∧ v = madeV st s.n.toNat s.vs s.ins) := by
  obtain ⟨st', e', hm, hx⟩ := inS_at h
  obtain rfl : st = st' := by rw [e] at e'; exact Option.some.inj e'
  rw [hx] at hv
  replace hv : (stepV st s.n.toNat s.vs s.ins)[i]? = some v := hv
  unfold stepV at hv
  by_cases hk : defK st
  · rw [if_pos hk] at hv
    have hkn : KnownBy st (s.vs.map Var.name) := by rw [hn]; exact known_of hm
    obtain ⟨k, y, h1, h2, h3⟩ := getV_at s.vs 0 (hkn.x hk)
    have ha : atV s.vs st.x = (k : Int) := by rw [atV, h1, Nat.zero_add]
    have hy : y.name = st.x := by
      have : getV s.vs st.x = y := h3
      rw [← this]
      unfold getV
      cases hf : s.vs.find? (fun p => decide (p.name = st.x)) with
      | none =>
        rw [List.find?_eq_none] at hf
        obtain ⟨w, hw, ew⟩ := List.mem_map.1 (hkn.x hk)
        exact absurd ew (by simpa using hf w hw)
      | some w => simpa using List.find?_some hf
    rw [ha, Int.toNat_natCast, List.getElem?_set] at hv
    split at hv
    · rename_i ei
      have hl := (List.getElem?_eq_some_iff.1 h2).1
      rw [if_pos hl] at hv
      exact .inr ⟨hk, (Option.some.inj hv).symm⟩
    · rename_i ei
      refine .inl ⟨fun hd => ei ?_, hv⟩
      exact nodup_names hn h2 hv (hy.trans hd.2)
  · rw [if_neg hk] at hv
    exact .inl ⟨fun hd => hk hd.1, hv⟩
theorem madeV_name (st : Stmt) (n : Nat) (vs : List Var) (ins : List Int) : (madeV st n vs ins).name = st.x ∧ (madeV st n vs ins).last = (n : Int) := by
  unfold madeV
  repeat' split
  all_goals exact ⟨rfl, rfl⟩
/-- who wrote a name last defines it, and reaches the statement; what never was written is 0 -/
def okV (l : List Stmt) (n : Int) (v : Var) : Prop := (v.last < 0 → v.n = 0 ∧ v.taint = false ∧ v.last = -1) ∧ (0 ≤ v.last → reachP l n v.name v.last)
theorem okV_next {l : List Stmt} {s : St} (h : inS l s) (h' : inS l (nextS l s)) (hn : s.vs.map Var.name = nmsV l) (ho : ∀ (i : Nat) v, s.vs[i]? = some v → okV l s.n v) : ∀ (i : Nat) v, (nextS l s).vs[i]? = some v → okV l (nextS l s).n v := by
  intro i v hv
  obtain ⟨st, e, hm, hx⟩ := inS_at h
  have hl := leads h h'
  have h0 : ((s.n.toNat : Nat) : Int) = s.n := by have := h.1; omega
  rcases vars_next h hn e hv with ⟨hd, hv⟩ | ⟨hk, rfl⟩
  · obtain ⟨o1, o2⟩ := ho i v hv
    refine ⟨o1, fun hq => ?_⟩
    obtain ⟨r1, r2, r3, r4, r5, r6⟩ := o2 hq
    refine ⟨h'.1, h'.2, r3, r4, r5, .step r6 ?_ hl⟩
    unfold keepS
    rw [Bool.not_eq_true', ← Bool.not_eq_true, defB_at h e]
    exact hd
  · obtain ⟨q1, q2⟩ := madeV_name st s.n.toNat s.vs s.ins
    refine ⟨fun hq => by rw [q2] at hq; omega, fun _ => ?_⟩
    rw [q1, q2, h0]
    exact ⟨h'.1, h'.2, h.1, h.2, (defB_at h e _).2 ⟨hk, rfl⟩, .base hl⟩
theorem okV_all {l : List Stmt} {s : St} (hn : s.vs.map Var.name = nmsV l) (ho : ∀ (i : Nat) v, s.vs[i]? = some v → okV l s.n v) : ∀ (m : Nat), (∀ i, i ≤ m → inS l (sN l s i)) → ∀ (i : Nat) v, (sN l s m).vs[i]? = some v → okV l (sN l s m).n v
  | 0, _ => ho
  | m + 1, h => okV_next (h m (by omega)) (h (m + 1) (by omega)) (names_sN hn m (fun i hi => h i (by omega))) (okV_all hn ho m (fun i hi => h i (by omega)))
theorem okV_s0 (l : List Stmt) (ins : List Int) (ora : List Bool) : ∀ (i : Nat) v, (s0 l ins ora).vs[i]? = some v → okV l (s0 l ins ora).n v := by
  intro i v hv
  have : ((nmsV l).map initV)[i]? = some v := hv
  rw [List.getElem?_map] at this
  obtain ⟨x, -, rfl⟩ := Option.map_eq_some_iff.1 this
  exact ⟨fun _ => ⟨rfl, rfl, rfl⟩, fun h => absurd h (by simp [initV])⟩
/-- from a state on: a name that was not written leads there -/
theorem unwritten {l : List Stmt} {s : St} (x : ByteArray) : ∀ (m : Nat), (∀ i, i ≤ m → inS l (sN l s i)) → (∀ i, i < m → defB (at_ l (sN l s i).n) x = false) → Rch l (keepS l x) [s.n] (sN l s m).n
  | 0, _, _ => .base (by simp [sN])
  | m + 1, h, hd => by
    refine .step (unwritten x m (fun i hi => h i (by omega)) (fun i hi => hd i (by omega))) ?_ (leads (h m (by omega)) (h (m + 1) (by omega)))
    unfold keepS
    rw [hd m (by omega)]; rfl
end Go.Proofs.Ytnepgcbgkhikkaa.H
namespace Go.Proofs.Ytnepgcbgkhikkaa.H
open Go.RowKit Go.Proofs.YtnepgcbgkhikkaaW.PrintWords Go.Proofs.YtnepgcbgkhikkaaW.PrintLast Go.Proofs.YtnepgcbgkhikkaaW.PrintMore
attribute [local go_sem] max2_int min2_int max_two min_two max_three min_three max_four min_four
set_option linter.unusedVariables false
set_option linter.unusedSimpArgs false
theorem eqA54 (d : Nat) (w : World) (x0 y0 : ByteArray) (x1 y1 : Int) (x2 y2 : Int) (x3 y3 : Bool) :
  (Op.equalIn (d + 2) 54 (.agg #[.string x0, .int .i64 x1, .int .i64 x2, .bool x3]) (.agg #[.string y0, .int .i64 y1, .int .i64 y2, .bool y3])).run Try.prog w = .ok (x0.toList == y0.toList && (x1 == y1 && (x2 == y2 && (x3 == y3)))) w := by
 refine eqA_of Try.underlying54 (by kernel_rfl) ?_
 refine eqf_cons (by rfl) (by go_simp; rfl) (by go_simp; rfl) (by go_simp) ?_
 refine eqf_cons (by rfl) (by go_simp; rfl) (by go_simp; rfl) (by go_simp) ?_
 refine eqf_cons (by rfl) (by go_simp; rfl) (by go_simp; rfl) (by go_simp) ?_
 exact eqf_last (by rfl) (by go_simp; rfl) (by go_simp; rfl) (by go_simp)
end Go.Proofs.Ytnepgcbgkhikkaa.H
namespace Go.Proofs.Ytnepgcbgkhikkaa.H
open Go.RowKit Go.Proofs.YtnepgcbgkhikkaaW.PrintWords Go.Proofs.YtnepgcbgkhikkaaW.PrintLast Go.Proofs.YtnepgcbgkhikkaaW.PrintMore
attribute [local go_sem] max2_int min2_int max_two min_two max_three min_three max_four min_four
set_option linter.unusedVariables false
set_option linter.unusedSimpArgs false
attribute [local go_sem high] eqA54
mutual
def lambrequinlaw22_InterpSteps.l0 : Nat → Bool → List (Visit) → Int → List (Stmt) → List Int → List Bool → Int → Option (Bool)
 | 0, _, _, _, _, _, _, _ => none
 | k + 1, x3, x4, x5, x302000, x302001, x302002, x302003 => if x5 < (x4.length : Int) then (if 0 ≤ x5 then (if ((rd_T52 x4 x5).place) < 0 then (lambrequinlaw22_InterpSteps.j1 k x3 x4 x5 true x302000 x302001 x302002 x302003) else (if ((rd_T52 x4 x5).place) ≥ (x302000.length : Int) then (lambrequinlaw22_InterpSteps.j1 k x3 x4 x5 true x302000 x302001 x302002 x302003) else (if x5 = 0 then (lambrequinlaw22_InterpSteps.j1 k x3 x4 x5 (((rd_T52 x4 x5).place) != 0) x302000 x302001 x302002 x302003) else (lambrequinlaw22_InterpSteps.j1 k x3 x4 x5 false x302000 x302001 x302002 x302003)))) else (none)) else (if x3 = true then (some (decide ((x4.length : Int) ≤ (mx x302003 0)))) else (some false))
def lambrequinlaw22_InterpSteps.j1 : Nat → Bool → List (Visit) → Int → Bool → List (Stmt) → List Int → List Bool → Int → Option (Bool)
 | 0, _, _, _, _, _, _, _, _ => none
 | k + 1, x3, x4, x5, x63, x302000, x302001, x302002, x302003 => if x63 = true then (some false) else (if x5 = 0 then (lambrequinlaw22_InterpSteps.l0 k x3 x4 (wrap64 (x5 + 1)) x302000 x302001 x302002 x302003) else (if 0 ≤ (wrap64 (x5 - 1)) then (if (wrap64 (x5 - 1)) < (x4.length : Int) then ((cfg_Next.f x302000 ((rd_T52 x4 (wrap64 (x5 - 1))).place)).bind fun t311 => (lambrequinlaw22_InterpSteps.l1 k x3 x4 x5 ((rd_T52 x4 (wrap64 (x5 - 1))).place) false t311 0 x302000 x302001 x302002 x302003)) else (none)) else (none)))
def lambrequinlaw22_InterpSteps.l1 : Nat → Bool → List (Visit) → Int → Int → Bool → List Int → Int → List (Stmt) → List Int → List Bool → Int → Option (Bool)
 | 0, _, _, _, _, _, _, _, _, _, _, _ => none
 | k + 1, x3, x4, x5, x6, x7, x8, x9, x302000, x302001, x302002, x302003 => if x9 < (x8.length : Int) then (if x7 = true then (lambrequinlaw22_InterpSteps.l1 k x3 x4 x5 x6 true x8 (wrap64 (x9 + 1)) x302000 x302001 x302002 x302003) else (if 0 ≤ x9 then (if 0 ≤ x5 then (if x5 < (x4.length : Int) then (lambrequinlaw22_InterpSteps.l1 k x3 x4 x5 x6 ((rd x8 x9) == ((rd_T52 x4 x5).place)) x8 (wrap64 (x9 + 1)) x302000 x302001 x302002 x302003) else (none)) else (none)) else (none))) else (if 0 ≤ x6 then (if x6 < (x302000.length : Int) then ((cfg_Def.f ((rd_T30 x302000 x6).kind) ((rd_T30 x302000 x6).x) ((rd_T30 x302000 x6).y) ((rd_T30 x302000 x6).z) ((rd_T30 x302000 x6).op) ((rd_T30 x302000 x6).n) ((rd_T30 x302000 x6).a) ((rd_T30 x302000 x6).b)).bind fun bt317 => (if x7 = true then (if 0 ≤ x5 then (if x5 < (x4.length : Int) then (if 0 ≤ (wrap64 (x5 - 1)) then (if (wrap64 (x5 - 1)) < (x4.length : Int) then (lambrequinlaw22_InterpSteps.j3 k x3 x4 x5 x6 bt317.1 bt317.2 ((((rd_T52 x4 x5).vars).length : Int) != (((rd_T52 x4 (wrap64 (x5 - 1))).vars).length : Int)) x302000 x302001 x302002 x302003) else (none)) else (none)) else (none)) else (none)) else (lambrequinlaw22_InterpSteps.j3 k x3 x4 x5 x6 bt317.1 bt317.2 true x302000 x302001 x302002 x302003))) else (none)) else (none))
def lambrequinlaw22_InterpSteps.j3 : Nat → Bool → List (Visit) → Int → Int → ByteArray → Bool → Bool → List (Stmt) → List Int → List Bool → Int → Option (Bool)
 | 0, _, _, _, _, _, _, _, _, _, _, _ => none
 | k + 1, x3, x4, x5, x6, x10, x11, x121, x302000, x302001, x302002, x302003 => if x121 = true then (some false) else (lambrequinlaw22_InterpSteps.l2 k x3 x4 x5 x6 x10 x11 0 x302000 x302001 x302002 x302003)
def lambrequinlaw22_InterpSteps.l2 : Nat → Bool → List (Visit) → Int → Int → ByteArray → Bool → Int → List (Stmt) → List Int → List Bool → Int → Option (Bool)
 | 0, _, _, _, _, _, _, _, _, _, _, _ => none
 | k + 1, x3, x4, x5, x6, x10, x11, x12, x302000, x302001, x302002, x302003 => if 0 ≤ x5 then (if x5 < (x4.length : Int) then (if x12 < (((rd_T52 x4 x5).vars).length : Int) then (if 0 ≤ x12 then (if x11 = true then (lambrequinlaw22_InterpSteps.j5 k x3 x4 x5 x6 x10 x11 x12 (((rd_T54 ((rd_T52 x4 x5).vars) x12).name).toList == x10.toList) x302000 x302001 x302002 x302003 ((rd_T54 ((rd_T52 x4 x5).vars) x12).name) ((rd_T54 ((rd_T52 x4 x5).vars) x12).n) ((rd_T54 ((rd_T52 x4 x5).vars) x12).last) ((rd_T54 ((rd_T52 x4 x5).vars) x12).taint)) else (lambrequinlaw22_InterpSteps.j5 k x3 x4 x5 x6 x10 x11 x12 false x302000 x302001 x302002 x302003 ((rd_T54 ((rd_T52 x4 x5).vars) x12).name) ((rd_T54 ((rd_T52 x4 x5).vars) x12).n) ((rd_T54 ((rd_T52 x4 x5).vars) x12).last) ((rd_T54 ((rd_T52 x4 x5).vars) x12).taint))) else (none)) else (lambrequinlaw22_InterpSteps.l0 k x3 x4 (wrap64 (x5 + 1)) x302000 x302001 x302002 x302003)) else (none)) else (none)
def lambrequinlaw22_InterpSteps.j5 : Nat → Bool → List (Visit) → Int → Int → ByteArray → Bool → Int → Bool → List (Stmt) → List Int → List Bool → Int → ByteArray → Int → Int → Bool → Option (Bool)
 | 0, _, _, _, _, _, _, _, _, _, _, _, _, _, _, _, _ => none
 | k + 1, x3, x4, x5, x6, x10, x11, x12, x14, x302000, x302001, x302002, x302003, x325000, x325001, x325002, x325003 => if x14 = true then (if x325002 = x6 then (lambrequinlaw22_InterpSteps.j6 k x3 x4 x5 x6 x10 x11 x12 false x302000 x302001 x302002 x302003) else (lambrequinlaw22_InterpSteps.j6 k x3 x4 x5 x6 x10 x11 x12 true x302000 x302001 x302002 x302003)) else (if 0 ≤ (wrap64 (x5 - 1)) then (if (wrap64 (x5 - 1)) < (x4.length : Int) then (if 0 ≤ x12 then (if x12 < (((rd_T52 x4 (wrap64 (x5 - 1))).vars).length : Int) then (lambrequinlaw22_InterpSteps.j6 k x3 x4 x5 x6 x10 x11 x12 (!(x325000.toList == (((rd_T54 ((rd_T52 x4 (wrap64 (x5 - 1))).vars) x12).name).toList)) || (!(x325001 == ((rd_T54 ((rd_T52 x4 (wrap64 (x5 - 1))).vars) x12).n)) || (!(x325002 == ((rd_T54 ((rd_T52 x4 (wrap64 (x5 - 1))).vars) x12).last)) || (!(x325003 == ((rd_T54 ((rd_T52 x4 (wrap64 (x5 - 1))).vars) x12).taint)))))) x302000 x302001 x302002 x302003) else (none)) else (none)) else (none)) else (none))
def lambrequinlaw22_InterpSteps.j6 : Nat → Bool → List (Visit) → Int → Int → ByteArray → Bool → Int → Bool → List (Stmt) → List Int → List Bool → Int → Option (Bool)
 | 0, _, _, _, _, _, _, _, _, _, _, _, _ => none
 | k + 1, x3, x4, x5, x6, x10, x11, x12, x170, x302000, x302001, x302002, x302003 => if x170 = true then (some false) else (lambrequinlaw22_InterpSteps.l2 k x3 x4 x5 x6 x10 x11 (wrap64 (x12 + 1)) x302000 x302001 x302002 x302003)
end
def lambrequinlaw22_InterpSteps.f (k : Nat) (l0_0 : List (Stmt)) (l0_1 : List Int) (l0_2 : List Bool) (a0_3 : Int) : Option (Bool) := (lambrequinlaw22_shown.f).bind fun t302 => ((lambrequinlaw22_few.f l0_0 l0_1 l0_2 a0_3).bind fun t303 => (if t303 = true then ((interp_Run.f l0_0 l0_1 l0_2 a0_3).bind fun t304 => (lambrequinlaw22_InterpSteps.l0 k t302 t304 0 l0_0 l0_1 l0_2 a0_3)) else (some t302)))
theorem lambrequinlaw22_InterpSteps.mono_l : ∀ k, (∀ y0 y1 y2 y3 y4 y5 y6, LeO (lambrequinlaw22_InterpSteps.l0 k y0 y1 y2 y3 y4 y5 y6) (lambrequinlaw22_InterpSteps.l0 (k + 1) y0 y1 y2 y3 y4 y5 y6)) ∧ (∀ y0 y1 y2 y3 y4 y5 y6 y7, LeO (lambrequinlaw22_InterpSteps.j1 k y0 y1 y2 y3 y4 y5 y6 y7) (lambrequinlaw22_InterpSteps.j1 (k + 1) y0 y1 y2 y3 y4 y5 y6 y7)) ∧ (∀ y0 y1 y2 y3 y4 y5 y6 y7 y8 y9 y10, LeO (lambrequinlaw22_InterpSteps.l1 k y0 y1 y2 y3 y4 y5 y6 y7 y8 y9 y10) (lambrequinlaw22_InterpSteps.l1 (k + 1) y0 y1 y2 y3 y4 y5 y6 y7 y8 y9 y10)) ∧ (∀ y0 y1 y2 y3 y4 y5 y6 y7 y8 y9 y10, LeO (lambrequinlaw22_InterpSteps.j3 k y0 y1 y2 y3 y4 y5 y6 y7 y8 y9 y10) (lambrequinlaw22_InterpSteps.j3 (k + 1) y0 y1 y2 y3 y4 y5 y6 y7 y8 y9 y10)) ∧ (∀ y0 y1 y2 y3 y4 y5 y6 y7 y8 y9 y10, LeO (lambrequinlaw22_InterpSteps.l2 k y0 y1 y2 y3 y4 y5 y6 y7 y8 y9 y10) (lambrequinlaw22_InterpSteps.l2 (k + 1) y0 y1 y2 y3 y4 y5 y6 y7 y8 y9 y10)) ∧ (∀ y0 y1 y2 y3 y4 y5 y6 y7 y8 y9 y10 y11 y12 y13 y14 y15, LeO (lambrequinlaw22_InterpSteps.j5 k y0 y1 y2 y3 y4 y5 y6 y7 y8 y9 y10 y11 y12 y13 y14 y15) (lambrequinlaw22_InterpSteps.j5 (k + 1) y0 y1 y2 y3 y4 y5 y6 y7 y8 y9 y10 y11 y12 y13 y14 y15)) ∧ (∀ y0 y1 y2 y3 y4 y5 y6 y7 y8 y9 y10 y11, LeO (lambrequinlaw22_InterpSteps.j6 k y0 y1 y2 y3 y4 y5 y6 y7 y8 y9 y10 y11) (lambrequinlaw22_InterpSteps.j6 (k + 1) y0 y1 y2 y3 y4 y5 y6 y7 y8 y9 y10 y11))
 | 0 => ⟨fun _ _ _ _ _ _ _ r h => by simp [lambrequinlaw22_InterpSteps.l0] at h, fun _ _ _ _ _ _ _ _ r h => by simp [lambrequinlaw22_InterpSteps.j1] at h, fun _ _ _ _ _ _ _ _ _ _ _ r h => by simp [lambrequinlaw22_InterpSteps.l1] at h, fun _ _ _ _ _ _ _ _ _ _ _ r h => by simp [lambrequinlaw22_InterpSteps.j3] at h, fun _ _ _ _ _ _ _ _ _ _ _ r h => by simp [lambrequinlaw22_InterpSteps.l2] at h, fun _ _ _ _ _ _ _ _ _ _ _ _ _ _ _ _ r h => by simp [lambrequinlaw22_InterpSteps.j5] at h, fun _ _ _ _ _ _ _ _ _ _ _ _ r h => by simp [lambrequinlaw22_InterpSteps.j6] at h⟩
 | k + 1 => by
  obtain ⟨ih0, ih1, ih2, ih3, ih4, ih5, ih6⟩ := lambrequinlaw22_InterpSteps.mono_l k
  refine ⟨?_, ?_, ?_, ?_, ?_, ?_, ?_⟩
  ·intro y0 y1 y2 y3 y4 y5 y6
   unfold lambrequinlaw22_InterpSteps.l0
   repeat' first
   | (with_reducible exact ih0 _ _ _ _ _ _ _)
   | (with_reducible exact ih1 _ _ _ _ _ _ _ _)
   | (with_reducible exact ih2 _ _ _ _ _ _ _ _ _ _ _)
   | (with_reducible exact ih3 _ _ _ _ _ _ _ _ _ _ _)
   | (with_reducible exact ih4 _ _ _ _ _ _ _ _ _ _ _)
   | (with_reducible exact ih5 _ _ _ _ _ _ _ _ _ _ _ _ _ _ _ _)
   | (with_reducible exact ih6 _ _ _ _ _ _ _ _ _ _ _ _)
   | (with_reducible exact LeO.refl _)
   | (with_reducible exact LeO.none _)
   | (with_reducible refine LeO.ite ?_ ?_)
   | (with_reducible refine LeO.bind ?_ (fun _ => ?_))
   | exact ih0 _ _ _ _ _ _ _
   | exact ih1 _ _ _ _ _ _ _ _
   | exact ih2 _ _ _ _ _ _ _ _ _ _ _
   | exact ih3 _ _ _ _ _ _ _ _ _ _ _
   | exact ih4 _ _ _ _ _ _ _ _ _ _ _
   | exact ih5 _ _ _ _ _ _ _ _ _ _ _ _ _ _ _ _
   | exact ih6 _ _ _ _ _ _ _ _ _ _ _ _
   | exact LeO.none _
   | refine LeO.ite ?_ ?_
   | refine LeO.bind ?_ (fun _ => ?_)
  ·intro y0 y1 y2 y3 y4 y5 y6 y7
   unfold lambrequinlaw22_InterpSteps.j1
   repeat' first
   | (with_reducible exact ih0 _ _ _ _ _ _ _)
   | (with_reducible exact ih1 _ _ _ _ _ _ _ _)
   | (with_reducible exact ih2 _ _ _ _ _ _ _ _ _ _ _)
   | (with_reducible exact ih3 _ _ _ _ _ _ _ _ _ _ _)
   | (with_reducible exact ih4 _ _ _ _ _ _ _ _ _ _ _)
   | (with_reducible exact ih5 _ _ _ _ _ _ _ _ _ _ _ _ _ _ _ _)
   | (with_reducible exact ih6 _ _ _ _ _ _ _ _ _ _ _ _)
   | (with_reducible exact LeO.refl _)
   | (with_reducible exact LeO.none _)
   | (with_reducible refine LeO.ite ?_ ?_)
   | (with_reducible refine LeO.bind ?_ (fun _ => ?_))
   | exact ih0 _ _ _ _ _ _ _
   | exact ih1 _ _ _ _ _ _ _ _
   | exact ih2 _ _ _ _ _ _ _ _ _ _ _
   | exact ih3 _ _ _ _ _ _ _ _ _ _ _
   | exact ih4 _ _ _ _ _ _ _ _ _ _ _
   | exact ih5 _ _ _ _ _ _ _ _ _ _ _ _ _ _ _ _
   | exact ih6 _ _ _ _ _ _ _ _ _ _ _ _
   | exact LeO.none _
   | refine LeO.ite ?_ ?_
   | refine LeO.bind ?_ (fun _ => ?_)
  ·intro y0 y1 y2 y3 y4 y5 y6 y7 y8 y9 y10
   unfold lambrequinlaw22_InterpSteps.l1
   repeat' first
   | (with_reducible exact ih0 _ _ _ _ _ _ _)
   | (with_reducible exact ih1 _ _ _ _ _ _ _ _)
   | (with_reducible exact ih2 _ _ _ _ _ _ _ _ _ _ _)
   | (with_reducible exact ih3 _ _ _ _ _ _ _ _ _ _ _)
   | (with_reducible exact ih4 _ _ _ _ _ _ _ _ _ _ _)
   | (with_reducible exact ih5 _ _ _ _ _ _ _ _ _ _ _ _ _ _ _ _)
   | (with_reducible exact ih6 _ _ _ _ _ _ _ _ _ _ _ _)
   | (with_reducible exact LeO.refl _)
   | (with_reducible exact LeO.none _)
   | (with_reducible refine LeO.ite ?_ ?_)
   | (with_reducible refine LeO.bind ?_ (fun _ => ?_))
   | exact ih0 _ _ _ _ _ _ _
   | exact ih1 _ _ _ _ _ _ _ _
   | exact ih2 _ _ _ _ _ _ _ _ _ _ _
   | exact ih3 _ _ _ _ _ _ _ _ _ _ _
   | exact ih4 _ _ _ _ _ _ _ _ _ _ _
   | exact ih5 _ _ _ _ _ _ _ _ _ _ _ _ _ _ _ _
   | exact ih6 _ _ _ _ _ _ _ _ _ _ _ _
   | exact LeO.none _
   | refine LeO.ite ?_ ?_
   | refine LeO.bind ?_ (fun _ => ?_)
  ·intro y0 y1 y2 y3 y4 y5 y6 y7 y8 y9 y10
   unfold lambrequinlaw22_InterpSteps.j3
   repeat' first
   | (with_reducible exact ih0 _ _ _ _ _ _ _)
   | (with_reducible exact ih1 _ _ _ _ _ _ _ _)
   | (with_reducible exact ih2 _ _ _ _ _ _ _ _ _ _ _)
   | (with_reducible exact ih3 _ _ _ _ _ _ _ _ _ _ _)
   | (with_reducible exact ih4 _ _ _ _ _ _ _ _ _ _ _)
   | (with_reducible exact ih5 _ _ _ _ _ _ _ _ _ _ _ _ _ _ _ _)
   | (with_reducible exact ih6 _ _ _ _ _ _ _ _ _ _ _ _)
   | (with_reducible exact LeO.refl _)
   | (with_reducible exact LeO.none _)
   | (with_reducible refine LeO.ite ?_ ?_)
   | (with_reducible refine LeO.bind ?_ (fun _ => ?_))
   | exact ih0 _ _ _ _ _ _ _
   | exact ih1 _ _ _ _ _ _ _ _
   | exact ih2 _ _ _ _ _ _ _ _ _ _ _
   | exact ih3 _ _ _ _ _ _ _ _ _ _ _
   | exact ih4 _ _ _ _ _ _ _ _ _ _ _
   | exact ih5 _ _ _ _ _ _ _ _ _ _ _ _ _ _ _ _
   | exact ih6 _ _ _ _ _ _ _ _ _ _ _ _
   | exact LeO.none _
   | refine LeO.ite ?_ ?_
   | refine LeO.bind ?_ (fun _ => ?_)
  ·intro y0 y1 y2 y3 y4 y5 y6 y7 y8 y9 y10
   unfold lambrequinlaw22_InterpSteps.l2
   repeat' first
   | (with_reducible exact ih0 _ _ _ _ _ _ _)
   | (with_reducible exact ih1 _ _ _ _ _ _ _ _)
   | (with_reducible exact ih2 _ _ _ _ _ _ _ _ _ _ _)
   | (with_reducible exact ih3 _ _ _ _ _ _ _ _ _ _ _)
   | (with_reducible exact ih4 _ _ _ _ _ _ _ _ _ _ _)
   | (with_reducible exact ih5 _ _ _ _ _ _ _ _ _ _ _ _ _ _ _ _)
   | (with_reducible exact ih6 _ _ _ _ _ _ _ _ _ _ _ _)
   | (with_reducible exact LeO.refl _)
   | (with_reducible exact LeO.none _)
   | (with_reducible refine LeO.ite ?_ ?_)
   | (with_reducible refine LeO.bind ?_ (fun _ => ?_))
   | exact ih0 _ _ _ _ _ _ _
   | exact ih1 _ _ _ _ _ _ _ _
   | exact ih2 _ _ _ _ _ _ _ _ _ _ _
   | exact ih3 _ _ _ _ _ _ _ _ _ _ _
   | exact ih4 _ _ _ _ _ _ _ _ _ _ _
   | exact ih5 _ _ _ _ _ _ _ _ _ _ _ _ _ _ _ _
   | exact ih6 _ _ _ _ _ _ _ _ _ _ _ _
   | exact LeO.none _
   | refine LeO.ite ?_ ?_
   | refine LeO.bind ?_ (fun _ => ?_)
  ·intro y0 y1 y2 y3 y4 y5 y6 y7 y8 y9 y10 y11 y12 y13 y14 y15
   unfold lambrequinlaw22_InterpSteps.j5
   repeat' first
   | (with_reducible exact ih0 _ _ _ _ _ _ _)
   | (with_reducible exact ih1 _ _ _ _ _ _ _ _)
   | (with_reducible exact ih2 _ _ _ _ _ _ _ _ _ _ _)
   | (with_reducible exact ih3 _ _ _ _ _ _ _ _ _ _ _)
   | (with_reducible exact ih4 _ _ _ _ _ _ _ _ _ _ _)
   | (with_reducible exact ih5 _ _ _ _ _ _ _ _ _ _ _ _ _ _ _ _)
   | (with_reducible exact ih6 _ _ _ _ _ _ _ _ _ _ _ _)
   | (with_reducible exact LeO.refl _)
   | (with_reducible exact LeO.none _)
   | (with_reducible refine LeO.ite ?_ ?_)
   | (with_reducible refine LeO.bind ?_ (fun _ => ?_))
   | exact ih0 _ _ _ _ _ _ _
   | exact ih1 _ _ _ _ _ _ _ _
   | exact ih2 _ _ _ _ _ _ _ _ _ _ _
   | exact ih3 _ _ _ _ _ _ _ _ _ _ _
   | exact ih4 _ _ _ _ _ _ _ _ _ _ _
   | exact ih5 _ _ _ _ _ _ _ _ _ _ _ _ _ _ _ _
   | exact ih6 _ _ _ _ _ _ _ _ _ _ _ _
   | exact LeO.none _
   | refine LeO.ite ?_ ?_
   | refine LeO.bind ?_ (fun _ => ?_)
  intro y0 y1 y2 y3 y4 y5 y6 y7 y8 y9 y10 y11
  unfold lambrequinlaw22_InterpSteps.j6
  repeat' first
  | (with_reducible exact ih0 _ _ _ _ _ _ _)
  | (with_reducible exact ih1 _ _ _ _ _ _ _ _)
  | (with_reducible exact ih2 _ _ _ _ _ _ _ _ _ _ _)
  | (with_reducible exact ih3 _ _ _ _ _ _ _ _ _ _ _)
  | (with_reducible exact ih4 _ _ _ _ _ _ _ _ _ _ _)
  | (with_reducible exact ih5 _ _ _ _ _ _ _ _ _ _ _ _ _ _ _ _)
  | (with_reducible exact ih6 _ _ _ _ _ _ _ _ _ _ _ _)
  | (with_reducible exact LeO.refl _)
  | (with_reducible exact LeO.none _)
  | (with_reducible refine LeO.ite ?_ ?_)
  | (with_reducible refine LeO.bind ?_ (fun _ => ?_))
  | exact ih0 _ _ _ _ _ _ _
  | exact ih1 _ _ _ _ _ _ _ _
  | exact ih2 _ _ _ _ _ _ _ _ _ _ _
  | exact ih3 _ _ _ _ _ _ _ _ _ _ _
  | exact ih4 _ _ _ _ _ _ _ _ _ _ _
  | exact ih5 _ _ _ _ _ _ _ _ _ _ _ _ _ _ _ _
  | exact ih6 _ _ _ _ _ _ _ _ _ _ _ _
  | exact LeO.none _
  | refine LeO.ite ?_ ?_
  | refine LeO.bind ?_ (fun _ => ?_)
theorem lambrequinlaw22_InterpSteps.mono : ∀ a0 a1 a2 a3 k, LeO (lambrequinlaw22_InterpSteps.f k a0 a1 a2 a3) (lambrequinlaw22_InterpSteps.f (k + 1) a0 a1 a2 a3) := by
 intro a0 a1 a2 a3 k
 obtain ⟨ih0, ih1, ih2, ih3, ih4, ih5, ih6⟩ := lambrequinlaw22_InterpSteps.mono_l k
 unfold lambrequinlaw22_InterpSteps.f
 repeat' first
   | (with_reducible exact ih0 _ _ _ _ _ _ _)
   | (with_reducible exact ih1 _ _ _ _ _ _ _ _)
   | (with_reducible exact ih2 _ _ _ _ _ _ _ _ _ _ _)
   | (with_reducible exact ih3 _ _ _ _ _ _ _ _ _ _ _)
   | (with_reducible exact ih4 _ _ _ _ _ _ _ _ _ _ _)
   | (with_reducible exact ih5 _ _ _ _ _ _ _ _ _ _ _ _ _ _ _ _)
   | (with_reducible exact ih6 _ _ _ _ _ _ _ _ _ _ _ _)
   | (with_reducible exact LeO.refl _)
   | (with_reducible exact LeO.none _)
   | (with_reducible refine LeO.ite ?_ ?_)
   | (with_reducible refine LeO.bind ?_ (fun _ => ?_))
   | exact ih0 _ _ _ _ _ _ _
   | exact ih1 _ _ _ _ _ _ _ _
   | exact ih2 _ _ _ _ _ _ _ _ _ _ _
   | exact ih3 _ _ _ _ _ _ _ _ _ _ _
   | exact ih4 _ _ _ _ _ _ _ _ _ _ _
   | exact ih5 _ _ _ _ _ _ _ _ _ _ _ _ _ _ _ _
   | exact ih6 _ _ _ _ _ _ _ _ _ _ _ _
   | exact LeO.none _
   | refine LeO.ite ?_ ?_
   | refine LeO.bind ?_ (fun _ => ?_)
set_option maxHeartbeats 8000000 in
set_option maxRecDepth 100000 in
theorem lambrequinlaw22_InterpSteps.calls (k : Nat) (A0_0 : Option Addr) (c0_0 : Nat) (l0_0 : List (Stmt)) (A0_1 : Option Addr) (c0_1 : Nat) (l0_1 : List Int) (A0_2 : Option Addr) (c0_2 : Nat) (l0_2 : List Bool) (a0_3 : Int) (r : Bool) (w : World) (hr0_0 : Kd.C k30 w A0_0 l0_0.length l0_0) (hc0_0 : l0_0.length ≤ c0_0) (hr0_1 : Kd.C (Kd.int .i64) w A0_1 l0_1.length l0_1) (hc0_1 : l0_1.length ≤ c0_1) (hr0_2 : Kd.C Kd.bool w A0_2 l0_2.length l0_2) (hc0_2 : l0_2.length ≤ c0_2) (h : lambrequinlaw22_InterpSteps.f k l0_0 l0_1 l0_2 a0_3 = some r) :
  Calls Try.prog 10 #[.agg #[.slice A0_0 l0_0.length c0_0, .slice A0_1 l0_1.length c0_1, .slice A0_2 l0_2.length c0_2, .int .i64 a0_3]] w fun e w' => e = .returned (.bool r) ∧ Below w.heap.size w w' := by
 have hu43 := Try.underlying43
 have hu30 := Try.underlying30
 have hu54 := Try.underlying54
 have HR0_0 := am hr0_0
 have HC0_0 := am hc0_0
 clear hr0_0 hc0_0
 have HR0_1 := am hr0_1
 have HC0_1 := am hc0_1
 clear hr0_1 hc0_1
 have HR0_2 := am hr0_2
 have HC0_2 := am hc0_2
 clear hr0_2 hc0_2
 have HB := am (Below.refl w.heap.size w)
 have H : ((lambrequinlaw22_shown.f).bind fun t302 => ((lambrequinlaw22_few.f l0_0 l0_1 l0_2 a0_3).bind fun t303 => (if t303 = true then ((interp_Run.f l0_0 l0_1 l0_2 a0_3).bind fun t304 => (lambrequinlaw22_InterpSteps.l0 k t302 t304 0 l0_0 l0_1 l0_2 a0_3)) else (some t302)))) = some r := h
 clear h
 replace H := Option.bind_eq_some_iff.mp H
 obtain ⟨t302, A20, H⟩ := H
 replace H : ((lambrequinlaw22_few.f l0_0 l0_1 l0_2 a0_3).bind fun t303 => (if t303 = true then ((interp_Run.f l0_0 l0_1 l0_2 a0_3).bind fun t304 => (lambrequinlaw22_InterpSteps.l0 k t302 t304 0 l0_0 l0_1 l0_2 a0_3)) else (some t302))) = some r := H
 have A2 := am A20
 clear A20
 replace H := Option.bind_eq_some_iff.mp H
 obtain ⟨t303, A30, H⟩ := H
 replace H : (if t303 = true then ((interp_Run.f l0_0 l0_1 l0_2 a0_3).bind fun t304 => (lambrequinlaw22_InterpSteps.l0 k t302 t304 0 l0_0 l0_1 l0_2 a0_3)) else (some t302)) = some r := H
 have A3 := am A30
 clear A30
 as_aux_lemma =>
 by_cases c4 : t303 = true
 rotate_left
 ·replace c4 := Bool.eq_false_iff.mpr c4
  subst c4
  have H1 : (some t302) = some r := by rw [if_neg (show ¬ (false = true) by decide)] at H; exact H
  clear H
  have H := H1
  clear H1
  obtain rfl := Option.some.inj H
  go_enter Try.func10, Try.ntmps10
  go_wp2_with (first | ((with_reducible refine gate_dst (N := 1) rfl ?_); (try (refine gate_guard (by rfl) ?_; dsimp only)); refine box_event ?hg (N := 1) ?hd (cs := #[.slice A0_0 l0_0.length c0_0, .slice A0_1 l0_1.length c0_1, .slice A0_2 l0_2.length c0_2, .int .i64 a0_3]) (t := 43) ?hr ?_; (case hd => rfl); (case hg => rfl); (case hr => first | (go_simp; done) | (go_simp; rfl)); intro gb301 hg w82 hbox hb; have BK301 := am (hbox); have GW301 := am ((by rw [hg]; exact (below_size (by repeat (first | (with_reducible first | exact HB.out | apply lA | apply lN | apply lD) | exact HB.out))) : w.heap.size ≤ gb301)); have GE301 := am ((by rw [hg]; exact (below_size (by repeat (first | (with_reducible first | exact HB.out | apply lA | apply lN | apply lD) | exact HB.out))) : w.heap.size ≤ gb301)); replace HB := am (below_step (by repeat (first | (with_reducible first | exact HB.out | apply lA | apply lN | apply lD) | exact HB.out)) hb); clear hb hbox hg) | (go_at_call 33; (with_reducible refine (lambrequinlaw22_shown.calls  t302 _ A2.out).mono ?_); rintro e w83 ⟨rfl, hb⟩; replace BK301 := am (blk_below (g := gb301) (o := .cells #[.slice A0_0 l0_0.length c0_0, .slice A0_1 l0_1.length c0_1, .slice A0_2 l0_2.length c0_2, .int .i64 a0_3] 43 (0, 0)) (by (with_reducible repeat (first | refine bN ?_ _ | refine bD ?_ | refine bA ?_ _)); exact BK301.out) hb); replace HB := am (below_step (by repeat (first | (with_reducible first | exact HB.out | apply lA | apply lN | apply lD | refine lS ?_ GE301.out) | exact HB.out)) hb); (try clear hb); (try clear hb2); (try clear hk); (try clear hi); have hcz84_0 : w83.cell? ⟨gb301, 0, none⟩ = some (.slice A0_0 l0_0.length c0_0) := (blk_cell BK301.out 0).trans rfl; have hcz84_1 : w83.cell? ⟨gb301, 1, none⟩ = some (.slice A0_1 l0_1.length c0_1) := (blk_cell BK301.out 1).trans rfl; have hcz84_2 : w83.cell? ⟨gb301, 2, none⟩ = some (.slice A0_2 l0_2.length c0_2) := (blk_cell BK301.out 2).trans rfl; have hcz84_3 : w83.cell? ⟨gb301, 3, none⟩ = some (.int .i64 a0_3) := (blk_cell BK301.out 3).trans rfl; have hfz84_0 := blk_frozen BK301.out 0; have hfz84_1 := blk_frozen BK301.out 1; have hfz84_2 := blk_frozen BK301.out 2; have hfz84_3 := blk_frozen BK301.out 3) | (go_at_call 34; (with_reducible refine (lambrequinlaw22_few.calls _ _ l0_0 _ _ l0_1 _ _ l0_2 a0_3 false _ ?side1 ?side2 ?side3 ?side4 ?side5 ?side6 A3.out).mono ?_); (case side1 => repeat (first | exact (Kd.C_below HR0_0.out HB.out) | (with_reducible refine Kd.C_alloc ?_ _) | (with_reducible refine Kd.C_drewN ?_ _) | (with_reducible refine Kd.C_drew ?_))); (case side2 => exact HC0_0.out); (case side3 => repeat (first | exact (Kd.C_below HR0_1.out HB.out) | (with_reducible refine Kd.C_alloc ?_ _) | (with_reducible refine Kd.C_drewN ?_ _) | (with_reducible refine Kd.C_drew ?_))); (case side4 => exact HC0_1.out); (case side5 => repeat (first | exact (Kd.C_below HR0_2.out HB.out) | (with_reducible refine Kd.C_alloc ?_ _) | (with_reducible refine Kd.C_drewN ?_ _) | (with_reducible refine Kd.C_drew ?_))); (case side6 => exact HC0_2.out); rintro e w85 ⟨rfl, hb⟩; replace BK301 := am (blk_below (g := gb301) (o := .cells #[.slice A0_0 l0_0.length c0_0, .slice A0_1 l0_1.length c0_1, .slice A0_2 l0_2.length c0_2, .int .i64 a0_3] 43 (0, 0)) (by (with_reducible repeat (first | refine bN ?_ _ | refine bD ?_ | refine bA ?_ _)); exact BK301.out) hb); replace HB := am (below_step (by repeat (first | (with_reducible first | exact HB.out | apply lA | apply lN | apply lD | refine lS ?_ GE301.out) | exact HB.out)) hb); (try clear hb); (try clear hb2); (try clear hk); (try clear hi)))
  repeat (go_quiet (first | ((with_reducible refine gate_dst (N := 1) rfl ?_); (try (refine gate_guard (by rfl) ?_; dsimp only)); refine box_event ?hg (N := 1) ?hd (cs := #[.slice A0_0 l0_0.length c0_0, .slice A0_1 l0_1.length c0_1, .slice A0_2 l0_2.length c0_2, .int .i64 a0_3]) (t := 43) ?hr ?_; (case hd => rfl); (case hg => rfl); (case hr => first | (go_simp; done) | (go_simp; rfl)); intro gb301 hg w82 hbox hb; have BK301 := am (hbox); have GW301 := am ((by rw [hg]; exact (below_size (by repeat (first | (with_reducible first | exact HB.out | apply lA | apply lN | apply lD) | exact HB.out))) : w.heap.size ≤ gb301)); have GE301 := am ((by rw [hg]; exact (below_size (by repeat (first | (with_reducible first | exact HB.out | apply lA | apply lN | apply lD) | exact HB.out))) : w.heap.size ≤ gb301)); replace HB := am (below_step (by repeat (first | (with_reducible first | exact HB.out | apply lA | apply lN | apply lD) | exact HB.out)) hb); clear hb hbox hg) | (go_at_call 33; (with_reducible refine (lambrequinlaw22_shown.calls  t302 _ A2.out).mono ?_); rintro e w83 ⟨rfl, hb⟩; replace BK301 := am (blk_below (g := gb301) (o := .cells #[.slice A0_0 l0_0.length c0_0, .slice A0_1 l0_1.length c0_1, .slice A0_2 l0_2.length c0_2, .int .i64 a0_3] 43 (0, 0)) (by (with_reducible repeat (first | refine bN ?_ _ | refine bD ?_ | refine bA ?_ _)); exact BK301.out) hb); replace HB := am (below_step (by repeat (first | (with_reducible first | exact HB.out | apply lA | apply lN | apply lD | refine lS ?_ GE301.out) | exact HB.out)) hb); (try clear hb); (try clear hb2); (try clear hk); (try clear hi); have hcz84_0 : w83.cell? ⟨gb301, 0, none⟩ = some (.slice A0_0 l0_0.length c0_0) := (blk_cell BK301.out 0).trans rfl; have hcz84_1 : w83.cell? ⟨gb301, 1, none⟩ = some (.slice A0_1 l0_1.length c0_1) := (blk_cell BK301.out 1).trans rfl; have hcz84_2 : w83.cell? ⟨gb301, 2, none⟩ = some (.slice A0_2 l0_2.length c0_2) := (blk_cell BK301.out 2).trans rfl; have hcz84_3 : w83.cell? ⟨gb301, 3, none⟩ = some (.int .i64 a0_3) := (blk_cell BK301.out 3).trans rfl; have hfz84_0 := blk_frozen BK301.out 0; have hfz84_1 := blk_frozen BK301.out 1; have hfz84_2 := blk_frozen BK301.out 2; have hfz84_3 := blk_frozen BK301.out 3) | (go_at_call 34; (with_reducible refine (lambrequinlaw22_few.calls _ _ l0_0 _ _ l0_1 _ _ l0_2 a0_3 false _ ?side1 ?side2 ?side3 ?side4 ?side5 ?side6 A3.out).mono ?_); (case side1 => repeat (first | exact (Kd.C_below HR0_0.out HB.out) | (with_reducible refine Kd.C_alloc ?_ _) | (with_reducible refine Kd.C_drewN ?_ _) | (with_reducible refine Kd.C_drew ?_))); (case side2 => exact HC0_0.out); (case side3 => repeat (first | exact (Kd.C_below HR0_1.out HB.out) | (with_reducible refine Kd.C_alloc ?_ _) | (with_reducible refine Kd.C_drewN ?_ _) | (with_reducible refine Kd.C_drew ?_))); (case side4 => exact HC0_1.out); (case side5 => repeat (first | exact (Kd.C_below HR0_2.out HB.out) | (with_reducible refine Kd.C_alloc ?_ _) | (with_reducible refine Kd.C_drewN ?_ _) | (with_reducible refine Kd.C_drew ?_))); (case side6 => exact HC0_2.out); rintro e w85 ⟨rfl, hb⟩; replace BK301 := am (blk_below (g := gb301) (o := .cells #[.slice A0_0 l0_0.length c0_0, .slice A0_1 l0_1.length c0_1, .slice A0_2 l0_2.length c0_2, .int .i64 a0_3] 43 (0, 0)) (by (with_reducible repeat (first | refine bN ?_ _ | refine bD ?_ | refine bA ?_ _)); exact BK301.out) hb); replace HB := am (below_step (by repeat (first | (with_reducible first | exact HB.out | apply lA | apply lN | apply lD | refine lS ?_ GE301.out) | exact HB.out)) hb); (try clear hb); (try clear hb2); (try clear hk); (try clear hi))); try go_wp2_with (first | ((with_reducible refine gate_dst (N := 1) rfl ?_); (try (refine gate_guard (by rfl) ?_; dsimp only)); refine box_event ?hg (N := 1) ?hd (cs := #[.slice A0_0 l0_0.length c0_0, .slice A0_1 l0_1.length c0_1, .slice A0_2 l0_2.length c0_2, .int .i64 a0_3]) (t := 43) ?hr ?_; (case hd => rfl); (case hg => rfl); (case hr => first | (go_simp; done) | (go_simp; rfl)); intro gb301 hg w82 hbox hb; have BK301 := am (hbox); have GW301 := am ((by rw [hg]; exact (below_size (by repeat (first | (with_reducible first | exact HB.out | apply lA | apply lN | apply lD) | exact HB.out))) : w.heap.size ≤ gb301)); have GE301 := am ((by rw [hg]; exact (below_size (by repeat (first | (with_reducible first | exact HB.out | apply lA | apply lN | apply lD) | exact HB.out))) : w.heap.size ≤ gb301)); replace HB := am (below_step (by repeat (first | (with_reducible first | exact HB.out | apply lA | apply lN | apply lD) | exact HB.out)) hb); clear hb hbox hg) | (go_at_call 33; (with_reducible refine (lambrequinlaw22_shown.calls  t302 _ A2.out).mono ?_); rintro e w83 ⟨rfl, hb⟩; replace BK301 := am (blk_below (g := gb301) (o := .cells #[.slice A0_0 l0_0.length c0_0, .slice A0_1 l0_1.length c0_1, .slice A0_2 l0_2.length c0_2, .int .i64 a0_3] 43 (0, 0)) (by (with_reducible repeat (first | refine bN ?_ _ | refine bD ?_ | refine bA ?_ _)); exact BK301.out) hb); replace HB := am (below_step (by repeat (first | (with_reducible first | exact HB.out | apply lA | apply lN | apply lD | refine lS ?_ GE301.out) | exact HB.out)) hb); (try clear hb); (try clear hb2); (try clear hk); (try clear hi); have hcz84_0 : w83.cell? ⟨gb301, 0, none⟩ = some (.slice A0_0 l0_0.length c0_0) := (blk_cell BK301.out 0).trans rfl; have hcz84_1 : w83.cell? ⟨gb301, 1, none⟩ = some (.slice A0_1 l0_1.length c0_1) := (blk_cell BK301.out 1).trans rfl; have hcz84_2 : w83.cell? ⟨gb301, 2, none⟩ = some (.slice A0_2 l0_2.length c0_2) := (blk_cell BK301.out 2).trans rfl; have hcz84_3 : w83.cell? ⟨gb301, 3, none⟩ = some (.int .i64 a0_3) := (blk_cell BK301.out 3).trans rfl; have hfz84_0 := blk_frozen BK301.out 0; have hfz84_1 := blk_frozen BK301.out 1; have hfz84_2 := blk_frozen BK301.out 2; have hfz84_3 := blk_frozen BK301.out 3) | (go_at_call 34; (with_reducible refine (lambrequinlaw22_few.calls _ _ l0_0 _ _ l0_1 _ _ l0_2 a0_3 false _ ?side1 ?side2 ?side3 ?side4 ?side5 ?side6 A3.out).mono ?_); (case side1 => repeat (first | exact (Kd.C_below HR0_0.out HB.out) | (with_reducible refine Kd.C_alloc ?_ _) | (with_reducible refine Kd.C_drewN ?_ _) | (with_reducible refine Kd.C_drew ?_))); (case side2 => exact HC0_0.out); (case side3 => repeat (first | exact (Kd.C_below HR0_1.out HB.out) | (with_reducible refine Kd.C_alloc ?_ _) | (with_reducible refine Kd.C_drewN ?_ _) | (with_reducible refine Kd.C_drew ?_))); (case side4 => exact HC0_1.out); (case side5 => repeat (first | exact (Kd.C_below HR0_2.out HB.out) | (with_reducible refine Kd.C_alloc ?_ _) | (with_reducible refine Kd.C_drewN ?_ _) | (with_reducible refine Kd.C_drew ?_))); (case side6 => exact HC0_2.out); rintro e w85 ⟨rfl, hb⟩; replace BK301 := am (blk_below (g := gb301) (o := .cells #[.slice A0_0 l0_0.length c0_0, .slice A0_1 l0_1.length c0_1, .slice A0_2 l0_2.length c0_2, .int .i64 a0_3] 43 (0, 0)) (by (with_reducible repeat (first | refine bN ?_ _ | refine bD ?_ | refine bA ?_ _)); exact BK301.out) hb); replace HB := am (below_step (by repeat (first | (with_reducible first | exact HB.out | apply lA | apply lN | apply lD | refine lS ?_ GE301.out) | exact HB.out)) hb); (try clear hb); (try clear hb2); (try clear hk); (try clear hi))))
  go_ret
  exact ⟨by first | rfl | (simp [errW_none, errW_some] <;> rfl) | (simp [*, errW_none, errW_some] <;> rfl), by repeat (first | (with_reducible first | exact HB.out | apply lA | apply lN | apply lD | refine lS ?_ GE301.out) | exact HB.out)⟩
 subst c4
 have H1 : ((interp_Run.f l0_0 l0_1 l0_2 a0_3).bind fun t304 => (lambrequinlaw22_InterpSteps.l0 k t302 t304 0 l0_0 l0_1 l0_2 a0_3)) = some r := by rw [if_pos rfl] at H; exact H
 clear H
 have H := H1
 clear H1
 replace H := Option.bind_eq_some_iff.mp H
 obtain ⟨t304, A50, H⟩ := H
 replace H : (lambrequinlaw22_InterpSteps.l0 k t302 t304 0 l0_0 l0_1 l0_2 a0_3) = some r := H
 have A5 := am A50
 clear A50
 have H' := am H
 clear H
 go_enter Try.func10, Try.ntmps10
 go_wp2_with (first | ((with_reducible refine gate_dst (N := 1) rfl ?_); (try (refine gate_guard (by rfl) ?_; dsimp only)); refine box_event ?hg (N := 1) ?hd (cs := #[.slice A0_0 l0_0.length c0_0, .slice A0_1 l0_1.length c0_1, .slice A0_2 l0_2.length c0_2, .int .i64 a0_3]) (t := 43) ?hr ?_; (case hd => rfl); (case hg => rfl); (case hr => first | (go_simp; done) | (go_simp; rfl)); intro gb301 hg w6 hbox hb; have BK301 := am (hbox); have GW301 := am ((by rw [hg]; exact (below_size (by repeat (first | (with_reducible first | exact HB.out | apply lA | apply lN | apply lD) | exact HB.out))) : w.heap.size ≤ gb301)); have GE301 := am ((by rw [hg]; exact (below_size (by repeat (first | (with_reducible first | exact HB.out | apply lA | apply lN | apply lD) | exact HB.out))) : w.heap.size ≤ gb301)); replace HB := am (below_step (by repeat (first | (with_reducible first | exact HB.out | apply lA | apply lN | apply lD) | exact HB.out)) hb); clear hb hbox hg) | (go_at_call 33; (with_reducible refine (lambrequinlaw22_shown.calls  t302 _ A2.out).mono ?_); rintro e w7 ⟨rfl, hb⟩; replace BK301 := am (blk_below (g := gb301) (o := .cells #[.slice A0_0 l0_0.length c0_0, .slice A0_1 l0_1.length c0_1, .slice A0_2 l0_2.length c0_2, .int .i64 a0_3] 43 (0, 0)) (by (with_reducible repeat (first | refine bN ?_ _ | refine bD ?_ | refine bA ?_ _)); exact BK301.out) hb); replace HB := am (below_step (by repeat (first | (with_reducible first | exact HB.out | apply lA | apply lN | apply lD | refine lS ?_ GE301.out) | exact HB.out)) hb); (try clear hb); (try clear hb2); (try clear hk); (try clear hi); have hcz8_0 : w7.cell? ⟨gb301, 0, none⟩ = some (.slice A0_0 l0_0.length c0_0) := (blk_cell BK301.out 0).trans rfl; have hcz8_1 : w7.cell? ⟨gb301, 1, none⟩ = some (.slice A0_1 l0_1.length c0_1) := (blk_cell BK301.out 1).trans rfl; have hcz8_2 : w7.cell? ⟨gb301, 2, none⟩ = some (.slice A0_2 l0_2.length c0_2) := (blk_cell BK301.out 2).trans rfl; have hcz8_3 : w7.cell? ⟨gb301, 3, none⟩ = some (.int .i64 a0_3) := (blk_cell BK301.out 3).trans rfl; have hfz8_0 := blk_frozen BK301.out 0; have hfz8_1 := blk_frozen BK301.out 1; have hfz8_2 := blk_frozen BK301.out 2; have hfz8_3 := blk_frozen BK301.out 3) | (go_at_call 34; (with_reducible refine (lambrequinlaw22_few.calls _ _ l0_0 _ _ l0_1 _ _ l0_2 a0_3 true _ ?side1 ?side2 ?side3 ?side4 ?side5 ?side6 A3.out).mono ?_); (case side1 => repeat (first | exact (Kd.C_below HR0_0.out HB.out) | (with_reducible refine Kd.C_alloc ?_ _) | (with_reducible refine Kd.C_drewN ?_ _) | (with_reducible refine Kd.C_drew ?_))); (case side2 => exact HC0_0.out); (case side3 => repeat (first | exact (Kd.C_below HR0_1.out HB.out) | (with_reducible refine Kd.C_alloc ?_ _) | (with_reducible refine Kd.C_drewN ?_ _) | (with_reducible refine Kd.C_drew ?_))); (case side4 => exact HC0_1.out); (case side5 => repeat (first | exact (Kd.C_below HR0_2.out HB.out) | (with_reducible refine Kd.C_alloc ?_ _) | (with_reducible refine Kd.C_drewN ?_ _) | (with_reducible refine Kd.C_drew ?_))); (case side6 => exact HC0_2.out); rintro e w9 ⟨rfl, hb⟩; replace BK301 := am (blk_below (g := gb301) (o := .cells #[.slice A0_0 l0_0.length c0_0, .slice A0_1 l0_1.length c0_1, .slice A0_2 l0_2.length c0_2, .int .i64 a0_3] 43 (0, 0)) (by (with_reducible repeat (first | refine bN ?_ _ | refine bD ?_ | refine bA ?_ _)); exact BK301.out) hb); replace HB := am (below_step (by repeat (first | (with_reducible first | exact HB.out | apply lA | apply lN | apply lD | refine lS ?_ GE301.out) | exact HB.out)) hb); (try clear hb); (try clear hb2); (try clear hk); (try clear hi); have hcz10_0 : w9.cell? ⟨gb301, 0, none⟩ = some (.slice A0_0 l0_0.length c0_0) := (blk_cell BK301.out 0).trans rfl; have hcz10_1 : w9.cell? ⟨gb301, 1, none⟩ = some (.slice A0_1 l0_1.length c0_1) := (blk_cell BK301.out 1).trans rfl; have hcz10_2 : w9.cell? ⟨gb301, 2, none⟩ = some (.slice A0_2 l0_2.length c0_2) := (blk_cell BK301.out 2).trans rfl; have hcz10_3 : w9.cell? ⟨gb301, 3, none⟩ = some (.int .i64 a0_3) := (blk_cell BK301.out 3).trans rfl; have hfz10_0 := blk_frozen BK301.out 0; have hfz10_1 := blk_frozen BK301.out 1; have hfz10_2 := blk_frozen BK301.out 2; have hfz10_3 := blk_frozen BK301.out 3) | (go_at_call 36; (with_reducible refine (interp_Run.calls _ _ l0_0 _ _ l0_1 _ _ l0_2 a0_3 t304 _ ?side1 ?side2 ?side3 ?side4 ?side5 ?side6 A5.out).mono ?_); (case side1 => repeat (first | exact (Kd.C_below HR0_0.out HB.out) | (with_reducible refine Kd.C_alloc ?_ _) | (with_reducible refine Kd.C_drewN ?_ _) | (with_reducible refine Kd.C_drew ?_))); (case side2 => exact HC0_0.out); (case side3 => repeat (first | exact (Kd.C_below HR0_1.out HB.out) | (with_reducible refine Kd.C_alloc ?_ _) | (with_reducible refine Kd.C_drewN ?_ _) | (with_reducible refine Kd.C_drew ?_))); (case side4 => exact HC0_1.out); (case side5 => repeat (first | exact (Kd.C_below HR0_2.out HB.out) | (with_reducible refine Kd.C_alloc ?_ _) | (with_reducible refine Kd.C_drewN ?_ _) | (with_reducible refine Kd.C_drew ?_))); (case side6 => exact HC0_2.out); rintro e w11 ⟨v305, rfl, ho0, hb⟩; have HO306 := am (Kd.S_lower ho0 (below_size (by repeat (first | (with_reducible first | exact HB.out | apply lA | apply lN | apply lD | refine lS ?_ GE301.out) | exact HB.out)))); replace BK301 := am (blk_below (g := gb301) (o := .cells #[.slice A0_0 l0_0.length c0_0, .slice A0_1 l0_1.length c0_1, .slice A0_2 l0_2.length c0_2, .int .i64 a0_3] 43 (0, 0)) (by (with_reducible repeat (first | refine bN ?_ _ | refine bD ?_ | refine bA ?_ _)); exact BK301.out) hb); replace HB := am (below_step (by repeat (first | (with_reducible first | exact HB.out | apply lA | apply lN | apply lD | refine lS ?_ GE301.out) | exact HB.out)) hb); (try clear hb); (try clear hb2); (try clear hk); (try clear hi); (try clear ho0)))
 repeat (go_quiet (first | ((with_reducible refine gate_dst (N := 1) rfl ?_); (try (refine gate_guard (by rfl) ?_; dsimp only)); refine box_event ?hg (N := 1) ?hd (cs := #[.slice A0_0 l0_0.length c0_0, .slice A0_1 l0_1.length c0_1, .slice A0_2 l0_2.length c0_2, .int .i64 a0_3]) (t := 43) ?hr ?_; (case hd => rfl); (case hg => rfl); (case hr => first | (go_simp; done) | (go_simp; rfl)); intro gb301 hg w6 hbox hb; have BK301 := am (hbox); have GW301 := am ((by rw [hg]; exact (below_size (by repeat (first | (with_reducible first | exact HB.out | apply lA | apply lN | apply lD) | exact HB.out))) : w.heap.size ≤ gb301)); have GE301 := am ((by rw [hg]; exact (below_size (by repeat (first | (with_reducible first | exact HB.out | apply lA | apply lN | apply lD) | exact HB.out))) : w.heap.size ≤ gb301)); replace HB := am (below_step (by repeat (first | (with_reducible first | exact HB.out | apply lA | apply lN | apply lD) | exact HB.out)) hb); clear hb hbox hg) | (go_at_call 33; (with_reducible refine (lambrequinlaw22_shown.calls  t302 _ A2.out).mono ?_); rintro e w7 ⟨rfl, hb⟩; replace BK301 := am (blk_below (g := gb301) (o := .cells #[.slice A0_0 l0_0.length c0_0, .slice A0_1 l0_1.length c0_1, .slice A0_2 l0_2.length c0_2, .int .i64 a0_3] 43 (0, 0)) (by (with_reducible repeat (first | refine bN ?_ _ | refine bD ?_ | refine bA ?_ _)); exact BK301.out) hb); replace HB := am (below_step (by repeat (first | (with_reducible first | exact HB.out | apply lA | apply lN | apply lD | refine lS ?_ GE301.out) | exact HB.out)) hb); (try clear hb); (try clear hb2); (try clear hk); (try clear hi); have hcz8_0 : w7.cell? ⟨gb301, 0, none⟩ = some (.slice A0_0 l0_0.length c0_0) := (blk_cell BK301.out 0).trans rfl; have hcz8_1 : w7.cell? ⟨gb301, 1, none⟩ = some (.slice A0_1 l0_1.length c0_1) := (blk_cell BK301.out 1).trans rfl; have hcz8_2 : w7.cell? ⟨gb301, 2, none⟩ = some (.slice A0_2 l0_2.length c0_2) := (blk_cell BK301.out 2).trans rfl; have hcz8_3 : w7.cell? ⟨gb301, 3, none⟩ = some (.int .i64 a0_3) := (blk_cell BK301.out 3).trans rfl; have hfz8_0 := blk_frozen BK301.out 0; have hfz8_1 := blk_frozen BK301.out 1; have hfz8_2 := blk_frozen BK301.out 2; have hfz8_3 := blk_frozen BK301.out 3) | (go_at_call 34; (with_reducible refine (lambrequinlaw22_few.calls _ _ l0_0 _ _ l0_1 _ _ l0_2 a0_3 true _ ?side1 ?side2 ?side3 ?side4 ?side5 ?side6 A3.out).mono ?_); (case side1 => repeat (first | exact (Kd.C_below HR0_0.out HB.out) | (with_reducible refine Kd.C_alloc ?_ _) | (with_reducible refine Kd.C_drewN ?_ _) | (with_reducible refine Kd.C_drew ?_))); (case side2 => exact HC0_0.out); (case side3 => repeat (first | exact (Kd.C_below HR0_1.out HB.out) | (with_reducible refine Kd.C_alloc ?_ _) | (with_reducible refine Kd.C_drewN ?_ _) | (with_reducible refine Kd.C_drew ?_))); (case side4 => exact HC0_1.out); (case side5 => repeat (first | exact (Kd.C_below HR0_2.out HB.out) | (with_reducible refine Kd.C_alloc ?_ _) | (with_reducible refine Kd.C_drewN ?_ _) | (with_reducible refine Kd.C_drew ?_))); (case side6 => exact HC0_2.out); rintro e w9 ⟨rfl, hb⟩; replace BK301 := am (blk_below (g := gb301) (o := .cells #[.slice A0_0 l0_0.length c0_0, .slice A0_1 l0_1.length c0_1, .slice A0_2 l0_2.length c0_2, .int .i64 a0_3] 43 (0, 0)) (by (with_reducible repeat (first | refine bN ?_ _ | refine bD ?_ | refine bA ?_ _)); exact BK301.out) hb); replace HB := am (below_step (by repeat (first | (with_reducible first | exact HB.out | apply lA | apply lN | apply lD | refine lS ?_ GE301.out) | exact HB.out)) hb); (try clear hb); (try clear hb2); (try clear hk); (try clear hi); have hcz10_0 : w9.cell? ⟨gb301, 0, none⟩ = some (.slice A0_0 l0_0.length c0_0) := (blk_cell BK301.out 0).trans rfl; have hcz10_1 : w9.cell? ⟨gb301, 1, none⟩ = some (.slice A0_1 l0_1.length c0_1) := (blk_cell BK301.out 1).trans rfl; have hcz10_2 : w9.cell? ⟨gb301, 2, none⟩ = some (.slice A0_2 l0_2.length c0_2) := (blk_cell BK301.out 2).trans rfl; have hcz10_3 : w9.cell? ⟨gb301, 3, none⟩ = some (.int .i64 a0_3) := (blk_cell BK301.out 3).trans rfl; have hfz10_0 := blk_frozen BK301.out 0; have hfz10_1 := blk_frozen BK301.out 1; have hfz10_2 := blk_frozen BK301.out 2; have hfz10_3 := blk_frozen BK301.out 3) | (go_at_call 36; (with_reducible refine (interp_Run.calls _ _ l0_0 _ _ l0_1 _ _ l0_2 a0_3 t304 _ ?side1 ?side2 ?side3 ?side4 ?side5 ?side6 A5.out).mono ?_); (case side1 => repeat (first | exact (Kd.C_below HR0_0.out HB.out) | (with_reducible refine Kd.C_alloc ?_ _) | (with_reducible refine Kd.C_drewN ?_ _) | (with_reducible refine Kd.C_drew ?_))); (case side2 => exact HC0_0.out); (case side3 => repeat (first | exact (Kd.C_below HR0_1.out HB.out) | (with_reducible refine Kd.C_alloc ?_ _) | (with_reducible refine Kd.C_drewN ?_ _) | (with_reducible refine Kd.C_drew ?_))); (case side4 => exact HC0_1.out); (case side5 => repeat (first | exact (Kd.C_below HR0_2.out HB.out) | (with_reducible refine Kd.C_alloc ?_ _) | (with_reducible refine Kd.C_drewN ?_ _) | (with_reducible refine Kd.C_drew ?_))); (case side6 => exact HC0_2.out); rintro e w11 ⟨v305, rfl, ho0, hb⟩; have HO306 := am (Kd.S_lower ho0 (below_size (by repeat (first | (with_reducible first | exact HB.out | apply lA | apply lN | apply lD | refine lS ?_ GE301.out) | exact HB.out)))); replace BK301 := am (blk_below (g := gb301) (o := .cells #[.slice A0_0 l0_0.length c0_0, .slice A0_1 l0_1.length c0_1, .slice A0_2 l0_2.length c0_2, .int .i64 a0_3] 43 (0, 0)) (by (with_reducible repeat (first | refine bN ?_ _ | refine bD ?_ | refine bA ?_ _)); exact BK301.out) hb); replace HB := am (below_step (by repeat (first | (with_reducible first | exact HB.out | apply lA | apply lN | apply lD | refine lS ?_ GE301.out) | exact HB.out)) hb); (try clear hb); (try clear hb2); (try clear hk); (try clear hi); (try clear ho0))); try go_wp2_with (first | ((with_reducible refine gate_dst (N := 1) rfl ?_); (try (refine gate_guard (by rfl) ?_; dsimp only)); refine box_event ?hg (N := 1) ?hd (cs := #[.slice A0_0 l0_0.length c0_0, .slice A0_1 l0_1.length c0_1, .slice A0_2 l0_2.length c0_2, .int .i64 a0_3]) (t := 43) ?hr ?_; (case hd => rfl); (case hg => rfl); (case hr => first | (go_simp; done) | (go_simp; rfl)); intro gb301 hg w6 hbox hb; have BK301 := am (hbox); have GW301 := am ((by rw [hg]; exact (below_size (by repeat (first | (with_reducible first | exact HB.out | apply lA | apply lN | apply lD) | exact HB.out))) : w.heap.size ≤ gb301)); have GE301 := am ((by rw [hg]; exact (below_size (by repeat (first | (with_reducible first | exact HB.out | apply lA | apply lN | apply lD) | exact HB.out))) : w.heap.size ≤ gb301)); replace HB := am (below_step (by repeat (first | (with_reducible first | exact HB.out | apply lA | apply lN | apply lD) | exact HB.out)) hb); clear hb hbox hg) | (go_at_call 33; (with_reducible refine (lambrequinlaw22_shown.calls  t302 _ A2.out).mono ?_); rintro e w7 ⟨rfl, hb⟩; replace BK301 := am (blk_below (g := gb301) (o := .cells #[.slice A0_0 l0_0.length c0_0, .slice A0_1 l0_1.length c0_1, .slice A0_2 l0_2.length c0_2, .int .i64 a0_3] 43 (0, 0)) (by (with_reducible repeat (first | refine bN ?_ _ | refine bD ?_ | refine bA ?_ _)); exact BK301.out) hb); replace HB := am (below_step (by repeat (first | (with_reducible first | exact HB.out | apply lA | apply lN | apply lD | refine lS ?_ GE301.out) | exact HB.out)) hb); (try clear hb); (try clear hb2); (try clear hk); (try clear hi); have hcz8_0 : w7.cell? ⟨gb301, 0, none⟩ = some (.slice A0_0 l0_0.length c0_0) := (blk_cell BK301.out 0).trans rfl; have hcz8_1 : w7.cell? ⟨gb301, 1, none⟩ = some (.slice A0_1 l0_1.length c0_1) := (blk_cell BK301.out 1).trans rfl; have hcz8_2 : w7.cell? ⟨gb301, 2, none⟩ = some (.slice A0_2 l0_2.length c0_2) := (blk_cell BK301.out 2).trans rfl; have hcz8_3 : w7.cell? ⟨gb301, 3, none⟩ = some (.int .i64 a0_3) := (blk_cell BK301.out 3).trans rfl; have hfz8_0 := blk_frozen BK301.out 0; have hfz8_1 := blk_frozen BK301.out 1; have hfz8_2 := blk_frozen BK301.out 2; have hfz8_3 := blk_frozen BK301.out 3) | (go_at_call 34; (with_reducible refine (lambrequinlaw22_few.calls _ _ l0_0 _ _ l0_1 _ _ l0_2 a0_3 true _ ?side1 ?side2 ?side3 ?side4 ?side5 ?side6 A3.out).mono ?_); (case side1 => repeat (first | exact (Kd.C_below HR0_0.out HB.out) | (with_reducible refine Kd.C_alloc ?_ _) | (with_reducible refine Kd.C_drewN ?_ _) | (with_reducible refine Kd.C_drew ?_))); (case side2 => exact HC0_0.out); (case side3 => repeat (first | exact (Kd.C_below HR0_1.out HB.out) | (with_reducible refine Kd.C_alloc ?_ _) | (with_reducible refine Kd.C_drewN ?_ _) | (with_reducible refine Kd.C_drew ?_))); (case side4 => exact HC0_1.out); (case side5 => repeat (first | exact (Kd.C_below HR0_2.out HB.out) | (with_reducible refine Kd.C_alloc ?_ _) | (with_reducible refine Kd.C_drewN ?_ _) | (with_reducible refine Kd.C_drew ?_))); (case side6 => exact HC0_2.out); rintro e w9 ⟨rfl, hb⟩; replace BK301 := am (blk_below (g := gb301) (o := .cells #[.slice A0_0 l0_0.length c0_0, .slice A0_1 l0_1.length c0_1, .slice A0_2 l0_2.length c0_2, .int .i64 a0_3] 43 (0, 0)) (by (with_reducible repeat (first | refine bN ?_ _ | refine bD ?_ | refine bA ?_ _)); exact BK301.out) hb); replace HB := am (below_step (by repeat (first | (with_reducible first | exact HB.out | apply lA | apply lN | apply lD | refine lS ?_ GE301.out) | exact HB.out)) hb); (try clear hb); (try clear hb2); (try clear hk); (try clear hi); have hcz10_0 : w9.cell? ⟨gb301, 0, none⟩ = some (.slice A0_0 l0_0.length c0_0) := (blk_cell BK301.out 0).trans rfl; have hcz10_1 : w9.cell? ⟨gb301, 1, none⟩ = some (.slice A0_1 l0_1.length c0_1) := (blk_cell BK301.out 1).trans rfl; have hcz10_2 : w9.cell? ⟨gb301, 2, none⟩ = some (.slice A0_2 l0_2.length c0_2) := (blk_cell BK301.out 2).trans rfl; have hcz10_3 : w9.cell? ⟨gb301, 3, none⟩ = some (.int .i64 a0_3) := (blk_cell BK301.out 3).trans rfl; have hfz10_0 := blk_frozen BK301.out 0; have hfz10_1 := blk_frozen BK301.out 1; have hfz10_2 := blk_frozen BK301.out 2; have hfz10_3 := blk_frozen BK301.out 3) | (go_at_call 36; (with_reducible refine (interp_Run.calls _ _ l0_0 _ _ l0_1 _ _ l0_2 a0_3 t304 _ ?side1 ?side2 ?side3 ?side4 ?side5 ?side6 A5.out).mono ?_); (case side1 => repeat (first | exact (Kd.C_below HR0_0.out HB.out) | (with_reducible refine Kd.C_alloc ?_ _) | (with_reducible refine Kd.C_drewN ?_ _) | (with_reducible refine Kd.C_drew ?_))); (case side2 => exact HC0_0.out); (case side3 => repeat (first | exact (Kd.C_below HR0_1.out HB.out) | (with_reducible refine Kd.C_alloc ?_ _) | (with_reducible refine Kd.C_drewN ?_ _) | (with_reducible refine Kd.C_drew ?_))); (case side4 => exact HC0_1.out); (case side5 => repeat (first | exact (Kd.C_below HR0_2.out HB.out) | (with_reducible refine Kd.C_alloc ?_ _) | (with_reducible refine Kd.C_drewN ?_ _) | (with_reducible refine Kd.C_drew ?_))); (case side6 => exact HC0_2.out); rintro e w11 ⟨v305, rfl, ho0, hb⟩; have HO306 := am (Kd.S_lower ho0 (below_size (by repeat (first | (with_reducible first | exact HB.out | apply lA | apply lN | apply lD | refine lS ?_ GE301.out) | exact HB.out)))); replace BK301 := am (blk_below (g := gb301) (o := .cells #[.slice A0_0 l0_0.length c0_0, .slice A0_1 l0_1.length c0_1, .slice A0_2 l0_2.length c0_2, .int .i64 a0_3] 43 (0, 0)) (by (with_reducible repeat (first | refine bN ?_ _ | refine bD ?_ | refine bA ?_ _)); exact BK301.out) hb); replace HB := am (below_step (by repeat (first | (with_reducible first | exact HB.out | apply lA | apply lN | apply lD | refine lS ?_ GE301.out) | exact HB.out)) hb); (try clear hb); (try clear hb2); (try clear hk); (try clear hi); (try clear ho0))))
 go_loopg [5] k (fun kq v5 w' => ∃ (x5_1 : Int), v5 = .int .i64 x5_1 ∧ Aside0 (lambrequinlaw22_InterpSteps.l0 kq t302 t304 x5_1 l0_0 l0_1 l0_2 a0_3 = some r) ∧ Aside0 (kq ≤ k) ∧ Aside0 (Kd.S k52 52 w' w.heap.size (fun _ => True) v305 t304) ∧ Aside0 (w'.heap[gb301]? = some (.cells #[(.slice A0_0 l0_0.length c0_0), (.slice A0_1 l0_1.length c0_1), (.slice A0_2 l0_2.length c0_2), .int .i64 a0_3] 43 (0, 0))) ∧ Aside0 (Below w.heap.size w w'))
 case atStart => exact ⟨(0), (by first | rfl | (simp; done) | (simp [*]; done)), H', ⟨Nat.le_refl _⟩, ⟨by (with_reducible repeat (first | apply Kd.S_alloc | apply Kd.S_drewN | apply Kd.S_drew)); exact HO306.out⟩, ⟨by (with_reducible repeat (first | refine bN ?_ _ | refine bD ?_ | refine bA ?_ _)); exact BK301.out⟩, ⟨by repeat (first | (with_reducible first | exact HB.out | apply lA | apply lN | apply lD | refine lS ?_ GE301.out) | exact HB.out)⟩⟩
 case round =>
  clear H'
  try clear c1
  try clear p2
  try clear c4
  try clear c10
  try clear hcz10_0
  try clear hcz10_1
  try clear hcz10_2
  try clear hcz10_3
  try clear hcz8_0
  try clear hcz8_1
  try clear hcz8_2
  try clear hcz8_3
  try clear hfz10_0
  try clear hfz10_1
  try clear hfz10_2
  try clear hfz10_3
  try clear hfz8_0
  try clear hfz8_1
  try clear hfz8_2
  try clear hfz8_3
  obtain ⟨x5_1, rfl, HA, HK1, HO_4, BK301, HB⟩ := hrel
  cases gk with
  | zero => exact absurd HA.out (by simp [lambrequinlaw22_InterpSteps.l0])
  | succ k1 =>
   have H := HA.out
   clear HA
   simp only [lambrequinlaw22_InterpSteps.l0] at H
   as_aux_lemma =>
   by_cases c12 : x5_1 < (t304.length : Int)
   rotate_left
   ·rw [if_neg c12] at H
    have c12b0 : decide (x5_1 < (t304.length : Int)) = false := decide_eq_false c12
    clear c12
    by_cases c77 : t302 = true
    ·subst c77
     have H1 : (some (decide ((t304.length : Int) ≤ (mx a0_3 0)))) = some r := by rw [if_pos rfl] at H; exact H
     clear H
     have H := H1
     clear H1
     obtain ⟨ji78, hji78⟩ : ∃ j_ : Int, (mx a0_3 0) = j_ := ⟨_, rfl⟩
     replace H : (some (decide ((t304.length : Int) ≤ (ji78)))) = some r := by first | (rw [hji78] at H; exact H) | (simp only [hji78] at H ⊢; exact H)
     (try (have hji78l : 0 ≤ ji78 := by (rw [← hji78]; unfold mx; (repeat' split) <;> omega)))
     (try (have hji78m : 0 ≤ ji78 := by omega))
     have hji78_ : (if a0_3 < 0 then 0 else a0_3) = ji78 := hji78
     obtain rfl := Option.some.inj H
     obtain ⟨Ao79, co79, eo79⟩ := Kd.S_slice HO_4.out
     subst eo79
     have hcz80_0 : wr.cell? ⟨gb301, 0, none⟩ = some (.slice A0_0 l0_0.length c0_0) := (blk_cell BK301.out 0).trans rfl
     have hcz80_1 : wr.cell? ⟨gb301, 1, none⟩ = some (.slice A0_1 l0_1.length c0_1) := (blk_cell BK301.out 1).trans rfl
     have hcz80_2 : wr.cell? ⟨gb301, 2, none⟩ = some (.slice A0_2 l0_2.length c0_2) := (blk_cell BK301.out 2).trans rfl
     have hcz80_3 : wr.cell? ⟨gb301, 3, none⟩ = some (.int .i64 a0_3) := (blk_cell BK301.out 3).trans rfl
     have hfz80_0 := blk_frozen BK301.out 0
     have hfz80_1 := blk_frozen BK301.out 1
     have hfz80_2 := blk_frozen BK301.out 2
     have hfz80_3 := blk_frozen BK301.out 3
     go_wp2
     repeat (go_quiet (fail); try go_wp2)
     go_ret
     exact ⟨by first | rfl | (simp [errW_none, errW_some] <;> rfl) | (simp only [← hji78]; first | rfl | (simp [errW_none, errW_some] <;> rfl)) | (simp [*, errW_none, errW_some] <;> rfl), by repeat (first | (with_reducible first | exact HB.out | apply lA | apply lN | apply lD | refine lS ?_ GE301.out) | exact HB.out)⟩
    replace c77 := Bool.eq_false_iff.mpr c77
    subst c77
    have H1 : (some false) = some r := by rw [if_neg (show ¬ (false = true) by decide)] at H; exact H
    clear H
    have H := H1
    clear H1
    obtain rfl := Option.some.inj H
    obtain ⟨Ao81, co81, eo81⟩ := Kd.S_slice HO_4.out
    subst eo81
    go_wp2
    repeat (go_quiet (fail); try go_wp2)
    go_ret
    exact ⟨by first | rfl | (simp [errW_none, errW_some] <;> rfl) | (simp [*, errW_none, errW_some] <;> rfl), by repeat (first | (with_reducible first | exact HB.out | apply lA | apply lN | apply lD | refine lS ?_ GE301.out) | exact HB.out)⟩
   rw [if_pos c12] at H
   have c12b0 : decide (x5_1 < (t304.length : Int)) = true := decide_eq_true c12
   clear c12
   have HC13 := am H
   clear H
   obtain ⟨Ao14, co14, eo14⟩ := Kd.S_slice HO_4.out
   subst eo14
   go_upto_region 8 with (fail)
   repeat (go_quiet (fail); go_upto_region 8 with (fail))
   go_cut [63] (fun v63 wc => ∃ (kq : Nat) (x63_12 : Bool), v63 = .bool x63_12 ∧ Aside0 (lambrequinlaw22_InterpSteps.j1 kq t302 t304 x5_1 x63_12 l0_0 l0_1 l0_2 a0_3 = some r) ∧ Aside0 (kq ≤ k1) ∧ Aside0 (Kd.S k52 52 wc w.heap.size (fun _ => True) (.slice Ao14 t304.length co14) t304) ∧ Aside0 (wc.heap[gb301]? = some (.cells #[(.slice A0_0 l0_0.length c0_0), (.slice A0_1 l0_1.length c0_1), (.slice A0_2 l0_2.length c0_2), .int .i64 a0_3] 43 (0, 0))) ∧ Aside0 (Below w.heap.size w wc))
   case first =>
    have H := HC13.out
    clear HC13
    as_aux_lemma =>
    by_cases c15 : 0 ≤ x5_1
    rotate_left
    ·rw [if_neg c15] at H
     exact absurd H (by simp)
    rw [if_pos c15] at H
    have c15b0 : decide (0 ≤ x5_1) = true := decide_eq_true c15
    clear c15
    (first | rw [c15b0] | (simp only [i64_w, i32_w]; rw [c15b0]) | skip)
    as_aux_lemma =>
    by_cases c16 : ((rd_T52 t304 x5_1).place) < 0
    ·rw [if_pos c16] at H
     have c16b0 : decide (((rd_T52 t304 x5_1).place) < 0) = true := decide_eq_true c16
     clear c16
     have H' := am H
     clear H
     have p307 : 0 ≤ (x5_1 : Int) := of_decide_eq_true (by first | (with_reducible assumption) | assumption)
     have q307 : x5_1 < (t304.length : Int) := of_decide_eq_true (by first | (with_reducible assumption) | assumption)
     obtain ⟨ad307, A307_1, c307_1, e307, hx307_0, hx307_1, hl307_1, hi307_1⟩ := at_T52 (Kd.S_reads' HO_4.out).2.2 x5_1 p307 q307
     cases e307
     obtain ⟨ce307, hce307, hMe307, hcc307⟩ := Kd.S_get HO_4.out z52 x5_1 p307 (by first | exact q307 | exact of_decide_eq_true (by first | (with_reducible assumption) | assumption) | (have e_ := (Kd.S_reads' HO_4.out).1; omega))
     obtain ⟨ve307_1, rfl, ge307_1⟩ := k52_openM hMe307
     have hv307_1 := hcc307 1 _ rfl
     rw [add_field _ _ 1 (by omega)] at hv307_1
     replace hv307_1 := Option.some.inj (hv307_1.symm.trans hx307_1)
     rw [hv307_1] at ge307_1
     have HL307_1 := am (show Kd.R k54 54 _ _ _ _ ((rd_T52 t304 x5_1).vars) from ge307_1)
     clear hv307_1 ge307_1
     clear hcc307 hce307
     have HR307_1 := am hi307_1
     have HC307_1 := am hl307_1
     clear hi307_1 hl307_1
     replace p307 := eq_true p307
     replace q307 := eq_true q307
     go_wp2
     repeat (go_quiet (fail); try go_wp2)
     go_meet
     case rel => exact ⟨_, (true), (by first | rfl | (simp; done) | (simp [*]; done)), H', ⟨by have := HK1.out; first | omega | exact Nat.le_refl _⟩, ⟨by (with_reducible repeat (first | apply Kd.S_alloc | apply Kd.S_drewN | apply Kd.S_drew)); exact HO_4.out⟩, ⟨by (with_reducible repeat (first | refine bN ?_ _ | refine bD ?_ | refine bA ?_ _)); exact BK301.out⟩, ⟨by repeat (first | (with_reducible first | exact HB.out | apply lA | apply lN | apply lD | refine lS ?_ GE301.out) | exact HB.out)⟩⟩
    rw [if_neg c16] at H
    have c16b0 : decide (((rd_T52 t304 x5_1).place) < 0) = false := decide_eq_false c16
    clear c16
    as_aux_lemma =>
    by_cases c17 : ((rd_T52 t304 x5_1).place) ≥ (l0_0.length : Int)
    ·rw [if_pos c17] at H
     have c17b0 : decide ((l0_0.length : Int) ≤ ((rd_T52 t304 x5_1).place)) = true := decide_eq_true c17
     clear c17
     have H' := am H
     clear H
     have p307 : 0 ≤ (x5_1 : Int) := of_decide_eq_true (by first | (with_reducible assumption) | assumption)
     have q307 : x5_1 < (t304.length : Int) := of_decide_eq_true (by first | (with_reducible assumption) | assumption)
     obtain ⟨ad307, A307_1, c307_1, e307, hx307_0, hx307_1, hl307_1, hi307_1⟩ := at_T52 (Kd.S_reads' HO_4.out).2.2 x5_1 p307 q307
     cases e307
     obtain ⟨ce307, hce307, hMe307, hcc307⟩ := Kd.S_get HO_4.out z52 x5_1 p307 (by first | exact q307 | exact of_decide_eq_true (by first | (with_reducible assumption) | assumption) | (have e_ := (Kd.S_reads' HO_4.out).1; omega))
     obtain ⟨ve307_1, rfl, ge307_1⟩ := k52_openM hMe307
     have hv307_1 := hcc307 1 _ rfl
     rw [add_field _ _ 1 (by omega)] at hv307_1
     replace hv307_1 := Option.some.inj (hv307_1.symm.trans hx307_1)
     rw [hv307_1] at ge307_1
     have HL307_1 := am (show Kd.R k54 54 _ _ _ _ ((rd_T52 t304 x5_1).vars) from ge307_1)
     clear hv307_1 ge307_1
     clear hcc307 hce307
     have HR307_1 := am hi307_1
     have HC307_1 := am hl307_1
     clear hi307_1 hl307_1
     replace p307 := eq_true p307
     replace q307 := eq_true q307
     have p308 : 0 ≤ (x5_1 : Int) := of_decide_eq_true (by first | (with_reducible assumption) | assumption)
     have q308 : x5_1 < (t304.length : Int) := of_decide_eq_true (by first | (with_reducible assumption) | assumption)
     obtain ⟨ad308, A308_1, c308_1, e308, hx308_0, hx308_1, hl308_1, hi308_1⟩ := at_T52 (Kd.S_reads' HO_4.out).2.2 x5_1 p308 q308
     obtain rfl : ad307 = ad308 := (by injection e308)
     obtain ⟨ce308, hce308, hMe308, hcc308⟩ := Kd.S_get HO_4.out z52 x5_1 p308 (by first | exact q308 | exact of_decide_eq_true (by first | (with_reducible assumption) | assumption) | (have e_ := (Kd.S_reads' HO_4.out).1; omega))
     obtain ⟨ve308_1, rfl, ge308_1⟩ := k52_openM hMe308
     have hv308_1 := hcc308 1 _ rfl
     rw [add_field _ _ 1 (by omega)] at hv308_1
     replace hv308_1 := Option.some.inj (hv308_1.symm.trans hx308_1)
     rw [hv308_1] at ge308_1
     have HL308_1 := am (show Kd.R k54 54 _ _ _ _ ((rd_T52 t304 x5_1).vars) from ge308_1)
     clear hv308_1 ge308_1
     clear hcc308 hce308
     have HR308_1 := am hi308_1
     have HC308_1 := am hl308_1
     clear hi308_1 hl308_1
     replace p308 := eq_true p308
     replace q308 := eq_true q308
     have ea_ := Option.some.inj (hx307_1.symm.trans hx308_1)
     injection ea_ with ea_ en_ ec_
     subst ea_
     subst ec_
     clear en_
     have hcz18_0 : wr.cell? ⟨gb301, 0, none⟩ = some (.slice A0_0 l0_0.length c0_0) := (blk_cell BK301.out 0).trans rfl
     have hcz18_1 : wr.cell? ⟨gb301, 1, none⟩ = some (.slice A0_1 l0_1.length c0_1) := (blk_cell BK301.out 1).trans rfl
     have hcz18_2 : wr.cell? ⟨gb301, 2, none⟩ = some (.slice A0_2 l0_2.length c0_2) := (blk_cell BK301.out 2).trans rfl
     have hcz18_3 : wr.cell? ⟨gb301, 3, none⟩ = some (.int .i64 a0_3) := (blk_cell BK301.out 3).trans rfl
     have hfz18_0 := blk_frozen BK301.out 0
     have hfz18_1 := blk_frozen BK301.out 1
     have hfz18_2 := blk_frozen BK301.out 2
     have hfz18_3 := blk_frozen BK301.out 3
     go_wp2
     repeat (go_quiet (fail); try go_wp2)
     go_meet
     case rel => exact ⟨_, (true), (by first | rfl | (simp; done) | (simp [*]; done)), H', ⟨by have := HK1.out; first | omega | exact Nat.le_refl _⟩, ⟨by (with_reducible repeat (first | apply Kd.S_alloc | apply Kd.S_drewN | apply Kd.S_drew)); exact HO_4.out⟩, ⟨by (with_reducible repeat (first | refine bN ?_ _ | refine bD ?_ | refine bA ?_ _)); exact BK301.out⟩, ⟨by repeat (first | (with_reducible first | exact HB.out | apply lA | apply lN | apply lD | refine lS ?_ GE301.out) | exact HB.out)⟩⟩
    rw [if_neg c17] at H
    have c17b0 : decide ((l0_0.length : Int) ≤ ((rd_T52 t304 x5_1).place)) = false := decide_eq_false c17
    clear c17
    by_cases c19 : x5_1 = 0
    ·rw [if_pos c19] at H
     have c19b0 : (x5_1 == 0) = true := beq_iff_eq.mpr c19
     have c19b1 : (x5_1 != 0) = false := bne_eq_false_iff_eq.mpr c19
     clear c19
     have H' := am H
     clear H
     have p307 : 0 ≤ (x5_1 : Int) := of_decide_eq_true (by first | (with_reducible assumption) | assumption)
     have q307 : x5_1 < (t304.length : Int) := of_decide_eq_true (by first | (with_reducible assumption) | assumption)
     obtain ⟨ad307, A307_1, c307_1, e307, hx307_0, hx307_1, hl307_1, hi307_1⟩ := at_T52 (Kd.S_reads' HO_4.out).2.2 x5_1 p307 q307
     cases e307
     obtain ⟨ce307, hce307, hMe307, hcc307⟩ := Kd.S_get HO_4.out z52 x5_1 p307 (by first | exact q307 | exact of_decide_eq_true (by first | (with_reducible assumption) | assumption) | (have e_ := (Kd.S_reads' HO_4.out).1; omega))
     obtain ⟨ve307_1, rfl, ge307_1⟩ := k52_openM hMe307
     have hv307_1 := hcc307 1 _ rfl
     rw [add_field _ _ 1 (by omega)] at hv307_1
     replace hv307_1 := Option.some.inj (hv307_1.symm.trans hx307_1)
     rw [hv307_1] at ge307_1
     have HL307_1 := am (show Kd.R k54 54 _ _ _ _ ((rd_T52 t304 x5_1).vars) from ge307_1)
     clear hv307_1 ge307_1
     clear hcc307 hce307
     have HR307_1 := am hi307_1
     have HC307_1 := am hl307_1
     clear hi307_1 hl307_1
     replace p307 := eq_true p307
     replace q307 := eq_true q307
     have p308 : 0 ≤ (x5_1 : Int) := of_decide_eq_true (by first | (with_reducible assumption) | assumption)
     have q308 : x5_1 < (t304.length : Int) := of_decide_eq_true (by first | (with_reducible assumption) | assumption)
     obtain ⟨ad308, A308_1, c308_1, e308, hx308_0, hx308_1, hl308_1, hi308_1⟩ := at_T52 (Kd.S_reads' HO_4.out).2.2 x5_1 p308 q308
     obtain rfl : ad307 = ad308 := (by injection e308)
     obtain ⟨ce308, hce308, hMe308, hcc308⟩ := Kd.S_get HO_4.out z52 x5_1 p308 (by first | exact q308 | exact of_decide_eq_true (by first | (with_reducible assumption) | assumption) | (have e_ := (Kd.S_reads' HO_4.out).1; omega))
     obtain ⟨ve308_1, rfl, ge308_1⟩ := k52_openM hMe308
     have hv308_1 := hcc308 1 _ rfl
     rw [add_field _ _ 1 (by omega)] at hv308_1
     replace hv308_1 := Option.some.inj (hv308_1.symm.trans hx308_1)
     rw [hv308_1] at ge308_1
     have HL308_1 := am (show Kd.R k54 54 _ _ _ _ ((rd_T52 t304 x5_1).vars) from ge308_1)
     clear hv308_1 ge308_1
     clear hcc308 hce308
     have HR308_1 := am hi308_1
     have HC308_1 := am hl308_1
     clear hi308_1 hl308_1
     replace p308 := eq_true p308
     replace q308 := eq_true q308
     have ea_ := Option.some.inj (hx307_1.symm.trans hx308_1)
     injection ea_ with ea_ en_ ec_
     subst ea_
     subst ec_
     clear en_
     have hcz20_0 : wr.cell? ⟨gb301, 0, none⟩ = some (.slice A0_0 l0_0.length c0_0) := (blk_cell BK301.out 0).trans rfl
     have hcz20_1 : wr.cell? ⟨gb301, 1, none⟩ = some (.slice A0_1 l0_1.length c0_1) := (blk_cell BK301.out 1).trans rfl
     have hcz20_2 : wr.cell? ⟨gb301, 2, none⟩ = some (.slice A0_2 l0_2.length c0_2) := (blk_cell BK301.out 2).trans rfl
     have hcz20_3 : wr.cell? ⟨gb301, 3, none⟩ = some (.int .i64 a0_3) := (blk_cell BK301.out 3).trans rfl
     have hfz20_0 := blk_frozen BK301.out 0
     have hfz20_1 := blk_frozen BK301.out 1
     have hfz20_2 := blk_frozen BK301.out 2
     have hfz20_3 := blk_frozen BK301.out 3
     have p309 : 0 ≤ (x5_1 : Int) := of_decide_eq_true (by first | (with_reducible assumption) | assumption)
     have q309 : x5_1 < (t304.length : Int) := of_decide_eq_true (by first | (with_reducible assumption) | assumption)
     obtain ⟨ad309, A309_1, c309_1, e309, hx309_0, hx309_1, hl309_1, hi309_1⟩ := at_T52 (Kd.S_reads' HO_4.out).2.2 x5_1 p309 q309
     obtain rfl : ad307 = ad309 := (by injection e309)
     obtain ⟨ce309, hce309, hMe309, hcc309⟩ := Kd.S_get HO_4.out z52 x5_1 p309 (by first | exact q309 | exact of_decide_eq_true (by first | (with_reducible assumption) | assumption) | (have e_ := (Kd.S_reads' HO_4.out).1; omega))
     obtain ⟨ve309_1, rfl, ge309_1⟩ := k52_openM hMe309
     have hv309_1 := hcc309 1 _ rfl
     rw [add_field _ _ 1 (by omega)] at hv309_1
     replace hv309_1 := Option.some.inj (hv309_1.symm.trans hx309_1)
     rw [hv309_1] at ge309_1
     have HL309_1 := am (show Kd.R k54 54 _ _ _ _ ((rd_T52 t304 x5_1).vars) from ge309_1)
     clear hv309_1 ge309_1
     clear hcc309 hce309
     have HR309_1 := am hi309_1
     have HC309_1 := am hl309_1
     clear hi309_1 hl309_1
     replace p309 := eq_true p309
     replace q309 := eq_true q309
     have ea_ := Option.some.inj (hx307_1.symm.trans hx309_1)
     injection ea_ with ea_ en_ ec_
     subst ea_
     subst ec_
     clear en_
     go_wp2
     repeat (go_quiet (fail); try go_wp2)
     go_meet
     case rel => exact ⟨_, ((((rd_T52 t304 x5_1).place) != 0)), (by first | rfl | (simp; done) | (simp [*]; done)), H', ⟨by have := HK1.out; first | omega | exact Nat.le_refl _⟩, ⟨by (with_reducible repeat (first | apply Kd.S_alloc | apply Kd.S_drewN | apply Kd.S_drew)); exact HO_4.out⟩, ⟨by (with_reducible repeat (first | refine bN ?_ _ | refine bD ?_ | refine bA ?_ _)); exact BK301.out⟩, ⟨by repeat (first | (with_reducible first | exact HB.out | apply lA | apply lN | apply lD | refine lS ?_ GE301.out) | exact HB.out)⟩⟩
    rw [if_neg c19] at H
    have c19b0 : (x5_1 == 0) = false := beq_eq_false_iff_ne.mpr c19
    have c19b1 : (x5_1 != 0) = true := bne_iff_ne.mpr c19
    have H' := am H
    clear H
    have p307 : 0 ≤ (x5_1 : Int) := of_decide_eq_true (by first | (with_reducible assumption) | assumption)
    have q307 : x5_1 < (t304.length : Int) := of_decide_eq_true (by first | (with_reducible assumption) | assumption)
    obtain ⟨ad307, A307_1, c307_1, e307, hx307_0, hx307_1, hl307_1, hi307_1⟩ := at_T52 (Kd.S_reads' HO_4.out).2.2 x5_1 p307 q307
    cases e307
    obtain ⟨ce307, hce307, hMe307, hcc307⟩ := Kd.S_get HO_4.out z52 x5_1 p307 (by first | exact q307 | exact of_decide_eq_true (by first | (with_reducible assumption) | assumption) | (have e_ := (Kd.S_reads' HO_4.out).1; omega))
    obtain ⟨ve307_1, rfl, ge307_1⟩ := k52_openM hMe307
    have hv307_1 := hcc307 1 _ rfl
    rw [add_field _ _ 1 (by omega)] at hv307_1
    replace hv307_1 := Option.some.inj (hv307_1.symm.trans hx307_1)
    rw [hv307_1] at ge307_1
    have HL307_1 := am (show Kd.R k54 54 _ _ _ _ ((rd_T52 t304 x5_1).vars) from ge307_1)
    clear hv307_1 ge307_1
    clear hcc307 hce307
    have HR307_1 := am hi307_1
    have HC307_1 := am hl307_1
    clear hi307_1 hl307_1
    replace p307 := eq_true p307
    replace q307 := eq_true q307
    have p308 : 0 ≤ (x5_1 : Int) := of_decide_eq_true (by first | (with_reducible assumption) | assumption)
    have q308 : x5_1 < (t304.length : Int) := of_decide_eq_true (by first | (with_reducible assumption) | assumption)
    obtain ⟨ad308, A308_1, c308_1, e308, hx308_0, hx308_1, hl308_1, hi308_1⟩ := at_T52 (Kd.S_reads' HO_4.out).2.2 x5_1 p308 q308
    obtain rfl : ad307 = ad308 := (by injection e308)
    obtain ⟨ce308, hce308, hMe308, hcc308⟩ := Kd.S_get HO_4.out z52 x5_1 p308 (by first | exact q308 | exact of_decide_eq_true (by first | (with_reducible assumption) | assumption) | (have e_ := (Kd.S_reads' HO_4.out).1; omega))
    obtain ⟨ve308_1, rfl, ge308_1⟩ := k52_openM hMe308
    have hv308_1 := hcc308 1 _ rfl
    rw [add_field _ _ 1 (by omega)] at hv308_1
    replace hv308_1 := Option.some.inj (hv308_1.symm.trans hx308_1)
    rw [hv308_1] at ge308_1
    have HL308_1 := am (show Kd.R k54 54 _ _ _ _ ((rd_T52 t304 x5_1).vars) from ge308_1)
    clear hv308_1 ge308_1
    clear hcc308 hce308
    have HR308_1 := am hi308_1
    have HC308_1 := am hl308_1
    clear hi308_1 hl308_1
    replace p308 := eq_true p308
    replace q308 := eq_true q308
    have ea_ := Option.some.inj (hx307_1.symm.trans hx308_1)
    injection ea_ with ea_ en_ ec_
    subst ea_
    subst ec_
    clear en_
    have hcz21_0 : wr.cell? ⟨gb301, 0, none⟩ = some (.slice A0_0 l0_0.length c0_0) := (blk_cell BK301.out 0).trans rfl
    have hcz21_1 : wr.cell? ⟨gb301, 1, none⟩ = some (.slice A0_1 l0_1.length c0_1) := (blk_cell BK301.out 1).trans rfl
    have hcz21_2 : wr.cell? ⟨gb301, 2, none⟩ = some (.slice A0_2 l0_2.length c0_2) := (blk_cell BK301.out 2).trans rfl
    have hcz21_3 : wr.cell? ⟨gb301, 3, none⟩ = some (.int .i64 a0_3) := (blk_cell BK301.out 3).trans rfl
    have hfz21_0 := blk_frozen BK301.out 0
    have hfz21_1 := blk_frozen BK301.out 1
    have hfz21_2 := blk_frozen BK301.out 2
    have hfz21_3 := blk_frozen BK301.out 3
    go_wp2
    repeat (go_quiet (fail); try go_wp2)
    go_meet
    case rel => exact ⟨_, (false), (by first | rfl | (simp; done) | (simp [*]; done)), H', ⟨by have := HK1.out; first | omega | exact Nat.le_refl _⟩, ⟨by (with_reducible repeat (first | apply Kd.S_alloc | apply Kd.S_drewN | apply Kd.S_drew)); exact HO_4.out⟩, ⟨by (with_reducible repeat (first | refine bN ?_ _ | refine bD ?_ | refine bA ?_ _)); exact BK301.out⟩, ⟨by repeat (first | (with_reducible first | exact HB.out | apply lA | apply lN | apply lD | refine lS ?_ GE301.out) | exact HB.out)⟩⟩
   case rest =>
    clear HC13
    try clear c1
    try clear p2
    try clear c3
    try clear p3
    try clear q3
    try clear hx3
    try clear c4
    try clear c10
    try clear c12
    try clear c12b0
    try clear c15
    try clear c15b0
    try clear c16
    try clear c16b0
    try clear c17
    try clear c17b0
    try clear c19
    try clear c19b0
    try clear c19b1
    try clear hcz10_0
    try clear hcz10_1
    try clear hcz10_2
    try clear hcz10_3
    try clear hcz18_0
    try clear hcz18_1
    try clear hcz18_2
    try clear hcz18_3
    try clear hcz20_0
    try clear hcz20_1
    try clear hcz20_2
    try clear hcz20_3
    try clear hcz21_0
    try clear hcz21_1
    try clear hcz21_2
    try clear hcz21_3
    try clear hcz8_0
    try clear hcz8_1
    try clear hcz8_2
    try clear hcz8_3
    try clear hfz10_0
    try clear hfz10_1
    try clear hfz10_2
    try clear hfz10_3
    try clear hfz18_0
    try clear hfz18_1
    try clear hfz18_2
    try clear hfz18_3
    try clear hfz20_0
    try clear hfz20_1
    try clear hfz20_2
    try clear hfz20_3
    try clear hfz21_0
    try clear hfz21_1
    try clear hfz21_2
    try clear hfz21_3
    try clear hfz8_0
    try clear hfz8_1
    try clear hfz8_2
    try clear hfz8_3
    try clear hx307_0
    try clear hx307_1
    try clear hx308_0
    try clear hx308_1
    try clear hx309_0
    try clear hx309_1
    try clear p2
    try clear p307
    try clear p308
    try clear p309
    try clear q307
    try clear q308
    try clear q309
    obtain ⟨kq, x63_12, rfl, HA, HJ12, HO_4, BK301, HB⟩ := hcut
    cases kq with
    | zero => exact absurd HA.out (by simp [lambrequinlaw22_InterpSteps.j1])
    | succ kj12 =>
     have H := HA.out
     clear HA
     simp only [lambrequinlaw22_InterpSteps.j1] at H
     as_aux_lemma =>
     by_cases c22 : x63_12 = true
     ·subst c22
      have H1 : (some false) = some r := by rw [if_pos rfl] at H; exact H
      clear H
      have H := H1
      clear H1
      obtain rfl := Option.some.inj H
      go_wp2
      repeat (go_quiet (fail); try go_wp2)
      go_ret
      exact ⟨by first | rfl | (simp [errW_none, errW_some] <;> rfl) | (simp [*, errW_none, errW_some] <;> rfl), by repeat (first | (with_reducible first | exact HB.out | apply lA | apply lN | apply lD | refine lS ?_ GE301.out) | exact HB.out)⟩
     replace c22 := Bool.eq_false_iff.mpr c22
     subst c22
     have H1 : (if x5_1 = 0 then (lambrequinlaw22_InterpSteps.l0 kj12 t302 t304 (wrap64 (x5_1 + 1)) l0_0 l0_1 l0_2 a0_3) else (if 0 ≤ (wrap64 (x5_1 - 1)) then (if (wrap64 (x5_1 - 1)) < (t304.length : Int) then ((cfg_Next.f l0_0 ((rd_T52 t304 (wrap64 (x5_1 - 1))).place)).bind fun t311 => (lambrequinlaw22_InterpSteps.l1 kj12 t302 t304 x5_1 ((rd_T52 t304 (wrap64 (x5_1 - 1))).place) false t311 0 l0_0 l0_1 l0_2 a0_3)) else (none)) else (none))) = some r := by rw [if_neg (show ¬ (false = true) by decide)] at H; exact H
     clear H
     have H := H1
     clear H1
     as_aux_lemma =>
     by_cases c23 : x5_1 = 0
     ·rw [if_pos c23] at H
      have c23b0 : (x5_1 == 0) = true := beq_iff_eq.mpr c23
      have c23b1 : (x5_1 != 0) = false := bne_eq_false_iff_eq.mpr c23
      clear c23
      have H' := am H
      clear H
      go_wp2
      repeat (go_quiet (fail); try go_wp2)
      go_roundg kj12
      case measure => have := HK1.out; have := HJ12.out; omega
      case rel => exact ⟨(wrap64 (x5_1 + 1)), (by first | rfl | (simp; done) | (simp [*]; done)), H', ⟨by have := HK1.out; have := HJ12.out; omega⟩, ⟨by (with_reducible repeat (first | apply Kd.S_alloc | apply Kd.S_drewN | apply Kd.S_drew)); exact HO_4.out⟩, ⟨by (with_reducible repeat (first | refine bN ?_ _ | refine bD ?_ | refine bA ?_ _)); exact BK301.out⟩, ⟨by repeat (first | (with_reducible first | exact HB.out | apply lA | apply lN | apply lD | refine lS ?_ GE301.out) | exact HB.out)⟩⟩
     rw [if_neg c23] at H
     have c23b0 : (x5_1 == 0) = false := beq_eq_false_iff_ne.mpr c23
     have c23b1 : (x5_1 != 0) = true := bne_iff_ne.mpr c23
     obtain ⟨ji24, hji24⟩ : ∃ j_ : Int, (wrap64 (x5_1 - 1)) = j_ := ⟨_, rfl⟩
     replace H : (if 0 ≤ (ji24) then (if (ji24) < (t304.length : Int) then ((cfg_Next.f l0_0 ((rd_T52 t304 (ji24)).place)).bind fun t311 => (lambrequinlaw22_InterpSteps.l1 kj12 t302 t304 x5_1 ((rd_T52 t304 (ji24)).place) false t311 0 l0_0 l0_1 l0_2 a0_3)) else (none)) else (none)) = some r := by first | (rw [hji24] at H; exact H) | (simp only [hji24] at H ⊢; exact H)
     have hji24w : (IntKind.i64.wrap (x5_1 - 1)) = ji24 := (i64_w _).trans hji24
     as_aux_lemma =>
     by_cases c25 : 0 ≤ (ji24)
     rotate_left
     ·rw [if_neg c25] at H
      exact absurd H (by simp)
     rw [if_pos c25] at H
     have c25b0 : decide (0 ≤ (ji24)) = true := decide_eq_true c25
     clear c25
     as_aux_lemma =>
     by_cases c26 : (ji24) < (t304.length : Int)
     rotate_left
     ·rw [if_neg c26] at H
      exact absurd H (by simp)
     rw [if_pos c26] at H
     have c26b0 : decide ((ji24) < (t304.length : Int)) = true := decide_eq_true c26
     clear c26
     replace H := Option.bind_eq_some_iff.mp H
     obtain ⟨t311, A270, H⟩ := H
     replace H : (lambrequinlaw22_InterpSteps.l1 kj12 t302 t304 x5_1 ((rd_T52 t304 (ji24)).place) false t311 0 l0_0 l0_1 l0_2 a0_3) = some r := H
     have A27 := am A270
     clear A270
     have H' := am H
     clear H
     have p310 : 0 ≤ ((ji24) : Int) := of_decide_eq_true (by first | (with_reducible assumption) | assumption)
     have q310 : (ji24) < (t304.length : Int) := of_decide_eq_true (by first | (with_reducible assumption) | assumption)
     obtain ⟨ad310, A310_1, c310_1, e310, hx310_0, hx310_1, hl310_1, hi310_1⟩ := at_T52 (Kd.S_reads' HO_4.out).2.2 (ji24) p310 q310
     cases e310
     obtain ⟨ce310, hce310, hMe310, hcc310⟩ := Kd.S_get HO_4.out z52 (ji24) p310 (by first | exact q310 | exact of_decide_eq_true (by first | (with_reducible assumption) | assumption) | (have e_ := (Kd.S_reads' HO_4.out).1; omega))
     obtain ⟨ve310_1, rfl, ge310_1⟩ := k52_openM hMe310
     have hv310_1 := hcc310 1 _ rfl
     rw [add_field _ _ 1 (by omega)] at hv310_1
     replace hv310_1 := Option.some.inj (hv310_1.symm.trans hx310_1)
     rw [hv310_1] at ge310_1
     have HL310_1 := am (show Kd.R k54 54 _ _ _ _ ((rd_T52 t304 (ji24)).vars) from ge310_1)
     clear hv310_1 ge310_1
     clear hcc310 hce310
     have HR310_1 := am hi310_1
     have HC310_1 := am hl310_1
     clear hi310_1 hl310_1
     replace p310 := eq_true p310
     replace q310 := eq_true q310
     have hcz28_0 : wc.cell? ⟨gb301, 0, none⟩ = some (.slice A0_0 l0_0.length c0_0) := (blk_cell BK301.out 0).trans rfl
     have hcz28_1 : wc.cell? ⟨gb301, 1, none⟩ = some (.slice A0_1 l0_1.length c0_1) := (blk_cell BK301.out 1).trans rfl
     have hcz28_2 : wc.cell? ⟨gb301, 2, none⟩ = some (.slice A0_2 l0_2.length c0_2) := (blk_cell BK301.out 2).trans rfl
     have hcz28_3 : wc.cell? ⟨gb301, 3, none⟩ = some (.int .i64 a0_3) := (blk_cell BK301.out 3).trans rfl
     have hfz28_0 := blk_frozen BK301.out 0
     have hfz28_1 := blk_frozen BK301.out 1
     have hfz28_2 := blk_frozen BK301.out 2
     have hfz28_3 := blk_frozen BK301.out 3
     go_wp2_with (first | (go_at_call 19; (with_reducible refine (cfg_Next.calls _ _ l0_0 ((rd_T52 t304 (ji24)).place) t311 _ ?side1 ?side2 A27.out).mono ?_); (case side1 => repeat (first | exact (Kd.C_below HR0_0.out HB.out) | (with_reducible refine Kd.C_alloc ?_ _) | (with_reducible refine Kd.C_drewN ?_ _) | (with_reducible refine Kd.C_drew ?_))); (case side2 => exact HC0_0.out); rintro e w29 ⟨v312, rfl, ho0, hb⟩; replace HO_4 := am (Kd.S_below (by (with_reducible repeat (first | apply Kd.S_alloc | apply Kd.S_drewN | apply Kd.S_drew)); exact HO_4.out) hb); replace HL310_1 := am (Kd.R_below (by (with_reducible repeat (first | apply Ra | apply Rn | apply Rd)); exact HL310_1.out) hb); have HO313 := am (Kd.R_lower ho0 (below_size (by repeat (first | (with_reducible first | exact HB.out | apply lA | apply lN | apply lD | refine lS ?_ GE301.out) | exact HB.out)))); replace BK301 := am (blk_below (g := gb301) (o := .cells #[.slice A0_0 l0_0.length c0_0, .slice A0_1 l0_1.length c0_1, .slice A0_2 l0_2.length c0_2, .int .i64 a0_3] 43 (0, 0)) (by (with_reducible repeat (first | refine bN ?_ _ | refine bD ?_ | refine bA ?_ _)); exact BK301.out) hb); replace HR310_1 := am (Kd.C_below (by repeat (first | (with_reducible exact HR310_1.out) | (with_reducible refine Kd.C_alloc ?_ _) | (with_reducible refine Kd.C_drewN ?_ _) | (with_reducible refine Kd.C_drew ?_) | exact HR310_1.out)) hb); replace HB := am (below_step (by repeat (first | (with_reducible first | exact HB.out | apply lA | apply lN | apply lD | refine lS ?_ GE301.out) | exact HB.out)) hb); (try clear hb); (try clear hb2); (try clear hk); (try clear hi); (try clear ho0)))
     repeat (go_quiet (first | (go_at_call 19; (with_reducible refine (cfg_Next.calls _ _ l0_0 ((rd_T52 t304 (ji24)).place) t311 _ ?side1 ?side2 A27.out).mono ?_); (case side1 => repeat (first | exact (Kd.C_below HR0_0.out HB.out) | (with_reducible refine Kd.C_alloc ?_ _) | (with_reducible refine Kd.C_drewN ?_ _) | (with_reducible refine Kd.C_drew ?_))); (case side2 => exact HC0_0.out); rintro e w29 ⟨v312, rfl, ho0, hb⟩; replace HO_4 := am (Kd.S_below (by (with_reducible repeat (first | apply Kd.S_alloc | apply Kd.S_drewN | apply Kd.S_drew)); exact HO_4.out) hb); replace HL310_1 := am (Kd.R_below (by (with_reducible repeat (first | apply Ra | apply Rn | apply Rd)); exact HL310_1.out) hb); have HO313 := am (Kd.R_lower ho0 (below_size (by repeat (first | (with_reducible first | exact HB.out | apply lA | apply lN | apply lD | refine lS ?_ GE301.out) | exact HB.out)))); replace BK301 := am (blk_below (g := gb301) (o := .cells #[.slice A0_0 l0_0.length c0_0, .slice A0_1 l0_1.length c0_1, .slice A0_2 l0_2.length c0_2, .int .i64 a0_3] 43 (0, 0)) (by (with_reducible repeat (first | refine bN ?_ _ | refine bD ?_ | refine bA ?_ _)); exact BK301.out) hb); replace HR310_1 := am (Kd.C_below (by repeat (first | (with_reducible exact HR310_1.out) | (with_reducible refine Kd.C_alloc ?_ _) | (with_reducible refine Kd.C_drewN ?_ _) | (with_reducible refine Kd.C_drew ?_) | exact HR310_1.out)) hb); replace HB := am (below_step (by repeat (first | (with_reducible first | exact HB.out | apply lA | apply lN | apply lD | refine lS ?_ GE301.out) | exact HB.out)) hb); (try clear hb); (try clear hb2); (try clear hk); (try clear hi); (try clear ho0))); try go_wp2_with (first | (go_at_call 19; (with_reducible refine (cfg_Next.calls _ _ l0_0 ((rd_T52 t304 (ji24)).place) t311 _ ?side1 ?side2 A27.out).mono ?_); (case side1 => repeat (first | exact (Kd.C_below HR0_0.out HB.out) | (with_reducible refine Kd.C_alloc ?_ _) | (with_reducible refine Kd.C_drewN ?_ _) | (with_reducible refine Kd.C_drew ?_))); (case side2 => exact HC0_0.out); rintro e w29 ⟨v312, rfl, ho0, hb⟩; replace HO_4 := am (Kd.S_below (by (with_reducible repeat (first | apply Kd.S_alloc | apply Kd.S_drewN | apply Kd.S_drew)); exact HO_4.out) hb); replace HL310_1 := am (Kd.R_below (by (with_reducible repeat (first | apply Ra | apply Rn | apply Rd)); exact HL310_1.out) hb); have HO313 := am (Kd.R_lower ho0 (below_size (by repeat (first | (with_reducible first | exact HB.out | apply lA | apply lN | apply lD | refine lS ?_ GE301.out) | exact HB.out)))); replace BK301 := am (blk_below (g := gb301) (o := .cells #[.slice A0_0 l0_0.length c0_0, .slice A0_1 l0_1.length c0_1, .slice A0_2 l0_2.length c0_2, .int .i64 a0_3] 43 (0, 0)) (by (with_reducible repeat (first | refine bN ?_ _ | refine bD ?_ | refine bA ?_ _)); exact BK301.out) hb); replace HR310_1 := am (Kd.C_below (by repeat (first | (with_reducible exact HR310_1.out) | (with_reducible refine Kd.C_alloc ?_ _) | (with_reducible refine Kd.C_drewN ?_ _) | (with_reducible refine Kd.C_drew ?_) | exact HR310_1.out)) hb); replace HB := am (below_step (by repeat (first | (with_reducible first | exact HB.out | apply lA | apply lN | apply lD | refine lS ?_ GE301.out) | exact HB.out)) hb); (try clear hb); (try clear hb2); (try clear hk); (try clear hi); (try clear ho0))))
     go_loopg [7, 9] kj12 (fun kq v7 v9 w' => ∃ (x7_3 : Bool) (x9_3 : Int), v7 = .bool x7_3 ∧ v9 = .int .i64 x9_3 ∧ Aside0 (lambrequinlaw22_InterpSteps.l1 kq t302 t304 x5_1 ((rd_T52 t304 (ji24)).place) x7_3 t311 x9_3 l0_0 l0_1 l0_2 a0_3 = some r) ∧ Aside0 (kq ≤ kj12) ∧ Aside0 (Kd.S k52 52 w' w.heap.size (fun _ => True) (.slice (some ad310) t304.length co14) t304) ∧ Aside0 (Kd.R (Kd.int .i64) 3 w' w.heap.size (fun _ => True) v312 t311) ∧ Aside0 (w'.heap[gb301]? = some (.cells #[(.slice A0_0 l0_0.length c0_0), (.slice A0_1 l0_1.length c0_1), (.slice A0_2 l0_2.length c0_2), .int .i64 a0_3] 43 (0, 0))) ∧ Aside0 (Kd.C k54 w' A310_1 ((rd_T52 t304 (ji24)).vars).length ((rd_T52 t304 (ji24)).vars)) ∧ Aside0 (Below w.heap.size w w'))
     case atStart => exact ⟨(false), (0), (by first | rfl | (simp; done) | (simp [*]; done)), (by first | rfl | (simp; done) | (simp [*]; done)), H', ⟨Nat.le_refl _⟩, ⟨by (with_reducible repeat (first | apply Kd.S_alloc | apply Kd.S_drewN | apply Kd.S_drew)); exact HO_4.out⟩, ⟨by (with_reducible repeat (first | apply Ra | apply Rn | apply Rd)); exact HO313.out⟩, ⟨by (with_reducible repeat (first | refine bN ?_ _ | refine bD ?_ | refine bA ?_ _)); exact BK301.out⟩, ⟨by repeat (first | (with_reducible exact HR310_1.out) | (with_reducible refine Kd.C_alloc ?_ _) | (with_reducible refine Kd.C_drewN ?_ _) | (with_reducible refine Kd.C_drew ?_) | exact HR310_1.out)⟩, ⟨by repeat (first | (with_reducible first | exact HB.out | apply lA | apply lN | apply lD | refine lS ?_ GE301.out) | exact HB.out)⟩⟩
     case round =>
      clear H'
      try clear c1
      try clear c2
      try clear p2
      try clear c3
      try clear p3
      try clear q3
      try clear hx3
      try clear c4
      try clear p6
      try clear c10
      try clear c12
      try clear c12b0
      try clear c15
      try clear c15b0
      try clear c16
      try clear c16b0
      try clear c17
      try clear c17b0
      try clear c19
      try clear c19b0
      try clear c19b1
      try clear c22
      try clear c23
      try clear c23b0
      try clear c23b1
      try clear c25
      try clear c25b0
      try clear c26
      try clear c26b0
      try clear hcz10_0
      try clear hcz10_1
      try clear hcz10_2
      try clear hcz10_3
      try clear hcz18_0
      try clear hcz18_1
      try clear hcz18_2
      try clear hcz18_3
      try clear hcz20_0
      try clear hcz20_1
      try clear hcz20_2
      try clear hcz20_3
      try clear hcz21_0
      try clear hcz21_1
      try clear hcz21_2
      try clear hcz21_3
      try clear hcz28_0
      try clear hcz28_1
      try clear hcz28_2
      try clear hcz28_3
      try clear hcz8_0
      try clear hcz8_1
      try clear hcz8_2
      try clear hcz8_3
      try clear hfz10_0
      try clear hfz10_1
      try clear hfz10_2
      try clear hfz10_3
      try clear hfz18_0
      try clear hfz18_1
      try clear hfz18_2
      try clear hfz18_3
      try clear hfz20_0
      try clear hfz20_1
      try clear hfz20_2
      try clear hfz20_3
      try clear hfz21_0
      try clear hfz21_1
      try clear hfz21_2
      try clear hfz21_3
      try clear hfz28_0
      try clear hfz28_1
      try clear hfz28_2
      try clear hfz28_3
      try clear hfz8_0
      try clear hfz8_1
      try clear hfz8_2
      try clear hfz8_3
      try clear hx307_0
      try clear hx307_1
      try clear hx308_0
      try clear hx308_1
      try clear hx309_0
      try clear hx309_1
      try clear hx310_0
      try clear hx310_1
      try clear p2
      try clear p3
      try clear p307
      try clear p308
      try clear p309
      try clear p310
      try clear q3
      try clear q307
      try clear q308
      try clear q309
      try clear q310
      obtain ⟨x7_3, x9_3, rfl, rfl, HA, HK3, HO_4, HO_8, BK301, HR310_1, HB⟩ := hrel
      cases gk with
      | zero => exact absurd HA.out (by simp [lambrequinlaw22_InterpSteps.l1])
      | succ k3 =>
       have H := HA.out
       clear HA
       simp only [lambrequinlaw22_InterpSteps.l1] at H
       as_aux_lemma =>
       by_cases c30 : x9_3 < (t311.length : Int)
       ·rw [if_pos c30] at H
        have c30b0 : decide (x9_3 < (t311.length : Int)) = true := decide_eq_true c30
        clear c30
        by_cases c31 : x7_3 = true
        ·subst c31
         have H1 : (lambrequinlaw22_InterpSteps.l1 k3 t302 t304 x5_1 ((rd_T52 t304 (ji24)).place) true t311 (wrap64 (x9_3 + 1)) l0_0 l0_1 l0_2 a0_3) = some r := by rw [if_pos rfl] at H; exact H
         clear H
         have H := H1
         clear H1
         have H' := am H
         clear H
         obtain ⟨Ao32, co32, eo32⟩ := Kd.R_slice HO_8.out
         subst eo32
         go_wp2
         repeat (go_quiet (fail); try go_wp2)
         go_roundg k3
         case measure => have := HK1.out; have := HJ12.out; have := HK3.out; omega
         case rel => exact ⟨(true), (wrap64 (x9_3 + 1)), (by first | rfl | (simp; done) | (simp [*]; done)), (by first | rfl | (simp; done) | (simp [*]; done)), H', ⟨by have := HK1.out; have := HJ12.out; have := HK3.out; omega⟩, ⟨by (with_reducible repeat (first | apply Kd.S_alloc | apply Kd.S_drewN | apply Kd.S_drew)); exact HO_4.out⟩, ⟨by (with_reducible repeat (first | apply Ra | apply Rn | apply Rd)); exact HO_8.out⟩, ⟨by (with_reducible repeat (first | refine bN ?_ _ | refine bD ?_ | refine bA ?_ _)); exact BK301.out⟩, ⟨by repeat (first | (with_reducible exact HR310_1.out) | (with_reducible refine Kd.C_alloc ?_ _) | (with_reducible refine Kd.C_drewN ?_ _) | (with_reducible refine Kd.C_drew ?_) | exact HR310_1.out)⟩, ⟨by repeat (first | (with_reducible first | exact HB.out | apply lA | apply lN | apply lD | refine lS ?_ GE301.out) | exact HB.out)⟩⟩
        replace c31 := Bool.eq_false_iff.mpr c31
        subst c31
        have H1 : (if 0 ≤ x9_3 then (if 0 ≤ x5_1 then (if x5_1 < (t304.length : Int) then (lambrequinlaw22_InterpSteps.l1 k3 t302 t304 x5_1 ((rd_T52 t304 (ji24)).place) ((rd t311 x9_3) == ((rd_T52 t304 x5_1).place)) t311 (wrap64 (x9_3 + 1)) l0_0 l0_1 l0_2 a0_3) else (none)) else (none)) else (none)) = some r := by rw [if_neg (show ¬ (false = true) by decide)] at H; exact H
        clear H
        have H := H1
        clear H1
        by_cases c33 : 0 ≤ x9_3
        rotate_left
        ·rw [if_neg c33] at H
         exact absurd H (by simp)
        rw [if_pos c33] at H
        have c33b0 : decide (0 ≤ x9_3) = true := decide_eq_true c33
        clear c33
        by_cases c34 : 0 ≤ x5_1
        rotate_left
        ·rw [if_neg c34] at H
         exact absurd H (by simp)
        rw [if_pos c34] at H
        have c34b0 : decide (0 ≤ x5_1) = true := decide_eq_true c34
        clear c34
        by_cases c35 : x5_1 < (t304.length : Int)
        rotate_left
        ·rw [if_neg c35] at H
         exact absurd H (by simp)
        rw [if_pos c35] at H
        have c35b0 : decide (x5_1 < (t304.length : Int)) = true := decide_eq_true c35
        clear c35
        have H' := am H
        clear H
        obtain ⟨Ao36, co36, eo36⟩ := Kd.R_slice HO_8.out
        subst eo36
        have p314 : 0 ≤ (x9_3 : Int) := of_decide_eq_true (by first | (with_reducible assumption) | assumption)
        have q314 : x9_3 < (t311.length : Int) := of_decide_eq_true (by first | (with_reducible assumption) | assumption)
        obtain ⟨ad314, e314, hx314_0⟩ := Kd.at_int (Kd.R_reads' HO_8.out).2.2 x9_3 p314 q314
        cases e314
        replace p314 := eq_true p314
        replace q314 := eq_true q314
        have p315 : 0 ≤ (x5_1 : Int) := of_decide_eq_true (by first | (with_reducible assumption) | assumption)
        have q315 : x5_1 < (t304.length : Int) := of_decide_eq_true (by first | (with_reducible assumption) | assumption)
        obtain ⟨ad315, A315_1, c315_1, e315, hx315_0, hx315_1, hl315_1, hi315_1⟩ := at_T52 (Kd.S_reads' HO_4.out).2.2 x5_1 p315 q315
        obtain rfl : ad310 = ad315 := (by injection e315)
        obtain ⟨ce315, hce315, hMe315, hcc315⟩ := Kd.S_get HO_4.out z52 x5_1 p315 (by first | exact q315 | exact of_decide_eq_true (by first | (with_reducible assumption) | assumption) | (have e_ := (Kd.S_reads' HO_4.out).1; omega))
        obtain ⟨ve315_1, rfl, ge315_1⟩ := k52_openM hMe315
        have hv315_1 := hcc315 1 _ rfl
        rw [add_field _ _ 1 (by omega)] at hv315_1
        replace hv315_1 := Option.some.inj (hv315_1.symm.trans hx315_1)
        rw [hv315_1] at ge315_1
        have HL315_1 := am (show Kd.R k54 54 _ _ _ _ ((rd_T52 t304 x5_1).vars) from ge315_1)
        clear hv315_1 ge315_1
        clear hcc315 hce315
        have HR315_1 := am hi315_1
        have HC315_1 := am hl315_1
        clear hi315_1 hl315_1
        replace p315 := eq_true p315
        replace q315 := eq_true q315
        go_wp2
        repeat (go_quiet (fail); try go_wp2)
        go_roundg k3
        case measure => have := HK1.out; have := HJ12.out; have := HK3.out; omega
        case rel => exact ⟨(((rd t311 x9_3) == ((rd_T52 t304 x5_1).place))), (wrap64 (x9_3 + 1)), (by first | rfl | (simp; done) | (simp [*]; done)), (by first | rfl | (simp; done) | (simp [*]; done)), H', ⟨by have := HK1.out; have := HJ12.out; have := HK3.out; omega⟩, ⟨by (with_reducible repeat (first | apply Kd.S_alloc | apply Kd.S_drewN | apply Kd.S_drew)); exact HO_4.out⟩, ⟨by (with_reducible repeat (first | apply Ra | apply Rn | apply Rd)); exact HO_8.out⟩, ⟨by (with_reducible repeat (first | refine bN ?_ _ | refine bD ?_ | refine bA ?_ _)); exact BK301.out⟩, ⟨by repeat (first | (with_reducible exact HR310_1.out) | (with_reducible refine Kd.C_alloc ?_ _) | (with_reducible refine Kd.C_drewN ?_ _) | (with_reducible refine Kd.C_drew ?_) | exact HR310_1.out)⟩, ⟨by repeat (first | (with_reducible first | exact HB.out | apply lA | apply lN | apply lD | refine lS ?_ GE301.out) | exact HB.out)⟩⟩
       rw [if_neg c30] at H
       have c30b0 : decide (x9_3 < (t311.length : Int)) = false := decide_eq_false c30
       clear c30
       as_aux_lemma =>
       by_cases c37 : 0 ≤ ((rd_T52 t304 (ji24)).place)
       rotate_left
       ·rw [if_neg c37] at H
        exact absurd H (by simp)
       rw [if_pos c37] at H
       have c37b0 : decide (0 ≤ ((rd_T52 t304 (ji24)).place)) = true := decide_eq_true c37
       clear c37
       as_aux_lemma =>
       by_cases c38 : ((rd_T52 t304 (ji24)).place) < (l0_0.length : Int)
       rotate_left
       ·rw [if_neg c38] at H
        exact absurd H (by simp)
       rw [if_pos c38] at H
       have c38b0 : decide (((rd_T52 t304 (ji24)).place) < (l0_0.length : Int)) = true := decide_eq_true c38
       clear c38
       replace H := Option.bind_eq_some_iff.mp H
       obtain ⟨⟨t317, t318⟩, A390, H⟩ := H
       replace H : (if x7_3 = true then (if 0 ≤ x5_1 then (if x5_1 < (t304.length : Int) then (if 0 ≤ (wrap64 (x5_1 - 1)) then (if (wrap64 (x5_1 - 1)) < (t304.length : Int) then (lambrequinlaw22_InterpSteps.j3 k3 t302 t304 x5_1 ((rd_T52 t304 (ji24)).place) t317 t318 ((((rd_T52 t304 x5_1).vars).length : Int) != (((rd_T52 t304 (wrap64 (x5_1 - 1))).vars).length : Int)) l0_0 l0_1 l0_2 a0_3) else (none)) else (none)) else (none)) else (none)) else (lambrequinlaw22_InterpSteps.j3 k3 t302 t304 x5_1 ((rd_T52 t304 (ji24)).place) t317 t318 true l0_0 l0_1 l0_2 a0_3)) = some r := H
       have A39 := am A390
       clear A390
       have HC40 := am H
       clear H
       obtain ⟨Ao41, co41, eo41⟩ := Kd.R_slice HO_8.out
       subst eo41
       have hcz42_0 : wr.cell? ⟨gb301, 0, none⟩ = some (.slice A0_0 l0_0.length c0_0) := (blk_cell BK301.out 0).trans rfl
       have hcz42_1 : wr.cell? ⟨gb301, 1, none⟩ = some (.slice A0_1 l0_1.length c0_1) := (blk_cell BK301.out 1).trans rfl
       have hcz42_2 : wr.cell? ⟨gb301, 2, none⟩ = some (.slice A0_2 l0_2.length c0_2) := (blk_cell BK301.out 2).trans rfl
       have hcz42_3 : wr.cell? ⟨gb301, 3, none⟩ = some (.int .i64 a0_3) := (blk_cell BK301.out 3).trans rfl
       have hfz42_0 := blk_frozen BK301.out 0
       have hfz42_1 := blk_frozen BK301.out 1
       have hfz42_2 := blk_frozen BK301.out 2
       have hfz42_3 := blk_frozen BK301.out 3
       have p316 : 0 ≤ (((rd_T52 t304 (ji24)).place) : Int) := of_decide_eq_true (by first | (with_reducible assumption) | assumption)
       have q316 : ((rd_T52 t304 (ji24)).place) < (l0_0.length : Int) := of_decide_eq_true (by first | (with_reducible assumption) | assumption)
       obtain ⟨ad316, e316, hx316_0, hx316_1, hx316_2, hx316_3, hx316_4, hx316_5, hx316_6, hx316_7⟩ := at_T30 HR0_0.out ((rd_T52 t304 (ji24)).place) p316 q316
       cases e316
       replace hx316_0 := (HB.out.cell (blt_ hx316_0)).trans hx316_0
       replace hx316_1 := (HB.out.cell (blt_ hx316_1)).trans hx316_1
       replace hx316_2 := (HB.out.cell (blt_ hx316_2)).trans hx316_2
       replace hx316_3 := (HB.out.cell (blt_ hx316_3)).trans hx316_3
       replace hx316_4 := (HB.out.cell (blt_ hx316_4)).trans hx316_4
       replace hx316_5 := (HB.out.cell (blt_ hx316_5)).trans hx316_5
       replace hx316_6 := (HB.out.cell (blt_ hx316_6)).trans hx316_6
       replace hx316_7 := (HB.out.cell (blt_ hx316_7)).trans hx316_7
       replace p316 := eq_true p316
       replace q316 := eq_true q316
       go_upto_region 19 with (first | (go_at_call 20; (with_reducible refine (cfg_Def.calls ((rd_T30 l0_0 ((rd_T52 t304 (ji24)).place)).kind) ((rd_T30 l0_0 ((rd_T52 t304 (ji24)).place)).x) ((rd_T30 l0_0 ((rd_T52 t304 (ji24)).place)).y) ((rd_T30 l0_0 ((rd_T52 t304 (ji24)).place)).z) ((rd_T30 l0_0 ((rd_T52 t304 (ji24)).place)).op) ((rd_T30 l0_0 ((rd_T52 t304 (ji24)).place)).n) ((rd_T30 l0_0 ((rd_T52 t304 (ji24)).place)).a) ((rd_T30 l0_0 ((rd_T52 t304 (ji24)).place)).b) t317 t318 _ A39.out).mono ?_); rintro e w43 ⟨rfl, hb⟩; replace HO_4 := am (Kd.S_below (by (with_reducible repeat (first | apply Kd.S_alloc | apply Kd.S_drewN | apply Kd.S_drew)); exact HO_4.out) hb); replace HO_8 := am (Kd.R_below (by (with_reducible repeat (first | apply Ra | apply Rn | apply Rd)); exact HO_8.out) hb); replace BK301 := am (blk_below (g := gb301) (o := .cells #[.slice (some ad316) l0_0.length c0_0, .slice A0_1 l0_1.length c0_1, .slice A0_2 l0_2.length c0_2, .int .i64 a0_3] 43 (0, 0)) (by (with_reducible repeat (first | refine bN ?_ _ | refine bD ?_ | refine bA ?_ _)); exact BK301.out) hb); replace HR310_1 := am (Kd.C_below (by repeat (first | (with_reducible exact HR310_1.out) | (with_reducible refine Kd.C_alloc ?_ _) | (with_reducible refine Kd.C_drewN ?_ _) | (with_reducible refine Kd.C_drew ?_) | exact HR310_1.out)) hb); replace HB := am (below_step (by repeat (first | (with_reducible first | exact HB.out | apply lA | apply lN | apply lD | refine lS ?_ GE301.out) | exact HB.out)) hb); (try clear hb); (try clear hb2); (try clear hk); (try clear hi)))
       repeat (go_quiet (first | (go_at_call 20; (with_reducible refine (cfg_Def.calls ((rd_T30 l0_0 ((rd_T52 t304 (ji24)).place)).kind) ((rd_T30 l0_0 ((rd_T52 t304 (ji24)).place)).x) ((rd_T30 l0_0 ((rd_T52 t304 (ji24)).place)).y) ((rd_T30 l0_0 ((rd_T52 t304 (ji24)).place)).z) ((rd_T30 l0_0 ((rd_T52 t304 (ji24)).place)).op) ((rd_T30 l0_0 ((rd_T52 t304 (ji24)).place)).n) ((rd_T30 l0_0 ((rd_T52 t304 (ji24)).place)).a) ((rd_T30 l0_0 ((rd_T52 t304 (ji24)).place)).b) t317 t318 _ A39.out).mono ?_); rintro e w43 ⟨rfl, hb⟩; replace HO_4 := am (Kd.S_below (by (with_reducible repeat (first | apply Kd.S_alloc | apply Kd.S_drewN | apply Kd.S_drew)); exact HO_4.out) hb); replace HO_8 := am (Kd.R_below (by (with_reducible repeat (first | apply Ra | apply Rn | apply Rd)); exact HO_8.out) hb); replace BK301 := am (blk_below (g := gb301) (o := .cells #[.slice (some ad316) l0_0.length c0_0, .slice A0_1 l0_1.length c0_1, .slice A0_2 l0_2.length c0_2, .int .i64 a0_3] 43 (0, 0)) (by (with_reducible repeat (first | refine bN ?_ _ | refine bD ?_ | refine bA ?_ _)); exact BK301.out) hb); replace HR310_1 := am (Kd.C_below (by repeat (first | (with_reducible exact HR310_1.out) | (with_reducible refine Kd.C_alloc ?_ _) | (with_reducible refine Kd.C_drewN ?_ _) | (with_reducible refine Kd.C_drew ?_) | exact HR310_1.out)) hb); replace HB := am (below_step (by repeat (first | (with_reducible first | exact HB.out | apply lA | apply lN | apply lD | refine lS ?_ GE301.out) | exact HB.out)) hb); (try clear hb); (try clear hb2); (try clear hk); (try clear hi))); go_upto_region 19 with (first | (go_at_call 20; (with_reducible refine (cfg_Def.calls ((rd_T30 l0_0 ((rd_T52 t304 (ji24)).place)).kind) ((rd_T30 l0_0 ((rd_T52 t304 (ji24)).place)).x) ((rd_T30 l0_0 ((rd_T52 t304 (ji24)).place)).y) ((rd_T30 l0_0 ((rd_T52 t304 (ji24)).place)).z) ((rd_T30 l0_0 ((rd_T52 t304 (ji24)).place)).op) ((rd_T30 l0_0 ((rd_T52 t304 (ji24)).place)).n) ((rd_T30 l0_0 ((rd_T52 t304 (ji24)).place)).a) ((rd_T30 l0_0 ((rd_T52 t304 (ji24)).place)).b) t317 t318 _ A39.out).mono ?_); rintro e w43 ⟨rfl, hb⟩; replace HO_4 := am (Kd.S_below (by (with_reducible repeat (first | apply Kd.S_alloc | apply Kd.S_drewN | apply Kd.S_drew)); exact HO_4.out) hb); replace HO_8 := am (Kd.R_below (by (with_reducible repeat (first | apply Ra | apply Rn | apply Rd)); exact HO_8.out) hb); replace BK301 := am (blk_below (g := gb301) (o := .cells #[.slice (some ad316) l0_0.length c0_0, .slice A0_1 l0_1.length c0_1, .slice A0_2 l0_2.length c0_2, .int .i64 a0_3] 43 (0, 0)) (by (with_reducible repeat (first | refine bN ?_ _ | refine bD ?_ | refine bA ?_ _)); exact BK301.out) hb); replace HR310_1 := am (Kd.C_below (by repeat (first | (with_reducible exact HR310_1.out) | (with_reducible refine Kd.C_alloc ?_ _) | (with_reducible refine Kd.C_drewN ?_ _) | (with_reducible refine Kd.C_drew ?_) | exact HR310_1.out)) hb); replace HB := am (below_step (by repeat (first | (with_reducible first | exact HB.out | apply lA | apply lN | apply lD | refine lS ?_ GE301.out) | exact HB.out)) hb); (try clear hb); (try clear hb2); (try clear hk); (try clear hi))))
       (try simp only [Act.put, List.setIfInBounds_toArray, List.set_cons_zero, List.set_cons_succ])
       go_cut [121] (fun v121 wc => ∃ (kq : Nat) (x121_39 : Bool), v121 = .bool x121_39 ∧ Aside0 (lambrequinlaw22_InterpSteps.j3 kq t302 t304 x5_1 ((rd_T52 t304 (ji24)).place) t317 t318 x121_39 l0_0 l0_1 l0_2 a0_3 = some r) ∧ Aside0 (kq ≤ k3) ∧ Aside0 (Kd.S k52 52 wc w.heap.size (fun _ => True) (.slice (some ad310) t304.length co14) t304) ∧ Aside0 (wc.heap[gb301]? = some (.cells #[(.slice (some ad316) l0_0.length c0_0), (.slice A0_1 l0_1.length c0_1), (.slice A0_2 l0_2.length c0_2), .int .i64 a0_3] 43 (0, 0))) ∧ Aside0 (Kd.C k54 wc A310_1 ((rd_T52 t304 (ji24)).vars).length ((rd_T52 t304 (ji24)).vars)) ∧ Aside0 (Below w.heap.size w wc))
       case first =>
        have H := HC40.out
        clear HC40
        by_cases c44 : x7_3 = true
        rotate_left
        ·replace c44 := Bool.eq_false_iff.mpr c44
         subst c44
         have H1 : (lambrequinlaw22_InterpSteps.j3 k3 t302 t304 x5_1 ((rd_T52 t304 (ji24)).place) t317 t318 true l0_0 l0_1 l0_2 a0_3) = some r := by rw [if_neg (show ¬ (false = true) by decide)] at H; exact H
         clear H
         have H := H1
         clear H1
         have H' := am H
         clear H
         go_wp2
         repeat (go_quiet (fail); try go_wp2)
         go_meet
         case rel => exact ⟨_, (true), (by first | rfl | (simp; done) | (simp [*]; done)), H', ⟨by have := HK1.out; have := HJ12.out; have := HK3.out; first | omega | exact Nat.le_refl _⟩, ⟨by (with_reducible repeat (first | apply Kd.S_alloc | apply Kd.S_drewN | apply Kd.S_drew)); exact HO_4.out⟩, ⟨by (with_reducible repeat (first | refine bN ?_ _ | refine bD ?_ | refine bA ?_ _)); exact BK301.out⟩, ⟨by repeat (first | (with_reducible exact HR310_1.out) | (with_reducible refine Kd.C_alloc ?_ _) | (with_reducible refine Kd.C_drewN ?_ _) | (with_reducible refine Kd.C_drew ?_) | exact HR310_1.out)⟩, ⟨by repeat (first | (with_reducible first | exact HB.out | apply lA | apply lN | apply lD | refine lS ?_ GE301.out) | exact HB.out)⟩⟩
        subst c44
        have H1 : (if 0 ≤ x5_1 then (if x5_1 < (t304.length : Int) then (if 0 ≤ (wrap64 (x5_1 - 1)) then (if (wrap64 (x5_1 - 1)) < (t304.length : Int) then (lambrequinlaw22_InterpSteps.j3 k3 t302 t304 x5_1 ((rd_T52 t304 (ji24)).place) t317 t318 ((((rd_T52 t304 x5_1).vars).length : Int) != (((rd_T52 t304 (wrap64 (x5_1 - 1))).vars).length : Int)) l0_0 l0_1 l0_2 a0_3) else (none)) else (none)) else (none)) else (none)) = some r := by rw [if_pos rfl] at H; exact H
        clear H
        have H := H1
        clear H1
        by_cases c45 : 0 ≤ x5_1
        rotate_left
        ·rw [if_neg c45] at H
         exact absurd H (by simp)
        rw [if_pos c45] at H
        have c45b0 : decide (0 ≤ x5_1) = true := decide_eq_true c45
        clear c45
        (first | rw [c45b0] | (simp only [i64_w, i32_w]; rw [c45b0]) | skip)
        by_cases c46 : x5_1 < (t304.length : Int)
        rotate_left
        ·rw [if_neg c46] at H
         exact absurd H (by simp)
        rw [if_pos c46] at H
        have c46b0 : decide (x5_1 < (t304.length : Int)) = true := decide_eq_true c46
        clear c46
        obtain ⟨ji47, hji47⟩ : ∃ j_ : Int, (wrap64 (x5_1 - 1)) = j_ := ⟨_, rfl⟩
        replace H : (if 0 ≤ (ji47) then (if (ji47) < (t304.length : Int) then (lambrequinlaw22_InterpSteps.j3 k3 t302 t304 x5_1 ((rd_T52 t304 (ji24)).place) t317 t318 ((((rd_T52 t304 x5_1).vars).length : Int) != (((rd_T52 t304 (ji47)).vars).length : Int)) l0_0 l0_1 l0_2 a0_3) else (none)) else (none)) = some r := by first | (rw [hji47] at H; exact H) | (simp only [hji47] at H ⊢; exact H)
        have hji47w : (IntKind.i64.wrap (x5_1 - 1)) = ji47 := (i64_w _).trans hji47
        (try clear hji24w)
        by_cases c48 : 0 ≤ (ji47)
        rotate_left
        ·rw [if_neg c48] at H
         exact absurd H (by simp)
        rw [if_pos c48] at H
        have c48b0 : decide (0 ≤ (ji47)) = true := decide_eq_true c48
        clear c48
        by_cases c49 : (ji47) < (t304.length : Int)
        rotate_left
        ·rw [if_neg c49] at H
         exact absurd H (by simp)
        rw [if_pos c49] at H
        have c49b0 : decide ((ji47) < (t304.length : Int)) = true := decide_eq_true c49
        clear c49
        have H' := am H
        clear H
        have p319 : 0 ≤ (x5_1 : Int) := of_decide_eq_true (by first | (with_reducible assumption) | assumption)
        have q319 : x5_1 < (t304.length : Int) := of_decide_eq_true (by first | (with_reducible assumption) | assumption)
        obtain ⟨ad319, A319_1, c319_1, e319, hx319_0, hx319_1, hl319_1, hi319_1⟩ := at_T52 (Kd.S_reads' HO_4.out).2.2 x5_1 p319 q319
        obtain rfl : ad310 = ad319 := (by injection e319)
        obtain ⟨ce319, hce319, hMe319, hcc319⟩ := Kd.S_get HO_4.out z52 x5_1 p319 (by first | exact q319 | exact of_decide_eq_true (by first | (with_reducible assumption) | assumption) | (have e_ := (Kd.S_reads' HO_4.out).1; omega))
        obtain ⟨ve319_1, rfl, ge319_1⟩ := k52_openM hMe319
        have hv319_1 := hcc319 1 _ rfl
        rw [add_field _ _ 1 (by omega)] at hv319_1
        replace hv319_1 := Option.some.inj (hv319_1.symm.trans hx319_1)
        rw [hv319_1] at ge319_1
        have HL319_1 := am (show Kd.R k54 54 _ _ _ _ ((rd_T52 t304 x5_1).vars) from ge319_1)
        clear hv319_1 ge319_1
        clear hcc319 hce319
        have HR319_1 := am hi319_1
        have HC319_1 := am hl319_1
        clear hi319_1 hl319_1
        replace p319 := eq_true p319
        replace q319 := eq_true q319
        have p320 : 0 ≤ ((ji47) : Int) := of_decide_eq_true (by first | (with_reducible assumption) | assumption)
        have q320 : (ji47) < (t304.length : Int) := of_decide_eq_true (by first | (with_reducible assumption) | assumption)
        obtain ⟨ad320, A320_1, c320_1, e320, hx320_0, hx320_1, hl320_1, hi320_1⟩ := at_T52 (Kd.S_reads' HO_4.out).2.2 (ji47) p320 q320
        obtain rfl : ad310 = ad320 := (by injection e320)
        obtain ⟨ce320, hce320, hMe320, hcc320⟩ := Kd.S_get HO_4.out z52 (ji47) p320 (by first | exact q320 | exact of_decide_eq_true (by first | (with_reducible assumption) | assumption) | (have e_ := (Kd.S_reads' HO_4.out).1; omega))
        obtain ⟨ve320_1, rfl, ge320_1⟩ := k52_openM hMe320
        have hv320_1 := hcc320 1 _ rfl
        rw [add_field _ _ 1 (by omega)] at hv320_1
        replace hv320_1 := Option.some.inj (hv320_1.symm.trans hx320_1)
        rw [hv320_1] at ge320_1
        have HL320_1 := am (show Kd.R k54 54 _ _ _ _ ((rd_T52 t304 (ji47)).vars) from ge320_1)
        clear hv320_1 ge320_1
        clear hcc320 hce320
        have HR320_1 := am hi320_1
        have HC320_1 := am hl320_1
        clear hi320_1 hl320_1
        replace p320 := eq_true p320
        replace q320 := eq_true q320
        go_wp2
        repeat (go_quiet (fail); try go_wp2)
        go_meet
        case rel => exact ⟨_, (((((rd_T52 t304 x5_1).vars).length : Int) != (((rd_T52 t304 (ji47)).vars).length : Int))), (by first | rfl | (simp; done) | (simp only [← hji47] <;> (first | rfl | simp)) | (simp [*]; done)), H', ⟨by have := HK1.out; have := HJ12.out; have := HK3.out; first | omega | exact Nat.le_refl _⟩, ⟨by (with_reducible repeat (first | apply Kd.S_alloc | apply Kd.S_drewN | apply Kd.S_drew)); exact HO_4.out⟩, ⟨by (with_reducible repeat (first | refine bN ?_ _ | refine bD ?_ | refine bA ?_ _)); exact BK301.out⟩, ⟨by repeat (first | (with_reducible exact HR310_1.out) | (with_reducible refine Kd.C_alloc ?_ _) | (with_reducible refine Kd.C_drewN ?_ _) | (with_reducible refine Kd.C_drew ?_) | exact HR310_1.out)⟩, ⟨by repeat (first | (with_reducible first | exact HB.out | apply lA | apply lN | apply lD | refine lS ?_ GE301.out) | exact HB.out)⟩⟩
       case rest =>
        clear HC40
        try clear c1
        try clear c2
        try clear p2
        try clear c3
        try clear p3
        try clear q3
        try clear hx3
        try clear c4
        try clear p6
        try clear c10
        try clear c12
        try clear c12b0
        try clear c15
        try clear c15b0
        try clear c16
        try clear c16b0
        try clear c17
        try clear c17b0
        try clear c19
        try clear c19b0
        try clear c19b1
        try clear c22
        try clear c23
        try clear c23b0
        try clear c23b1
        try clear c25
        try clear c25b0
        try clear c26
        try clear c26b0
        try clear c30
        try clear c30b0
        try clear p30
        try clear q30
        try clear hx30
        try clear c31
        try clear p31
        try clear q31
        try clear hx31
        try clear c32
        try clear p32
        try clear q32
        try clear hx32
        try clear c33
        try clear c33b0
        try clear c34
        try clear c34b0
        try clear c35
        try clear c35b0
        try clear c37
        try clear c37b0
        try clear c38
        try clear c38b0
        try clear c44
        try clear c45
        try clear c45b0
        try clear c46
        try clear c46b0
        try clear c48
        try clear c48b0
        try clear c49
        try clear c49b0
        try clear hcz10_0
        try clear hcz10_1
        try clear hcz10_2
        try clear hcz10_3
        try clear hcz18_0
        try clear hcz18_1
        try clear hcz18_2
        try clear hcz18_3
        try clear hcz20_0
        try clear hcz20_1
        try clear hcz20_2
        try clear hcz20_3
        try clear hcz21_0
        try clear hcz21_1
        try clear hcz21_2
        try clear hcz21_3
        try clear hcz28_0
        try clear hcz28_1
        try clear hcz28_2
        try clear hcz28_3
        try clear hcz42_0
        try clear hcz42_1
        try clear hcz42_2
        try clear hcz42_3
        try clear hcz8_0
        try clear hcz8_1
        try clear hcz8_2
        try clear hcz8_3
        try clear hfz10_0
        try clear hfz10_1
        try clear hfz10_2
        try clear hfz10_3
        try clear hfz18_0
        try clear hfz18_1
        try clear hfz18_2
        try clear hfz18_3
        try clear hfz20_0
        try clear hfz20_1
        try clear hfz20_2
        try clear hfz20_3
        try clear hfz21_0
        try clear hfz21_1
        try clear hfz21_2
        try clear hfz21_3
        try clear hfz28_0
        try clear hfz28_1
        try clear hfz28_2
        try clear hfz28_3
        try clear hfz42_0
        try clear hfz42_1
        try clear hfz42_2
        try clear hfz42_3
        try clear hfz8_0
        try clear hfz8_1
        try clear hfz8_2
        try clear hfz8_3
        try clear hx307_0
        try clear hx307_1
        try clear hx308_0
        try clear hx308_1
        try clear hx309_0
        try clear hx309_1
        try clear hx310_0
        try clear hx310_1
        try clear hx314_0
        try clear hx315_0
        try clear hx315_1
        try clear hx316_0
        try clear hx316_1
        try clear hx316_2
        try clear hx316_3
        try clear hx316_4
        try clear hx316_5
        try clear hx316_6
        try clear hx316_7
        try clear hx319_0
        try clear hx319_1
        try clear hx320_0
        try clear hx320_1
        try clear p2
        try clear p3
        try clear p307
        try clear p308
        try clear p309
        try clear p310
        try clear p314
        try clear p315
        try clear p316
        try clear p319
        try clear p320
        try clear p6
        try clear q3
        try clear q307
        try clear q308
        try clear q309
        try clear q310
        try clear q314
        try clear q315
        try clear q316
        try clear q319
        try clear q320
        obtain ⟨kq, x121_39, rfl, HA, HJ39, HO_4, BK301, HR310_1, HB⟩ := hcut
        cases kq with
        | zero => exact absurd HA.out (by simp [lambrequinlaw22_InterpSteps.j3])
        | succ kj39 =>
         have H := HA.out
         clear HA
         simp only [lambrequinlaw22_InterpSteps.j3] at H
         as_aux_lemma =>
         by_cases c50 : x121_39 = true
         ·subst c50
          have H1 : (some false) = some r := by rw [if_pos rfl] at H; exact H
          clear H
          have H := H1
          clear H1
          obtain rfl := Option.some.inj H
          go_wp2
          repeat (go_quiet (fail); try go_wp2)
          go_ret
          exact ⟨by first | rfl | (simp [errW_none, errW_some] <;> rfl) | (simp only [← hji24]; first | rfl | (simp [errW_none, errW_some] <;> rfl)) | (simp [*, errW_none, errW_some] <;> rfl), by repeat (first | (with_reducible first | exact HB.out | apply lA | apply lN | apply lD | refine lS ?_ GE301.out) | exact HB.out)⟩
         replace c50 := Bool.eq_false_iff.mpr c50
         subst c50
         have H1 : (lambrequinlaw22_InterpSteps.l2 kj39 t302 t304 x5_1 ((rd_T52 t304 (ji24)).place) t317 t318 0 l0_0 l0_1 l0_2 a0_3) = some r := by rw [if_neg (show ¬ (false = true) by decide)] at H; exact H
         clear H
         have H := H1
         clear H1
         have H' := am H
         clear H
         go_wp2
         repeat (go_quiet (fail); try go_wp2)
         go_loopg [12] kj39 (fun kq v12 w' => ∃ (x12_5 : Int), v12 = .int .i64 x12_5 ∧ Aside0 (lambrequinlaw22_InterpSteps.l2 kq t302 t304 x5_1 ((rd_T52 t304 (ji24)).place) t317 t318 x12_5 l0_0 l0_1 l0_2 a0_3 = some r) ∧ Aside0 (kq ≤ kj39) ∧ Aside0 (Kd.S k52 52 w' w.heap.size (fun _ => True) (.slice (some ad310) t304.length co14) t304) ∧ Aside0 (w'.heap[gb301]? = some (.cells #[(.slice (some ad316) l0_0.length c0_0), (.slice A0_1 l0_1.length c0_1), (.slice A0_2 l0_2.length c0_2), .int .i64 a0_3] 43 (0, 0))) ∧ Aside0 (Below w.heap.size w w'))
         case atStart => exact ⟨(0), (by first | rfl | (simp; done) | (simp [*]; done)), H', ⟨Nat.le_refl _⟩, ⟨by (with_reducible repeat (first | apply Kd.S_alloc | apply Kd.S_drewN | apply Kd.S_drew)); exact HO_4.out⟩, ⟨by (with_reducible repeat (first | refine bN ?_ _ | refine bD ?_ | refine bA ?_ _)); exact BK301.out⟩, ⟨by repeat (first | (with_reducible first | exact HB.out | apply lA | apply lN | apply lD | refine lS ?_ GE301.out) | exact HB.out)⟩⟩
         case round =>
          clear H'
          try clear c1
          try clear c2
          try clear p2
          try clear c3
          try clear p3
          try clear q3
          try clear hx3
          try clear c4
          try clear c5
          try clear p6
          try clear c10
          try clear c12
          try clear c12b0
          try clear c15
          try clear c15b0
          try clear c16
          try clear c16b0
          try clear c17
          try clear c17b0
          try clear c19
          try clear c19b0
          try clear c19b1
          try clear c22
          try clear c23
          try clear c23b0
          try clear c23b1
          try clear c25
          try clear c25b0
          try clear c26
          try clear c26b0
          try clear c30
          try clear c30b0
          try clear p30
          try clear q30
          try clear hx30
          try clear c31
          try clear p31
          try clear q31
          try clear hx31
          try clear c32
          try clear p32
          try clear q32
          try clear hx32
          try clear c33
          try clear c33b0
          try clear c34
          try clear c34b0
          try clear c35
          try clear c35b0
          try clear c37
          try clear c37b0
          try clear c38
          try clear c38b0
          try clear c44
          try clear c45
          try clear c45b0
          try clear c46
          try clear c46b0
          try clear c48
          try clear c48b0
          try clear c49
          try clear c49b0
          try clear c50
          try clear hcz10_0
          try clear hcz10_1
          try clear hcz10_2
          try clear hcz10_3
          try clear hcz18_0
          try clear hcz18_1
          try clear hcz18_2
          try clear hcz18_3
          try clear hcz20_0
          try clear hcz20_1
          try clear hcz20_2
          try clear hcz20_3
          try clear hcz21_0
          try clear hcz21_1
          try clear hcz21_2
          try clear hcz21_3
          try clear hcz28_0
          try clear hcz28_1
          try clear hcz28_2
          try clear hcz28_3
          try clear hcz42_0
          try clear hcz42_1
          try clear hcz42_2
          try clear hcz42_3
          try clear hcz8_0
          try clear hcz8_1
          try clear hcz8_2
          try clear hcz8_3
          try clear hfz10_0
          try clear hfz10_1
          try clear hfz10_2
          try clear hfz10_3
          try clear hfz18_0
          try clear hfz18_1
          try clear hfz18_2
          try clear hfz18_3
          try clear hfz20_0
          try clear hfz20_1
          try clear hfz20_2
          try clear hfz20_3
          try clear hfz21_0
          try clear hfz21_1
          try clear hfz21_2
          try clear hfz21_3
          try clear hfz28_0
          try clear hfz28_1
          try clear hfz28_2
          try clear hfz28_3
          try clear hfz42_0
          try clear hfz42_1
          try clear hfz42_2
          try clear hfz42_3
          try clear hfz8_0
          try clear hfz8_1
          try clear hfz8_2
          try clear hfz8_3
          try clear hx307_0
          try clear hx307_1
          try clear hx308_0
          try clear hx308_1
          try clear hx309_0
          try clear hx309_1
          try clear hx310_0
          try clear hx310_1
          try clear hx314_0
          try clear hx315_0
          try clear hx315_1
          try clear hx316_0
          try clear hx316_1
          try clear hx316_2
          try clear hx316_3
          try clear hx316_4
          try clear hx316_5
          try clear hx316_6
          try clear hx316_7
          try clear hx319_0
          try clear hx319_1
          try clear hx320_0
          try clear hx320_1
          try clear p2
          try clear p3
          try clear p30
          try clear p307
          try clear p308
          try clear p309
          try clear p31
          try clear p310
          try clear p314
          try clear p315
          try clear p316
          try clear p319
          try clear p32
          try clear p320
          try clear p6
          try clear q3
          try clear q30
          try clear q307
          try clear q308
          try clear q309
          try clear q31
          try clear q310
          try clear q314
          try clear q315
          try clear q316
          try clear q319
          try clear q32
          try clear q320
          obtain ⟨x12_5, rfl, HA, HK5, HO_4, BK301, HB⟩ := hrel
          cases gk with
          | zero => exact absurd HA.out (by simp [lambrequinlaw22_InterpSteps.l2])
          | succ k5 =>
           have H := HA.out
           clear HA
           simp only [lambrequinlaw22_InterpSteps.l2] at H
           as_aux_lemma =>
           by_cases c51 : 0 ≤ x5_1
           rotate_left
           ·rw [if_neg c51] at H
            exact absurd H (by simp)
           rw [if_pos c51] at H
           have c51b0 : decide (0 ≤ x5_1) = true := decide_eq_true c51
           clear c51
           as_aux_lemma =>
           by_cases c52 : x5_1 < (t304.length : Int)
           rotate_left
           ·rw [if_neg c52] at H
            exact absurd H (by simp)
           rw [if_pos c52] at H
           have c52b0 : decide (x5_1 < (t304.length : Int)) = true := decide_eq_true c52
           clear c52
           as_aux_lemma =>
           by_cases c53 : x12_5 < (((rd_T52 t304 x5_1).vars).length : Int)
           rotate_left
           ·rw [if_neg c53] at H
            have c53b0 : decide (x12_5 < (((rd_T52 t304 x5_1).vars).length : Int)) = false := decide_eq_false c53
            clear c53
            have H' := am H
            clear H
            have p321 : 0 ≤ (x5_1 : Int) := of_decide_eq_true (by first | (with_reducible assumption) | assumption)
            have q321 : x5_1 < (t304.length : Int) := of_decide_eq_true (by first | (with_reducible assumption) | assumption)
            obtain ⟨ad321, A321_1, c321_1, e321, hx321_0, hx321_1, hl321_1, hi321_1⟩ := at_T52 (Kd.S_reads' HO_4.out).2.2 x5_1 p321 q321
            obtain rfl : ad310 = ad321 := (by injection e321)
            obtain ⟨ce321, hce321, hMe321, hcc321⟩ := Kd.S_get HO_4.out z52 x5_1 p321 (by first | exact q321 | exact of_decide_eq_true (by first | (with_reducible assumption) | assumption) | (have e_ := (Kd.S_reads' HO_4.out).1; omega))
            obtain ⟨ve321_1, rfl, ge321_1⟩ := k52_openM hMe321
            have hv321_1 := hcc321 1 _ rfl
            rw [add_field _ _ 1 (by omega)] at hv321_1
            replace hv321_1 := Option.some.inj (hv321_1.symm.trans hx321_1)
            rw [hv321_1] at ge321_1
            have HL321_1 := am (show Kd.R k54 54 _ _ _ _ ((rd_T52 t304 x5_1).vars) from ge321_1)
            clear hv321_1 ge321_1
            clear hcc321 hce321
            have HR321_1 := am hi321_1
            have HC321_1 := am hl321_1
            clear hi321_1 hl321_1
            replace p321 := eq_true p321
            replace q321 := eq_true q321
            go_wp2
            repeat (go_quiet (fail); try go_wp2)
            go_roundg k5
            case measure => have := HK1.out; have := HJ12.out; have := HK3.out; have := HJ39.out; have := HK5.out; omega
            case rel => exact ⟨(wrap64 (x5_1 + 1)), (by first | rfl | (simp; done) | (simp [*]; done)), H', ⟨by have := HK1.out; have := HJ12.out; have := HK3.out; have := HJ39.out; have := HK5.out; omega⟩, ⟨by (with_reducible repeat (first | apply Kd.S_alloc | apply Kd.S_drewN | apply Kd.S_drew)); exact HO_4.out⟩, ⟨by (with_reducible repeat (first | refine bN ?_ _ | refine bD ?_ | refine bA ?_ _)); exact BK301.out⟩, ⟨by repeat (first | (with_reducible first | exact HB.out | apply lA | apply lN | apply lD | refine lS ?_ GE301.out) | exact HB.out)⟩⟩
           rw [if_pos c53] at H
           have c53b0 : decide (x12_5 < (((rd_T52 t304 x5_1).vars).length : Int)) = true := decide_eq_true c53
           clear c53
           as_aux_lemma =>
           by_cases c54 : 0 ≤ x12_5
           rotate_left
           ·rw [if_neg c54] at H
            exact absurd H (by simp)
           rw [if_pos c54] at H
           have c54b0 : decide (0 ≤ x12_5) = true := decide_eq_true c54
           clear c54
           have HC55 := am H
           clear H
           have p321 : 0 ≤ (x5_1 : Int) := of_decide_eq_true (by first | (with_reducible assumption) | assumption)
           have q321 : x5_1 < (t304.length : Int) := of_decide_eq_true (by first | (with_reducible assumption) | assumption)
           obtain ⟨ad321, A321_1, c321_1, e321, hx321_0, hx321_1, hl321_1, hi321_1⟩ := at_T52 (Kd.S_reads' HO_4.out).2.2 x5_1 p321 q321
           obtain rfl : ad310 = ad321 := (by injection e321)
           obtain ⟨ce321, hce321, hMe321, hcc321⟩ := Kd.S_get HO_4.out z52 x5_1 p321 (by first | exact q321 | exact of_decide_eq_true (by first | (with_reducible assumption) | assumption) | (have e_ := (Kd.S_reads' HO_4.out).1; omega))
           obtain ⟨ve321_1, rfl, ge321_1⟩ := k52_openM hMe321
           have hv321_1 := hcc321 1 _ rfl
           rw [add_field _ _ 1 (by omega)] at hv321_1
           replace hv321_1 := Option.some.inj (hv321_1.symm.trans hx321_1)
           rw [hv321_1] at ge321_1
           have HL321_1 := am (show Kd.R k54 54 _ _ _ _ ((rd_T52 t304 x5_1).vars) from ge321_1)
           clear hv321_1 ge321_1
           clear hcc321 hce321
           have HR321_1 := am hi321_1
           have HC321_1 := am hl321_1
           clear hi321_1 hl321_1
           replace p321 := eq_true p321
           replace q321 := eq_true q321
           have p322 : 0 ≤ (x5_1 : Int) := of_decide_eq_true (by first | (with_reducible assumption) | assumption)
           have q322 : x5_1 < (t304.length : Int) := of_decide_eq_true (by first | (with_reducible assumption) | assumption)
           obtain ⟨ad322, A322_1, c322_1, e322, hx322_0, hx322_1, hl322_1, hi322_1⟩ := at_T52 (Kd.S_reads' HO_4.out).2.2 x5_1 p322 q322
           obtain rfl : ad310 = ad322 := (by injection e322)
           obtain ⟨ce322, hce322, hMe322, hcc322⟩ := Kd.S_get HO_4.out z52 x5_1 p322 (by first | exact q322 | exact of_decide_eq_true (by first | (with_reducible assumption) | assumption) | (have e_ := (Kd.S_reads' HO_4.out).1; omega))
           obtain ⟨ve322_1, rfl, ge322_1⟩ := k52_openM hMe322
           have hv322_1 := hcc322 1 _ rfl
           rw [add_field _ _ 1 (by omega)] at hv322_1
           replace hv322_1 := Option.some.inj (hv322_1.symm.trans hx322_1)
           rw [hv322_1] at ge322_1
           have HL322_1 := am (show Kd.R k54 54 _ _ _ _ ((rd_T52 t304 x5_1).vars) from ge322_1)
           clear hv322_1 ge322_1
           clear hcc322 hce322
           have HR322_1 := am hi322_1
           have HC322_1 := am hl322_1
           clear hi322_1 hl322_1
           replace p322 := eq_true p322
           replace q322 := eq_true q322
           have ea_ := Option.some.inj (hx321_1.symm.trans hx322_1)
           injection ea_ with ea_ en_ ec_
           subst ea_
           subst ec_
           clear en_
           have p323 : 0 ≤ (x12_5 : Int) := of_decide_eq_true (by first | (with_reducible assumption) | assumption)
           have q323 : x12_5 < (((rd_T52 t304 x5_1).vars).length : Int) := of_decide_eq_true (by first | (with_reducible assumption) | assumption)
           obtain ⟨ad323, e323, hx323_0, hx323_1, hx323_2, hx323_3⟩ := at_T54 (by repeat (first | (with_reducible exact HR322_1.out) | (with_reducible refine Kd.C_alloc ?_ _) | (with_reducible refine Kd.C_drewN ?_ _) | (with_reducible refine Kd.C_drew ?_) | exact HR322_1.out)) x12_5 p323 q323
           cases e323
           replace p323 := eq_true p323
           replace q323 := eq_true q323
           go_upto_region 25 with (first | ((with_reducible refine gate_dst (N := 13) rfl ?_); (try (refine gate_guard (by rfl) ?_; dsimp only)); refine box_event ?hg (N := 13) ?hd (cs := #[.string (⟨#[]⟩ : ByteArray), .int .i64 0, .int .i64 0, .bool false]) (t := 54) ?hr ?_; (case hd => rfl); (case hg => rfl); (case hr => first | (go_simp; done) | (go_simp; rfl)); intro gb324 hg w56 hbox hb; replace HO_4 := am (Kd.S_below (Kd.S_elderB (by (with_reducible repeat (first | apply Kd.S_alloc | apply Kd.S_drewN | apply Kd.S_drew)); exact HO_4.out) gb324 (Nat.le_of_eq hg.symm)) hb); replace HL321_1 := am (Kd.R_below (Kd.R_elderB (by (with_reducible repeat (first | apply Ra | apply Rn | apply Rd)); exact HL321_1.out) gb324 (Nat.le_of_eq hg.symm)) hb); replace HL322_1 := am (Kd.R_below (Kd.R_elderB (by (with_reducible repeat (first | apply Ra | apply Rn | apply Rd)); exact HL322_1.out) gb324 (Nat.le_of_eq hg.symm)) hb); replace HR321_1 := am (Kd.C_below (by repeat (first | (with_reducible exact HR321_1.out) | (with_reducible refine Kd.C_alloc ?_ _) | (with_reducible refine Kd.C_drewN ?_ _) | (with_reducible refine Kd.C_drew ?_) | exact HR321_1.out)) hb); replace HR322_1 := am (Kd.C_below (by repeat (first | (with_reducible exact HR322_1.out) | (with_reducible refine Kd.C_alloc ?_ _) | (with_reducible refine Kd.C_drewN ?_ _) | (with_reducible refine Kd.C_drew ?_) | exact HR322_1.out)) hb); have BK324 := am (hbox); have GW324 := am ((by rw [hg]; exact (below_size (by repeat (first | (with_reducible first | exact HB.out | apply lA | apply lN | apply lD | refine lS ?_ GE301.out) | exact HB.out))) : w.heap.size ≤ gb324)); have GE324 := am ((by rw [hg]; exact (below_size (by repeat (first | (with_reducible first | exact HB.out | apply lA | apply lN | apply lD | refine lS ?_ GE301.out) | exact HB.out))) : w.heap.size ≤ gb324)); replace HB := am (below_step (by repeat (first | (with_reducible first | exact HB.out | apply lA | apply lN | apply lD | refine lS ?_ GE301.out) | exact HB.out)) hb); have NB301_324 := am ((by rw [hg]; exact Nat.ne_of_lt (blk_lt (g := gb301) (o := .cells #[.slice (some ad316) l0_0.length c0_0, .slice A0_1 l0_1.length c0_1, .slice A0_2 l0_2.length c0_2, .int .i64 a0_3] 43 (0, 0)) (by (with_reducible repeat (first | refine bN ?_ _ | refine bD ?_ | refine bA ?_ _)); exact BK301.out)) : gb301 ≠ gb324)); have NB324_301 := am ((by rw [hg]; exact Nat.ne_of_gt (blk_lt (g := gb301) (o := .cells #[.slice (some ad316) l0_0.length c0_0, .slice A0_1 l0_1.length c0_1, .slice A0_2 l0_2.length c0_2, .int .i64 a0_3] 43 (0, 0)) (by (with_reducible repeat (first | refine bN ?_ _ | refine bD ?_ | refine bA ?_ _)); exact BK301.out)) : gb324 ≠ gb301)); replace BK301 := am (blk_below (g := gb301) (o := .cells #[.slice (some ad316) l0_0.length c0_0, .slice A0_1 l0_1.length c0_1, .slice A0_2 l0_2.length c0_2, .int .i64 a0_3] 43 (0, 0)) (by (with_reducible repeat (first | refine bN ?_ _ | refine bD ?_ | refine bA ?_ _)); exact BK301.out) hb); clear hb hbox hg; have hnb57 := NB324_301.out; have hnc57 := NB301_324.out; have hcz58_0 : w56.cell? ⟨gb324, 0, none⟩ = some (.string (⟨#[]⟩ : ByteArray)) := (blk_cell BK324.out 0).trans rfl; have hcz58_1 : w56.cell? ⟨gb324, 1, none⟩ = some (.int .i64 0) := (blk_cell BK324.out 1).trans rfl; have hcz58_2 : w56.cell? ⟨gb324, 2, none⟩ = some (.int .i64 0) := (blk_cell BK324.out 2).trans rfl; have hcz58_3 : w56.cell? ⟨gb324, 3, none⟩ = some (.bool false) := (blk_cell BK324.out 3).trans rfl; have hfz58_0 := blk_frozen BK324.out 0; have hfz58_1 := blk_frozen BK324.out 1; have hfz58_2 := blk_frozen BK324.out 2; have hfz58_3 := blk_frozen BK324.out 3))
           repeat (go_quiet (first | ((with_reducible refine gate_dst (N := 13) rfl ?_); (try (refine gate_guard (by rfl) ?_; dsimp only)); refine box_event ?hg (N := 13) ?hd (cs := #[.string (⟨#[]⟩ : ByteArray), .int .i64 0, .int .i64 0, .bool false]) (t := 54) ?hr ?_; (case hd => rfl); (case hg => rfl); (case hr => first | (go_simp; done) | (go_simp; rfl)); intro gb324 hg w56 hbox hb; replace HO_4 := am (Kd.S_below (Kd.S_elderB (by (with_reducible repeat (first | apply Kd.S_alloc | apply Kd.S_drewN | apply Kd.S_drew)); exact HO_4.out) gb324 (Nat.le_of_eq hg.symm)) hb); replace HL321_1 := am (Kd.R_below (Kd.R_elderB (by (with_reducible repeat (first | apply Ra | apply Rn | apply Rd)); exact HL321_1.out) gb324 (Nat.le_of_eq hg.symm)) hb); replace HL322_1 := am (Kd.R_below (Kd.R_elderB (by (with_reducible repeat (first | apply Ra | apply Rn | apply Rd)); exact HL322_1.out) gb324 (Nat.le_of_eq hg.symm)) hb); replace HR321_1 := am (Kd.C_below (by repeat (first | (with_reducible exact HR321_1.out) | (with_reducible refine Kd.C_alloc ?_ _) | (with_reducible refine Kd.C_drewN ?_ _) | (with_reducible refine Kd.C_drew ?_) | exact HR321_1.out)) hb); replace HR322_1 := am (Kd.C_below (by repeat (first | (with_reducible exact HR322_1.out) | (with_reducible refine Kd.C_alloc ?_ _) | (with_reducible refine Kd.C_drewN ?_ _) | (with_reducible refine Kd.C_drew ?_) | exact HR322_1.out)) hb); have BK324 := am (hbox); have GW324 := am ((by rw [hg]; exact (below_size (by repeat (first | (with_reducible first | exact HB.out | apply lA | apply lN | apply lD | refine lS ?_ GE301.out) | exact HB.out))) : w.heap.size ≤ gb324)); have GE324 := am ((by rw [hg]; exact (below_size (by repeat (first | (with_reducible first | exact HB.out | apply lA | apply lN | apply lD | refine lS ?_ GE301.out) | exact HB.out))) : w.heap.size ≤ gb324)); replace HB := am (below_step (by repeat (first | (with_reducible first | exact HB.out | apply lA | apply lN | apply lD | refine lS ?_ GE301.out) | exact HB.out)) hb); have NB301_324 := am ((by rw [hg]; exact Nat.ne_of_lt (blk_lt (g := gb301) (o := .cells #[.slice (some ad316) l0_0.length c0_0, .slice A0_1 l0_1.length c0_1, .slice A0_2 l0_2.length c0_2, .int .i64 a0_3] 43 (0, 0)) (by (with_reducible repeat (first | refine bN ?_ _ | refine bD ?_ | refine bA ?_ _)); exact BK301.out)) : gb301 ≠ gb324)); have NB324_301 := am ((by rw [hg]; exact Nat.ne_of_gt (blk_lt (g := gb301) (o := .cells #[.slice (some ad316) l0_0.length c0_0, .slice A0_1 l0_1.length c0_1, .slice A0_2 l0_2.length c0_2, .int .i64 a0_3] 43 (0, 0)) (by (with_reducible repeat (first | refine bN ?_ _ | refine bD ?_ | refine bA ?_ _)); exact BK301.out)) : gb324 ≠ gb301)); replace BK301 := am (blk_below (g := gb301) (o := .cells #[.slice (some ad316) l0_0.length c0_0, .slice A0_1 l0_1.length c0_1, .slice A0_2 l0_2.length c0_2, .int .i64 a0_3] 43 (0, 0)) (by (with_reducible repeat (first | refine bN ?_ _ | refine bD ?_ | refine bA ?_ _)); exact BK301.out) hb); clear hb hbox hg; have hnb57 := NB324_301.out; have hnc57 := NB301_324.out; have hcz58_0 : w56.cell? ⟨gb324, 0, none⟩ = some (.string (⟨#[]⟩ : ByteArray)) := (blk_cell BK324.out 0).trans rfl; have hcz58_1 : w56.cell? ⟨gb324, 1, none⟩ = some (.int .i64 0) := (blk_cell BK324.out 1).trans rfl; have hcz58_2 : w56.cell? ⟨gb324, 2, none⟩ = some (.int .i64 0) := (blk_cell BK324.out 2).trans rfl; have hcz58_3 : w56.cell? ⟨gb324, 3, none⟩ = some (.bool false) := (blk_cell BK324.out 3).trans rfl; have hfz58_0 := blk_frozen BK324.out 0; have hfz58_1 := blk_frozen BK324.out 1; have hfz58_2 := blk_frozen BK324.out 2; have hfz58_3 := blk_frozen BK324.out 3)); go_upto_region 25 with (first | ((with_reducible refine gate_dst (N := 13) rfl ?_); (try (refine gate_guard (by rfl) ?_; dsimp only)); refine box_event ?hg (N := 13) ?hd (cs := #[.string (⟨#[]⟩ : ByteArray), .int .i64 0, .int .i64 0, .bool false]) (t := 54) ?hr ?_; (case hd => rfl); (case hg => rfl); (case hr => first | (go_simp; done) | (go_simp; rfl)); intro gb324 hg w56 hbox hb; replace HO_4 := am (Kd.S_below (Kd.S_elderB (by (with_reducible repeat (first | apply Kd.S_alloc | apply Kd.S_drewN | apply Kd.S_drew)); exact HO_4.out) gb324 (Nat.le_of_eq hg.symm)) hb); replace HL321_1 := am (Kd.R_below (Kd.R_elderB (by (with_reducible repeat (first | apply Ra | apply Rn | apply Rd)); exact HL321_1.out) gb324 (Nat.le_of_eq hg.symm)) hb); replace HL322_1 := am (Kd.R_below (Kd.R_elderB (by (with_reducible repeat (first | apply Ra | apply Rn | apply Rd)); exact HL322_1.out) gb324 (Nat.le_of_eq hg.symm)) hb); replace HR321_1 := am (Kd.C_below (by repeat (first | (with_reducible exact HR321_1.out) | (with_reducible refine Kd.C_alloc ?_ _) | (with_reducible refine Kd.C_drewN ?_ _) | (with_reducible refine Kd.C_drew ?_) | exact HR321_1.out)) hb); replace HR322_1 := am (Kd.C_below (by repeat (first | (with_reducible exact HR322_1.out) | (with_reducible refine Kd.C_alloc ?_ _) | (with_reducible refine Kd.C_drewN ?_ _) | (with_reducible refine Kd.C_drew ?_) | exact HR322_1.out)) hb); have BK324 := am (hbox); have GW324 := am ((by rw [hg]; exact (below_size (by repeat (first | (with_reducible first | exact HB.out | apply lA | apply lN | apply lD | refine lS ?_ GE301.out) | exact HB.out))) : w.heap.size ≤ gb324)); have GE324 := am ((by rw [hg]; exact (below_size (by repeat (first | (with_reducible first | exact HB.out | apply lA | apply lN | apply lD | refine lS ?_ GE301.out) | exact HB.out))) : w.heap.size ≤ gb324)); replace HB := am (below_step (by repeat (first | (with_reducible first | exact HB.out | apply lA | apply lN | apply lD | refine lS ?_ GE301.out) | exact HB.out)) hb); have NB301_324 := am ((by rw [hg]; exact Nat.ne_of_lt (blk_lt (g := gb301) (o := .cells #[.slice (some ad316) l0_0.length c0_0, .slice A0_1 l0_1.length c0_1, .slice A0_2 l0_2.length c0_2, .int .i64 a0_3] 43 (0, 0)) (by (with_reducible repeat (first | refine bN ?_ _ | refine bD ?_ | refine bA ?_ _)); exact BK301.out)) : gb301 ≠ gb324)); have NB324_301 := am ((by rw [hg]; exact Nat.ne_of_gt (blk_lt (g := gb301) (o := .cells #[.slice (some ad316) l0_0.length c0_0, .slice A0_1 l0_1.length c0_1, .slice A0_2 l0_2.length c0_2, .int .i64 a0_3] 43 (0, 0)) (by (with_reducible repeat (first | refine bN ?_ _ | refine bD ?_ | refine bA ?_ _)); exact BK301.out)) : gb324 ≠ gb301)); replace BK301 := am (blk_below (g := gb301) (o := .cells #[.slice (some ad316) l0_0.length c0_0, .slice A0_1 l0_1.length c0_1, .slice A0_2 l0_2.length c0_2, .int .i64 a0_3] 43 (0, 0)) (by (with_reducible repeat (first | refine bN ?_ _ | refine bD ?_ | refine bA ?_ _)); exact BK301.out) hb); clear hb hbox hg; have hnb57 := NB324_301.out; have hnc57 := NB301_324.out; have hcz58_0 : w56.cell? ⟨gb324, 0, none⟩ = some (.string (⟨#[]⟩ : ByteArray)) := (blk_cell BK324.out 0).trans rfl; have hcz58_1 : w56.cell? ⟨gb324, 1, none⟩ = some (.int .i64 0) := (blk_cell BK324.out 1).trans rfl; have hcz58_2 : w56.cell? ⟨gb324, 2, none⟩ = some (.int .i64 0) := (blk_cell BK324.out 2).trans rfl; have hcz58_3 : w56.cell? ⟨gb324, 3, none⟩ = some (.bool false) := (blk_cell BK324.out 3).trans rfl; have hfz58_0 := blk_frozen BK324.out 0; have hfz58_1 := blk_frozen BK324.out 1; have hfz58_2 := blk_frozen BK324.out 2; have hfz58_3 := blk_frozen BK324.out 3)))
           (try simp only [Act.put, List.setIfInBounds_toArray, List.set_cons_zero, List.set_cons_succ])
           go_cut [14] (fun v14 wc => ∃ (kq : Nat) (x14_54 : Bool), v14 = .bool x14_54 ∧ Aside0 (lambrequinlaw22_InterpSteps.j5 kq t302 t304 x5_1 ((rd_T52 t304 (ji24)).place) t317 t318 x12_5 x14_54 l0_0 l0_1 l0_2 a0_3 ((rd_T54 ((rd_T52 t304 x5_1).vars) x12_5).name) ((rd_T54 ((rd_T52 t304 x5_1).vars) x12_5).n) ((rd_T54 ((rd_T52 t304 x5_1).vars) x12_5).last) ((rd_T54 ((rd_T52 t304 x5_1).vars) x12_5).taint) = some r) ∧ Aside0 (kq ≤ k5) ∧ Aside0 (Kd.S k52 52 wc w.heap.size (fun k_ => k_ ≠ gb324) (.slice (some ad310) t304.length co14) t304) ∧ Aside0 (wc.heap[gb301]? = some (.cells #[(.slice (some ad316) l0_0.length c0_0), (.slice A0_1 l0_1.length c0_1), (.slice A0_2 l0_2.length c0_2), .int .i64 a0_3] 43 (0, 0))) ∧ Aside0 (wc.heap[gb324]? = some (.cells #[.string ((rd_T54 ((rd_T52 t304 x5_1).vars) x12_5).name), .int .i64 ((rd_T54 ((rd_T52 t304 x5_1).vars) x12_5).n), .int .i64 ((rd_T54 ((rd_T52 t304 x5_1).vars) x12_5).last), .bool ((rd_T54 ((rd_T52 t304 x5_1).vars) x12_5).taint)] 54 (0, 0))) ∧ Aside0 (Kd.C k54 wc (some ad323) ((rd_T52 t304 x5_1).vars).length ((rd_T52 t304 x5_1).vars)) ∧ Aside0 (Below w.heap.size w wc))
           case first =>
            have H := HC55.out
            clear HC55
            by_cases c59 : t318 = true
            ·subst c59
             have H1 : (lambrequinlaw22_InterpSteps.j5 k5 t302 t304 x5_1 ((rd_T52 t304 (ji24)).place) t317 true x12_5 (((rd_T54 ((rd_T52 t304 x5_1).vars) x12_5).name).toList == t317.toList) l0_0 l0_1 l0_2 a0_3 ((rd_T54 ((rd_T52 t304 x5_1).vars) x12_5).name) ((rd_T54 ((rd_T52 t304 x5_1).vars) x12_5).n) ((rd_T54 ((rd_T52 t304 x5_1).vars) x12_5).last) ((rd_T54 ((rd_T52 t304 x5_1).vars) x12_5).taint)) = some r := by rw [if_pos rfl] at H; exact H
             clear H
             have H := H1
             clear H1
             have H' := am H
             clear H
             have hnb60 := NB324_301.out
             have hnc60 := NB301_324.out
             have hcz61_0 : w56.cell? ⟨gb324, 0, none⟩ = some (.string (⟨#[]⟩ : ByteArray)) := (blk_cell BK324.out 0).trans rfl
             have hcz61_1 : w56.cell? ⟨gb324, 1, none⟩ = some (.int .i64 0) := (blk_cell BK324.out 1).trans rfl
             have hcz61_2 : w56.cell? ⟨gb324, 2, none⟩ = some (.int .i64 0) := (blk_cell BK324.out 2).trans rfl
             have hcz61_3 : w56.cell? ⟨gb324, 3, none⟩ = some (.bool false) := (blk_cell BK324.out 3).trans rfl
             have hfz61_0 := blk_frozen BK324.out 0
             have hfz61_1 := blk_frozen BK324.out 1
             have hfz61_2 := blk_frozen BK324.out 2
             have hfz61_3 := blk_frozen BK324.out 3
             go_wp2
             repeat (go_quiet (fail); try go_wp2)
             go_meet
             case rel => exact ⟨_, ((((rd_T54 ((rd_T52 t304 x5_1).vars) x12_5).name).toList == t317.toList)), (by first | rfl | (simp; done) | (simp [*]; done)), H', ⟨by have := HK1.out; have := HJ12.out; have := HK3.out; have := HJ39.out; have := HK5.out; first | omega | exact Nat.le_refl _⟩, ⟨by (with_reducible repeat (first | apply Kd.S_alloc | apply Kd.S_drewN | apply Kd.S_drew)); exact Kd.S_mono (Kd.S_far (p := ⟨gb324, 3, none⟩) (Kd.S_far (p := ⟨gb324, 2, none⟩) (Kd.S_far (p := ⟨gb324, 1, none⟩) (Kd.S_far (p := ⟨gb324, 0, none⟩) (Kd.S_mono HO_4.out (fun k_ hk => (⟨hk, hk.2⟩ : _ ∧ k_ ≠ gb324))) (fun _ hk => hk.2) _) (fun _ hk => hk.2) _) (fun _ hk => hk.2) _) (fun _ hk => hk.2) _) (fun _ hk => hk.1.2)⟩, ⟨by repeat (first | (with_reducible first | exact BK301.out | refine bN ?_ _ | refine bD ?_ | refine bA ?_ _) | refine blk_far ?_ NB301_324.out _ | exact BK301.out)⟩, ⟨by (with_reducible repeat (first | refine bN ?_ _ | refine bD ?_ | refine bA ?_ _)); refine blk_put (cs := #[.string ((rd_T54 ((rd_T52 t304 x5_1).vars) x12_5).name), .int .i64 ((rd_T54 ((rd_T52 t304 x5_1).vars) x12_5).n), .int .i64 ((rd_T54 ((rd_T52 t304 x5_1).vars) x12_5).last), .bool false]) ?_ 3 _ rfl; (with_reducible repeat (first | refine bN ?_ _ | refine bD ?_ | refine bA ?_ _)); refine blk_put (cs := #[.string ((rd_T54 ((rd_T52 t304 x5_1).vars) x12_5).name), .int .i64 ((rd_T54 ((rd_T52 t304 x5_1).vars) x12_5).n), .int .i64 0, .bool false]) ?_ 2 _ rfl; (with_reducible repeat (first | refine bN ?_ _ | refine bD ?_ | refine bA ?_ _)); refine blk_put (cs := #[.string ((rd_T54 ((rd_T52 t304 x5_1).vars) x12_5).name), .int .i64 0, .int .i64 0, .bool false]) ?_ 1 _ rfl; (with_reducible repeat (first | refine bN ?_ _ | refine bD ?_ | refine bA ?_ _)); refine blk_put (cs := #[.string (⟨#[]⟩ : ByteArray), .int .i64 0, .int .i64 0, .bool false]) ?_ 0 _ rfl; (with_reducible repeat (first | refine bN ?_ _ | refine bD ?_ | refine bA ?_ _)); exact BK324.out⟩, ⟨(Kd.R_reads' (by (with_reducible repeat (first | apply Ra | apply Rn | apply Rd)); exact (Kd.R_mono (Kd.R_far (p := ⟨gb324, 3, none⟩) (Kd.R_far (p := ⟨gb324, 2, none⟩) (Kd.R_far (p := ⟨gb324, 1, none⟩) (Kd.R_far (p := ⟨gb324, 0, none⟩) (Kd.R_mono HL322_1.out (fun k_ hk => (⟨hk, hk.2⟩ : _ ∧ k_ ≠ gb324))) (fun _ hk => hk.2) _) (fun _ hk => hk.2) _) (fun _ hk => hk.2) _) (fun _ hk => hk.2) _) (fun _ h_ => h_.1)))).2.2⟩, ⟨by repeat (first | (with_reducible first | exact HB.out | apply lA | apply lN | apply lD | refine lS ?_ GE301.out | refine lS ?_ GE324.out) | exact HB.out)⟩⟩
            replace c59 := Bool.eq_false_iff.mpr c59
            subst c59
            have H1 : (lambrequinlaw22_InterpSteps.j5 k5 t302 t304 x5_1 ((rd_T52 t304 (ji24)).place) t317 false x12_5 false l0_0 l0_1 l0_2 a0_3 ((rd_T54 ((rd_T52 t304 x5_1).vars) x12_5).name) ((rd_T54 ((rd_T52 t304 x5_1).vars) x12_5).n) ((rd_T54 ((rd_T52 t304 x5_1).vars) x12_5).last) ((rd_T54 ((rd_T52 t304 x5_1).vars) x12_5).taint)) = some r := by rw [if_neg (show ¬ (false = true) by decide)] at H; exact H
            clear H
            have H := H1
            clear H1
            have H' := am H
            clear H
            go_wp2
            repeat (go_quiet (fail); try go_wp2)
            go_meet
            case rel => exact ⟨_, (false), (by first | rfl | (simp; done) | (simp [*]; done)), H', ⟨by have := HK1.out; have := HJ12.out; have := HK3.out; have := HJ39.out; have := HK5.out; first | omega | exact Nat.le_refl _⟩, ⟨by (with_reducible repeat (first | apply Kd.S_alloc | apply Kd.S_drewN | apply Kd.S_drew)); exact Kd.S_mono (Kd.S_far (p := ⟨gb324, 3, none⟩) (Kd.S_far (p := ⟨gb324, 2, none⟩) (Kd.S_far (p := ⟨gb324, 1, none⟩) (Kd.S_far (p := ⟨gb324, 0, none⟩) (Kd.S_mono HO_4.out (fun k_ hk => (⟨hk, hk.2⟩ : _ ∧ k_ ≠ gb324))) (fun _ hk => hk.2) _) (fun _ hk => hk.2) _) (fun _ hk => hk.2) _) (fun _ hk => hk.2) _) (fun _ hk => hk.1.2)⟩, ⟨by repeat (first | (with_reducible first | exact BK301.out | refine bN ?_ _ | refine bD ?_ | refine bA ?_ _) | refine blk_far ?_ NB301_324.out _ | exact BK301.out)⟩, ⟨by (with_reducible repeat (first | refine bN ?_ _ | refine bD ?_ | refine bA ?_ _)); refine blk_put (cs := #[.string ((rd_T54 ((rd_T52 t304 x5_1).vars) x12_5).name), .int .i64 ((rd_T54 ((rd_T52 t304 x5_1).vars) x12_5).n), .int .i64 ((rd_T54 ((rd_T52 t304 x5_1).vars) x12_5).last), .bool false]) ?_ 3 _ rfl; (with_reducible repeat (first | refine bN ?_ _ | refine bD ?_ | refine bA ?_ _)); refine blk_put (cs := #[.string ((rd_T54 ((rd_T52 t304 x5_1).vars) x12_5).name), .int .i64 ((rd_T54 ((rd_T52 t304 x5_1).vars) x12_5).n), .int .i64 0, .bool false]) ?_ 2 _ rfl; (with_reducible repeat (first | refine bN ?_ _ | refine bD ?_ | refine bA ?_ _)); refine blk_put (cs := #[.string ((rd_T54 ((rd_T52 t304 x5_1).vars) x12_5).name), .int .i64 0, .int .i64 0, .bool false]) ?_ 1 _ rfl; (with_reducible repeat (first | refine bN ?_ _ | refine bD ?_ | refine bA ?_ _)); refine blk_put (cs := #[.string (⟨#[]⟩ : ByteArray), .int .i64 0, .int .i64 0, .bool false]) ?_ 0 _ rfl; (with_reducible repeat (first | refine bN ?_ _ | refine bD ?_ | refine bA ?_ _)); exact BK324.out⟩, ⟨(Kd.R_reads' (by (with_reducible repeat (first | apply Ra | apply Rn | apply Rd)); exact (Kd.R_mono (Kd.R_far (p := ⟨gb324, 3, none⟩) (Kd.R_far (p := ⟨gb324, 2, none⟩) (Kd.R_far (p := ⟨gb324, 1, none⟩) (Kd.R_far (p := ⟨gb324, 0, none⟩) (Kd.R_mono HL322_1.out (fun k_ hk => (⟨hk, hk.2⟩ : _ ∧ k_ ≠ gb324))) (fun _ hk => hk.2) _) (fun _ hk => hk.2) _) (fun _ hk => hk.2) _) (fun _ hk => hk.2) _) (fun _ h_ => h_.1)))).2.2⟩, ⟨by repeat (first | (with_reducible first | exact HB.out | apply lA | apply lN | apply lD | refine lS ?_ GE301.out | refine lS ?_ GE324.out) | exact HB.out)⟩⟩
           case rest =>
            clear HC55
            try clear c1
            try clear c2
            try clear p2
            try clear c3
            try clear p3
            try clear q3
            try clear hx3
            try clear c4
            try clear c5
            try clear c6
            try clear p6
            try clear c10
            try clear c12
            try clear c12b0
            try clear c15
            try clear c15b0
            try clear c16
            try clear c16b0
            try clear c17
            try clear c17b0
            try clear c19
            try clear c19b0
            try clear c19b1
            try clear c22
            try clear c23
            try clear c23b0
            try clear c23b1
            try clear c25
            try clear c25b0
            try clear c26
            try clear c26b0
            try clear c30
            try clear c30b0
            try clear p30
            try clear q30
            try clear hx30
            try clear c31
            try clear p31
            try clear q31
            try clear hx31
            try clear c32
            try clear p32
            try clear q32
            try clear hx32
            try clear c33
            try clear c33b0
            try clear c34
            try clear c34b0
            try clear c35
            try clear c35b0
            try clear c37
            try clear c37b0
            try clear c38
            try clear c38b0
            try clear c44
            try clear c45
            try clear c45b0
            try clear c46
            try clear c46b0
            try clear c48
            try clear c48b0
            try clear c49
            try clear c49b0
            try clear c50
            try clear c51
            try clear c51b0
            try clear c52
            try clear c52b0
            try clear c53
            try clear c53b0
            try clear c54
            try clear c54b0
            try clear c57
            try clear c59
            try clear c60
            try clear hcz10_0
            try clear hcz10_1
            try clear hcz10_2
            try clear hcz10_3
            try clear hcz18_0
            try clear hcz18_1
            try clear hcz18_2
            try clear hcz18_3
            try clear hcz20_0
            try clear hcz20_1
            try clear hcz20_2
            try clear hcz20_3
            try clear hcz21_0
            try clear hcz21_1
            try clear hcz21_2
            try clear hcz21_3
            try clear hcz28_0
            try clear hcz28_1
            try clear hcz28_2
            try clear hcz28_3
            try clear hcz42_0
            try clear hcz42_1
            try clear hcz42_2
            try clear hcz42_3
            try clear hcz58_0
            try clear hcz58_1
            try clear hcz58_2
            try clear hcz58_3
            try clear hcz61_0
            try clear hcz61_1
            try clear hcz61_2
            try clear hcz61_3
            try clear hcz8_0
            try clear hcz8_1
            try clear hcz8_2
            try clear hcz8_3
            try clear hfz10_0
            try clear hfz10_1
            try clear hfz10_2
            try clear hfz10_3
            try clear hfz18_0
            try clear hfz18_1
            try clear hfz18_2
            try clear hfz18_3
            try clear hfz20_0
            try clear hfz20_1
            try clear hfz20_2
            try clear hfz20_3
            try clear hfz21_0
            try clear hfz21_1
            try clear hfz21_2
            try clear hfz21_3
            try clear hfz28_0
            try clear hfz28_1
            try clear hfz28_2
            try clear hfz28_3
            try clear hfz42_0
            try clear hfz42_1
            try clear hfz42_2
            try clear hfz42_3
            try clear hfz58_0
            try clear hfz58_1
            try clear hfz58_2
            try clear hfz58_3
            try clear hfz61_0
            try clear hfz61_1
            try clear hfz61_2
            try clear hfz61_3
            try clear hfz8_0
            try clear hfz8_1
            try clear hfz8_2
            try clear hfz8_3
            try clear hx307_0
            try clear hx307_1
            try clear hx308_0
            try clear hx308_1
            try clear hx309_0
            try clear hx309_1
            try clear hx310_0
            try clear hx310_1
            try clear hx314_0
            try clear hx315_0
            try clear hx315_1
            try clear hx316_0
            try clear hx316_1
            try clear hx316_2
            try clear hx316_3
            try clear hx316_4
            try clear hx316_5
            try clear hx316_6
            try clear hx316_7
            try clear hx319_0
            try clear hx319_1
            try clear hx320_0
            try clear hx320_1
            try clear hx321_0
            try clear hx321_1
            try clear hx322_0
            try clear hx322_1
            try clear hx323_0
            try clear hx323_1
            try clear hx323_2
            try clear hx323_3
            try clear p2
            try clear p3
            try clear p30
            try clear p307
            try clear p308
            try clear p309
            try clear p31
            try clear p310
            try clear p314
            try clear p315
            try clear p316
            try clear p319
            try clear p32
            try clear p320
            try clear p321
            try clear p322
            try clear p323
            try clear p6
            try clear q3
            try clear q30
            try clear q307
            try clear q308
            try clear q309
            try clear q31
            try clear q310
            try clear q314
            try clear q315
            try clear q316
            try clear q319
            try clear q32
            try clear q320
            try clear q321
            try clear q322
            try clear q323
            obtain ⟨kq, x14_54, rfl, HA, HJ54, HO_4, BK301, BK324, HR322_1, HB⟩ := hcut
            cases kq with
            | zero => exact absurd HA.out (by simp [lambrequinlaw22_InterpSteps.j5])
            | succ kj54 =>
             have H := HA.out
             clear HA
             simp only [lambrequinlaw22_InterpSteps.j5] at H
             have HC62 := am H
             clear H
             go_upto_region 26 with (fail)
             repeat (go_quiet (fail); go_upto_region 26 with (fail))
             go_cut [170] (fun v170 wc => ∃ (kq : Nat) (x170_61 : Bool), v170 = .bool x170_61 ∧ Aside0 (lambrequinlaw22_InterpSteps.j6 kq t302 t304 x5_1 ((rd_T52 t304 (ji24)).place) t317 t318 x12_5 x170_61 l0_0 l0_1 l0_2 a0_3 = some r) ∧ Aside0 (kq ≤ kj54) ∧ Aside0 (Kd.S k52 52 wc w.heap.size (fun k_ => k_ ≠ gb324) (.slice (some ad310) t304.length co14) t304) ∧ Aside0 (wc.heap[gb301]? = some (.cells #[(.slice (some ad316) l0_0.length c0_0), (.slice A0_1 l0_1.length c0_1), (.slice A0_2 l0_2.length c0_2), .int .i64 a0_3] 43 (0, 0))) ∧ Aside0 (wc.heap[gb324]? = some (.cells #[.string ((rd_T54 ((rd_T52 t304 x5_1).vars) x12_5).name), .int .i64 ((rd_T54 ((rd_T52 t304 x5_1).vars) x12_5).n), .int .i64 ((rd_T54 ((rd_T52 t304 x5_1).vars) x12_5).last), .bool ((rd_T54 ((rd_T52 t304 x5_1).vars) x12_5).taint)] 54 (0, 0))) ∧ Aside0 (Kd.C k54 wc (some ad323) ((rd_T52 t304 x5_1).vars).length ((rd_T52 t304 x5_1).vars)) ∧ Aside0 (Below w.heap.size w wc))
             case first =>
              have H := HC62.out
              clear HC62
              by_cases c63 : x14_54 = true
              ·subst c63
               have H1 : (if ((rd_T54 ((rd_T52 t304 x5_1).vars) x12_5).last) = ((rd_T52 t304 (ji24)).place) then (lambrequinlaw22_InterpSteps.j6 kj54 t302 t304 x5_1 ((rd_T52 t304 (ji24)).place) t317 t318 x12_5 false l0_0 l0_1 l0_2 a0_3) else (lambrequinlaw22_InterpSteps.j6 kj54 t302 t304 x5_1 ((rd_T52 t304 (ji24)).place) t317 t318 x12_5 true l0_0 l0_1 l0_2 a0_3)) = some r := by rw [if_pos rfl] at H; exact H
               clear H
               have H := H1
               clear H1
               by_cases c64 : ((rd_T54 ((rd_T52 t304 x5_1).vars) x12_5).last) = ((rd_T52 t304 (ji24)).place)
               ·rw [if_pos c64] at H
                have c64b0 : (((rd_T54 ((rd_T52 t304 x5_1).vars) x12_5).last) == ((rd_T52 t304 (ji24)).place)) = true := beq_iff_eq.mpr c64
                have c64b1 : (((rd_T54 ((rd_T52 t304 x5_1).vars) x12_5).last) != ((rd_T52 t304 (ji24)).place)) = false := bne_eq_false_iff_eq.mpr c64
                clear c64
                (first | rw [c64b0] | (simp only [i64_w, i32_w]; rw [c64b0]) | skip)
                have H' := am H
                clear H
                have hnb65 := NB324_301.out
                have hnc65 := NB301_324.out
                have hcz66_0 : wc.cell? ⟨gb324, 0, none⟩ = some (.string ((rd_T54 ((rd_T52 t304 x5_1).vars) x12_5).name)) := (blk_cell BK324.out 0).trans rfl
                have hcz66_1 : wc.cell? ⟨gb324, 1, none⟩ = some (.int .i64 ((rd_T54 ((rd_T52 t304 x5_1).vars) x12_5).n)) := (blk_cell BK324.out 1).trans rfl
                have hcz66_2 : wc.cell? ⟨gb324, 2, none⟩ = some (.int .i64 ((rd_T54 ((rd_T52 t304 x5_1).vars) x12_5).last)) := (blk_cell BK324.out 2).trans rfl
                have hcz66_3 : wc.cell? ⟨gb324, 3, none⟩ = some (.bool ((rd_T54 ((rd_T52 t304 x5_1).vars) x12_5).taint)) := (blk_cell BK324.out 3).trans rfl
                have hfz66_0 := blk_frozen BK324.out 0
                have hfz66_1 := blk_frozen BK324.out 1
                have hfz66_2 := blk_frozen BK324.out 2
                have hfz66_3 := blk_frozen BK324.out 3
                go_wp2
                repeat (go_quiet (fail); try go_wp2)
                go_meet
                case rel => exact ⟨_, (false), (by first | rfl | (simp; done) | (simp [*]; done)), H', ⟨by have := HK1.out; have := HJ12.out; have := HK3.out; have := HJ39.out; have := HK5.out; have := HJ54.out; first | omega | exact Nat.le_refl _⟩, ⟨by (with_reducible repeat (first | apply Kd.S_alloc | apply Kd.S_drewN | apply Kd.S_drew)); exact HO_4.out⟩, ⟨by (with_reducible repeat (first | refine bN ?_ _ | refine bD ?_ | refine bA ?_ _)); exact BK301.out⟩, ⟨by (with_reducible repeat (first | refine bN ?_ _ | refine bD ?_ | refine bA ?_ _)); exact BK324.out⟩, ⟨by repeat (first | (with_reducible exact HR322_1.out) | (with_reducible refine Kd.C_alloc ?_ _) | (with_reducible refine Kd.C_drewN ?_ _) | (with_reducible refine Kd.C_drew ?_) | exact HR322_1.out)⟩, ⟨by repeat (first | (with_reducible first | exact HB.out | apply lA | apply lN | apply lD | refine lS ?_ GE301.out | refine lS ?_ GE324.out) | exact HB.out)⟩⟩
               rw [if_neg c64] at H
               have c64b0 : (((rd_T54 ((rd_T52 t304 x5_1).vars) x12_5).last) == ((rd_T52 t304 (ji24)).place)) = false := beq_eq_false_iff_ne.mpr c64
               have c64b1 : (((rd_T54 ((rd_T52 t304 x5_1).vars) x12_5).last) != ((rd_T52 t304 (ji24)).place)) = true := bne_iff_ne.mpr c64
               (first | rw [c64b0] | (simp only [i64_w, i32_w]; rw [c64b0]) | skip)
               have H' := am H
               clear H
               have hnb67 := NB324_301.out
               have hnc67 := NB301_324.out
               have hcz68_0 : wc.cell? ⟨gb324, 0, none⟩ = some (.string ((rd_T54 ((rd_T52 t304 x5_1).vars) x12_5).name)) := (blk_cell BK324.out 0).trans rfl
               have hcz68_1 : wc.cell? ⟨gb324, 1, none⟩ = some (.int .i64 ((rd_T54 ((rd_T52 t304 x5_1).vars) x12_5).n)) := (blk_cell BK324.out 1).trans rfl
               have hcz68_2 : wc.cell? ⟨gb324, 2, none⟩ = some (.int .i64 ((rd_T54 ((rd_T52 t304 x5_1).vars) x12_5).last)) := (blk_cell BK324.out 2).trans rfl
               have hcz68_3 : wc.cell? ⟨gb324, 3, none⟩ = some (.bool ((rd_T54 ((rd_T52 t304 x5_1).vars) x12_5).taint)) := (blk_cell BK324.out 3).trans rfl
               have hfz68_0 := blk_frozen BK324.out 0
               have hfz68_1 := blk_frozen BK324.out 1
               have hfz68_2 := blk_frozen BK324.out 2
               have hfz68_3 := blk_frozen BK324.out 3
               go_wp2
               repeat (go_quiet (fail); try go_wp2)
               go_meet
               case rel => exact ⟨_, (true), (by first | rfl | (simp; done) | (simp [*]; done)), H', ⟨by have := HK1.out; have := HJ12.out; have := HK3.out; have := HJ39.out; have := HK5.out; have := HJ54.out; first | omega | exact Nat.le_refl _⟩, ⟨by (with_reducible repeat (first | apply Kd.S_alloc | apply Kd.S_drewN | apply Kd.S_drew)); exact HO_4.out⟩, ⟨by (with_reducible repeat (first | refine bN ?_ _ | refine bD ?_ | refine bA ?_ _)); exact BK301.out⟩, ⟨by (with_reducible repeat (first | refine bN ?_ _ | refine bD ?_ | refine bA ?_ _)); exact BK324.out⟩, ⟨by repeat (first | (with_reducible exact HR322_1.out) | (with_reducible refine Kd.C_alloc ?_ _) | (with_reducible refine Kd.C_drewN ?_ _) | (with_reducible refine Kd.C_drew ?_) | exact HR322_1.out)⟩, ⟨by repeat (first | (with_reducible first | exact HB.out | apply lA | apply lN | apply lD | refine lS ?_ GE301.out | refine lS ?_ GE324.out) | exact HB.out)⟩⟩
              replace c63 := Bool.eq_false_iff.mpr c63
              subst c63
              have H1 : (if 0 ≤ (wrap64 (x5_1 - 1)) then (if (wrap64 (x5_1 - 1)) < (t304.length : Int) then (if 0 ≤ x12_5 then (if x12_5 < (((rd_T52 t304 (wrap64 (x5_1 - 1))).vars).length : Int) then (lambrequinlaw22_InterpSteps.j6 kj54 t302 t304 x5_1 ((rd_T52 t304 (ji24)).place) t317 t318 x12_5 (!(((rd_T54 ((rd_T52 t304 x5_1).vars) x12_5).name).toList == (((rd_T54 ((rd_T52 t304 (wrap64 (x5_1 - 1))).vars) x12_5).name).toList)) || (!(((rd_T54 ((rd_T52 t304 x5_1).vars) x12_5).n) == ((rd_T54 ((rd_T52 t304 (wrap64 (x5_1 - 1))).vars) x12_5).n)) || (!(((rd_T54 ((rd_T52 t304 x5_1).vars) x12_5).last) == ((rd_T54 ((rd_T52 t304 (wrap64 (x5_1 - 1))).vars) x12_5).last)) || (!(((rd_T54 ((rd_T52 t304 x5_1).vars) x12_5).taint) == ((rd_T54 ((rd_T52 t304 (wrap64 (x5_1 - 1))).vars) x12_5).taint)))))) l0_0 l0_1 l0_2 a0_3) else (none)) else (none)) else (none)) else (none)) = some r := by rw [if_neg (show ¬ (false = true) by decide)] at H; exact H
              clear H
              have H := H1
              clear H1
              obtain ⟨ji69, hji69⟩ : ∃ j_ : Int, (wrap64 (x5_1 - 1)) = j_ := ⟨_, rfl⟩
              replace H : (if 0 ≤ (ji69) then (if (ji69) < (t304.length : Int) then (if 0 ≤ x12_5 then (if x12_5 < (((rd_T52 t304 (ji69)).vars).length : Int) then (lambrequinlaw22_InterpSteps.j6 kj54 t302 t304 x5_1 ((rd_T52 t304 (ji24)).place) t317 t318 x12_5 (!(((rd_T54 ((rd_T52 t304 x5_1).vars) x12_5).name).toList == (((rd_T54 ((rd_T52 t304 (ji69)).vars) x12_5).name).toList)) || (!(((rd_T54 ((rd_T52 t304 x5_1).vars) x12_5).n) == ((rd_T54 ((rd_T52 t304 (ji69)).vars) x12_5).n)) || (!(((rd_T54 ((rd_T52 t304 x5_1).vars) x12_5).last) == ((rd_T54 ((rd_T52 t304 (ji69)).vars) x12_5).last)) || (!(((rd_T54 ((rd_T52 t304 x5_1).vars) x12_5).taint) == ((rd_T54 ((rd_T52 t304 (ji69)).vars) x12_5).taint)))))) l0_0 l0_1 l0_2 a0_3) else (none)) else (none)) else (none)) else (none)) = some r := by first | (rw [hji69] at H; exact H) | (simp only [hji69] at H ⊢; exact H)
              have hji69w : (IntKind.i64.wrap (x5_1 - 1)) = ji69 := (i64_w _).trans hji69
              (try clear hji24w)
              (try clear hji47w)
              by_cases c70 : 0 ≤ (ji69)
              rotate_left
              ·rw [if_neg c70] at H
               exact absurd H (by simp)
              rw [if_pos c70] at H
              have c70b0 : decide (0 ≤ (ji69)) = true := decide_eq_true c70
              clear c70
              by_cases c71 : (ji69) < (t304.length : Int)
              rotate_left
              ·rw [if_neg c71] at H
               exact absurd H (by simp)
              rw [if_pos c71] at H
              have c71b0 : decide ((ji69) < (t304.length : Int)) = true := decide_eq_true c71
              clear c71
              by_cases c72 : 0 ≤ x12_5
              rotate_left
              ·rw [if_neg c72] at H
               exact absurd H (by simp)
              rw [if_pos c72] at H
              have c72b0 : decide (0 ≤ x12_5) = true := decide_eq_true c72
              clear c72
              by_cases c73 : x12_5 < (((rd_T52 t304 (ji69)).vars).length : Int)
              rotate_left
              ·rw [if_neg c73] at H
               exact absurd H (by simp)
              rw [if_pos c73] at H
              have c73b0 : decide (x12_5 < (((rd_T52 t304 (ji69)).vars).length : Int)) = true := decide_eq_true c73
              clear c73
              have H' := am H
              clear H
              have hnb74 := NB324_301.out
              have hnc74 := NB301_324.out
              have hcz75_0 : wc.cell? ⟨gb324, 0, none⟩ = some (.string ((rd_T54 ((rd_T52 t304 x5_1).vars) x12_5).name)) := (blk_cell BK324.out 0).trans rfl
              have hcz75_1 : wc.cell? ⟨gb324, 1, none⟩ = some (.int .i64 ((rd_T54 ((rd_T52 t304 x5_1).vars) x12_5).n)) := (blk_cell BK324.out 1).trans rfl
              have hcz75_2 : wc.cell? ⟨gb324, 2, none⟩ = some (.int .i64 ((rd_T54 ((rd_T52 t304 x5_1).vars) x12_5).last)) := (blk_cell BK324.out 2).trans rfl
              have hcz75_3 : wc.cell? ⟨gb324, 3, none⟩ = some (.bool ((rd_T54 ((rd_T52 t304 x5_1).vars) x12_5).taint)) := (blk_cell BK324.out 3).trans rfl
              have hfz75_0 := blk_frozen BK324.out 0
              have hfz75_1 := blk_frozen BK324.out 1
              have hfz75_2 := blk_frozen BK324.out 2
              have hfz75_3 := blk_frozen BK324.out 3
              have p325 : 0 ≤ ((ji69) : Int) := of_decide_eq_true (by first | (with_reducible assumption) | assumption)
              have q325 : (ji69) < (t304.length : Int) := of_decide_eq_true (by first | (with_reducible assumption) | assumption)
              obtain ⟨ad325, A325_1, c325_1, e325, hx325_0, hx325_1, hl325_1, hi325_1⟩ := at_T52 (Kd.S_reads' HO_4.out).2.2 (ji69) p325 q325
              obtain rfl : ad310 = ad325 := (by injection e325)
              obtain ⟨ce325, hce325, hMe325, hcc325⟩ := Kd.S_get HO_4.out z52 (ji69) p325 (by first | exact q325 | exact of_decide_eq_true (by first | (with_reducible assumption) | assumption) | (have e_ := (Kd.S_reads' HO_4.out).1; omega))
              obtain ⟨ve325_1, rfl, ge325_1⟩ := k52_openM hMe325
              have hv325_1 := hcc325 1 _ rfl
              rw [add_field _ _ 1 (by omega)] at hv325_1
              replace hv325_1 := Option.some.inj (hv325_1.symm.trans hx325_1)
              rw [hv325_1] at ge325_1
              have HL325_1 := am (show Kd.R k54 54 _ _ _ _ ((rd_T52 t304 (ji69)).vars) from ge325_1)
              clear hv325_1 ge325_1
              clear hcc325 hce325
              have HR325_1 := am hi325_1
              have HC325_1 := am hl325_1
              clear hi325_1 hl325_1
              replace p325 := eq_true p325
              replace q325 := eq_true q325
              have p326 : 0 ≤ (x12_5 : Int) := of_decide_eq_true (by first | (with_reducible assumption) | assumption)
              have q326 : x12_5 < (((rd_T52 t304 (ji69)).vars).length : Int) := of_decide_eq_true (by first | (with_reducible assumption) | assumption)
              obtain ⟨ad326, e326, hx326_0, hx326_1, hx326_2, hx326_3⟩ := at_T54 (by repeat (first | (with_reducible exact HR325_1.out) | (with_reducible refine Kd.C_alloc ?_ _) | (with_reducible refine Kd.C_drewN ?_ _) | (with_reducible refine Kd.C_drew ?_) | exact HR325_1.out)) x12_5 p326 q326
              cases e326
              replace p326 := eq_true p326
              replace q326 := eq_true q326
              go_wp2
              repeat (go_quiet (fail); try go_wp2)
              go_meet
              case rel => exact ⟨_, ((!(((rd_T54 ((rd_T52 t304 x5_1).vars) x12_5).name).toList == (((rd_T54 ((rd_T52 t304 (ji69)).vars) x12_5).name).toList)) || (!(((rd_T54 ((rd_T52 t304 x5_1).vars) x12_5).n) == ((rd_T54 ((rd_T52 t304 (ji69)).vars) x12_5).n)) || (!(((rd_T54 ((rd_T52 t304 x5_1).vars) x12_5).last) == ((rd_T54 ((rd_T52 t304 (ji69)).vars) x12_5).last)) || (!(((rd_T54 ((rd_T52 t304 x5_1).vars) x12_5).taint) == ((rd_T54 ((rd_T52 t304 (ji69)).vars) x12_5).taint))))))), (by first | rfl | (simp; done) | (simp only [← hji69] <;> (first | rfl | simp)) | (simp [*]; done)), H', ⟨by have := HK1.out; have := HJ12.out; have := HK3.out; have := HJ39.out; have := HK5.out; have := HJ54.out; first | omega | exact Nat.le_refl _⟩, ⟨by (with_reducible repeat (first | apply Kd.S_alloc | apply Kd.S_drewN | apply Kd.S_drew)); exact HO_4.out⟩, ⟨by (with_reducible repeat (first | refine bN ?_ _ | refine bD ?_ | refine bA ?_ _)); exact BK301.out⟩, ⟨by (with_reducible repeat (first | refine bN ?_ _ | refine bD ?_ | refine bA ?_ _)); exact BK324.out⟩, ⟨by repeat (first | (with_reducible exact HR322_1.out) | (with_reducible refine Kd.C_alloc ?_ _) | (with_reducible refine Kd.C_drewN ?_ _) | (with_reducible refine Kd.C_drew ?_) | exact HR322_1.out)⟩, ⟨by repeat (first | (with_reducible first | exact HB.out | apply lA | apply lN | apply lD | refine lS ?_ GE301.out | refine lS ?_ GE324.out) | exact HB.out)⟩⟩
             case rest =>
              clear HC62
              try clear c1
              try clear c2
              try clear p2
              try clear c3
              try clear p3
              try clear q3
              try clear hx3
              try clear c4
              try clear c5
              try clear c6
              try clear p6
              try clear c7
              try clear c10
              try clear c12
              try clear c12b0
              try clear c15
              try clear c15b0
              try clear c16
              try clear c16b0
              try clear c17
              try clear c17b0
              try clear c19
              try clear c19b0
              try clear c19b1
              try clear c22
              try clear c23
              try clear c23b0
              try clear c23b1
              try clear c25
              try clear c25b0
              try clear c26
              try clear c26b0
              try clear c30
              try clear c30b0
              try clear p30
              try clear q30
              try clear hx30
              try clear c31
              try clear p31
              try clear q31
              try clear hx31
              try clear c32
              try clear p32
              try clear q32
              try clear hx32
              try clear c33
              try clear c33b0
              try clear c34
              try clear c34b0
              try clear c35
              try clear c35b0
              try clear c37
              try clear c37b0
              try clear c38
              try clear c38b0
              try clear c44
              try clear c45
              try clear c45b0
              try clear c46
              try clear c46b0
              try clear c48
              try clear c48b0
              try clear c49
              try clear c49b0
              try clear c50
              try clear c51
              try clear c51b0
              try clear c52
              try clear c52b0
              try clear c53
              try clear c53b0
              try clear c54
              try clear c54b0
              try clear c57
              try clear c59
              try clear c60
              try clear c63
              try clear c64
              try clear c64b0
              try clear c64b1
              try clear p64
              try clear c65
              try clear c67
              try clear c70
              try clear c70b0
              try clear c71
              try clear c71b0
              try clear c72
              try clear c72b0
              try clear c73
              try clear c73b0
              try clear c74
              try clear hcz10_0
              try clear hcz10_1
              try clear hcz10_2
              try clear hcz10_3
              try clear hcz18_0
              try clear hcz18_1
              try clear hcz18_2
              try clear hcz18_3
              try clear hcz20_0
              try clear hcz20_1
              try clear hcz20_2
              try clear hcz20_3
              try clear hcz21_0
              try clear hcz21_1
              try clear hcz21_2
              try clear hcz21_3
              try clear hcz28_0
              try clear hcz28_1
              try clear hcz28_2
              try clear hcz28_3
              try clear hcz42_0
              try clear hcz42_1
              try clear hcz42_2
              try clear hcz42_3
              try clear hcz58_0
              try clear hcz58_1
              try clear hcz58_2
              try clear hcz58_3
              try clear hcz61_0
              try clear hcz61_1
              try clear hcz61_2
              try clear hcz61_3
              try clear hcz66_0
              try clear hcz66_1
              try clear hcz66_2
              try clear hcz66_3
              try clear hcz68_0
              try clear hcz68_1
              try clear hcz68_2
              try clear hcz68_3
              try clear hcz75_0
              try clear hcz75_1
              try clear hcz75_2
              try clear hcz75_3
              try clear hcz8_0
              try clear hcz8_1
              try clear hcz8_2
              try clear hcz8_3
              try clear hfz10_0
              try clear hfz10_1
              try clear hfz10_2
              try clear hfz10_3
              try clear hfz18_0
              try clear hfz18_1
              try clear hfz18_2
              try clear hfz18_3
              try clear hfz20_0
              try clear hfz20_1
              try clear hfz20_2
              try clear hfz20_3
              try clear hfz21_0
              try clear hfz21_1
              try clear hfz21_2
              try clear hfz21_3
              try clear hfz28_0
              try clear hfz28_1
              try clear hfz28_2
              try clear hfz28_3
              try clear hfz42_0
              try clear hfz42_1
              try clear hfz42_2
              try clear hfz42_3
              try clear hfz58_0
              try clear hfz58_1
              try clear hfz58_2
              try clear hfz58_3
              try clear hfz61_0
              try clear hfz61_1
              try clear hfz61_2
              try clear hfz61_3
              try clear hfz66_0
              try clear hfz66_1
              try clear hfz66_2
              try clear hfz66_3
              try clear hfz68_0
              try clear hfz68_1
              try clear hfz68_2
              try clear hfz68_3
              try clear hfz75_0
              try clear hfz75_1
              try clear hfz75_2
              try clear hfz75_3
              try clear hfz8_0
              try clear hfz8_1
              try clear hfz8_2
              try clear hfz8_3
              try clear hx307_0
              try clear hx307_1
              try clear hx308_0
              try clear hx308_1
              try clear hx309_0
              try clear hx309_1
              try clear hx310_0
              try clear hx310_1
              try clear hx314_0
              try clear hx315_0
              try clear hx315_1
              try clear hx316_0
              try clear hx316_1
              try clear hx316_2
              try clear hx316_3
              try clear hx316_4
              try clear hx316_5
              try clear hx316_6
              try clear hx316_7
              try clear hx319_0
              try clear hx319_1
              try clear hx320_0
              try clear hx320_1
              try clear hx321_0
              try clear hx321_1
              try clear hx322_0
              try clear hx322_1
              try clear hx323_0
              try clear hx323_1
              try clear hx323_2
              try clear hx323_3
              try clear hx325_0
              try clear hx325_1
              try clear hx326_0
              try clear hx326_1
              try clear hx326_2
              try clear hx326_3
              try clear p2
              try clear p3
              try clear p30
              try clear p307
              try clear p308
              try clear p309
              try clear p31
              try clear p310
              try clear p314
              try clear p315
              try clear p316
              try clear p319
              try clear p32
              try clear p320
              try clear p321
              try clear p322
              try clear p323
              try clear p325
              try clear p326
              try clear p6
              try clear q3
              try clear q30
              try clear q307
              try clear q308
              try clear q309
              try clear q31
              try clear q310
              try clear q314
              try clear q315
              try clear q316
              try clear q319
              try clear q32
              try clear q320
              try clear q321
              try clear q322
              try clear q323
              try clear q325
              try clear q326
              obtain ⟨kq, x170_61, rfl, HA, HJ61, HO_4, BK301, BK324, HR322_1, HB⟩ := hcut
              cases kq with
              | zero => exact absurd HA.out (by simp [lambrequinlaw22_InterpSteps.j6])
              | succ kj61 =>
               have H := HA.out
               clear HA
               simp only [lambrequinlaw22_InterpSteps.j6] at H
               by_cases c76 : x170_61 = true
               ·subst c76
                have H1 : (some false) = some r := by rw [if_pos rfl] at H; exact H
                clear H
                have H := H1
                clear H1
                obtain rfl := Option.some.inj H
                go_wp2
                repeat (go_quiet (fail); try go_wp2)
                go_ret
                exact ⟨by first | rfl | (simp [errW_none, errW_some] <;> rfl) | (simp only [← hji24]; first | rfl | (simp [errW_none, errW_some] <;> rfl)) | (simp [*, errW_none, errW_some] <;> rfl), by repeat (first | (with_reducible first | exact HB.out | apply lA | apply lN | apply lD | refine lS ?_ GE301.out | refine lS ?_ GE324.out) | exact HB.out)⟩
               replace c76 := Bool.eq_false_iff.mpr c76
               subst c76
               have H1 : (lambrequinlaw22_InterpSteps.l2 kj61 t302 t304 x5_1 ((rd_T52 t304 (ji24)).place) t317 t318 (wrap64 (x12_5 + 1)) l0_0 l0_1 l0_2 a0_3) = some r := by rw [if_neg (show ¬ (false = true) by decide)] at H; exact H
               clear H
               have H := H1
               clear H1
               have H' := am H
               clear H
               go_wp2
               repeat (go_quiet (fail); try go_wp2)
               go_roundg kj61
               case measure => have := HK1.out; have := HJ12.out; have := HK3.out; have := HJ39.out; have := HK5.out; have := HJ54.out; have := HJ61.out; omega
               case rel => exact ⟨(wrap64 (x12_5 + 1)), (by first | rfl | (simp; done) | (simp [*]; done)), H', ⟨by have := HK1.out; have := HJ12.out; have := HK3.out; have := HJ39.out; have := HK5.out; have := HJ54.out; have := HJ61.out; omega⟩, ⟨by (with_reducible repeat (first | apply Kd.S_alloc | apply Kd.S_drewN | apply Kd.S_drew)); exact Kd.S_mono HO_4.out (fun _ hk => trivial)⟩, ⟨by (with_reducible repeat (first | refine bN ?_ _ | refine bD ?_ | refine bA ?_ _)); exact BK301.out⟩, ⟨by repeat (first | (with_reducible first | exact HB.out | apply lA | apply lN | apply lD | refine lS ?_ GE301.out | refine lS ?_ GE324.out) | exact HB.out)⟩⟩
end Go.Proofs.Ytnepgcbgkhikkaa.H
/- InterpSteps: visits begin at 0, and each is one to which the visit ahead of it leads; only what a statement defines changes, and is written by it. Conditions: the statement's own. -/
namespace Go.Proofs.Ytnepgcbgkhikkaa.H
open Go.RowKit Go.Proofs.YtnepgcbgkhikkaaW.PrintWords Go.Proofs.YtnepgcbgkhikkaaW.PrintMore
set_option linter.unusedVariables false
set_option linter.unusedSimpArgs false
set_option linter.unusedSectionVars false
section
variable (l : List Stmt) (ins : List Int) (ora : List Bool) (most : Int) (s : St) (m : Nat) (hl : l.length ≤ 1000) (hm : m ≤ 1000) (hin : ∀ i, i < m → inS l (sN l s i)) (hnm : ∀ i, i < m → (sN l s i).vs.map Var.name = nmsV l) (hmost : (m : Int) ≤ mx most 0) (h00 : s.n = 0)
include hl hm hin hnm hmost h00
theorem St_vars (i : Nat) (hi : i < m) : (visS (sN l s i)).vars = (sN l s i).vs ∧ (visS (sN l s i)).place = (sN l s i).n ∧ (sN l s i).vs.length ≤ 10000 := by
  refine ⟨rfl, rfl, ?_⟩
  have h1 := congrArg List.length (hnm i hi)
  have h2 := names_len l
  rw [List.length_map] at h1
  unfold nmsV at h1
  omega
set_option maxHeartbeats 4000000 in
theorem St_l2 (i : Nat) (hi : i + 1 < m) (st : Stmt) (he : l[(sN l s i).n.toNat]? = some st) (R : Bool) (go : Ev (fun n => lambrequinlaw22_InterpSteps.l0 n true (visN l s m) ((i + 1 + 1 : Nat) : Int) l ins ora most) R) : ∀ (r : List Var) (j : Nat), (sN l s (i + 1)).vs.drop j = r →
    Ev (fun n => lambrequinlaw22_InterpSteps.l2 n true (visN l s m) ((i + 1 : Nat) : Int) (sN l s i).n (defN st).1 (defN st).2 j l ins ora most) R
  | [], j, h => by
    obtain ⟨e1, e2, e3⟩ := St_vars l most s m hl hm hin hnm hmost h00 (i + 1) hi
    refine Ev.step (fun k => by rw [lambrequinlaw22_InterpSteps.l2]) (Ev.pos (by omega) (Ev.pos (by rw [visN_len]; omega) ?_))
    rw [vis_at hi, e1, wrap_up (n := i + 1) (by omega)]
    exact Ev.neg (drop_end h) go
  | v :: r, j, h => by
    obtain ⟨e1, e2, e3⟩ := St_vars l most s m hl hm hin hnm hmost h00 (i + 1) hi
    obtain ⟨f1, f2, f3⟩ := St_vars l most s m hl hm hin hnm hmost h00 i (by omega)
    obtain ⟨h1, h2, h3, h4, h5⟩ := drop_more h (by omega)
    have ih := St_l2 i hi st he R go r (j + 1) h4
    have hvj : (sN l s (i + 1)).vs[j]? = some v := by
      have := congrArg (fun z => z[0]?) h
      simpa using this
    have hI := hin i (by omega)
    have hw : wrap64 (((i + 1 : Nat) : Int) - 1) = (i : Int) := by unfold wrap64; omega
    refine Ev.step (fun k => by rw [lambrequinlaw22_InterpSteps.l2]) (Ev.pos (by omega) (Ev.pos (by rw [visN_len]; omega) ?_))
    rw [vis_at hi, e1]
    refine Ev.pos h1 (Ev.pos h2 ?_)
    rw [show rd_T54 (sN l s (i + 1)).vs j = v from h3 _]
    have fin : Ev (fun n => lambrequinlaw22_InterpSteps.j6 n true (visN l s m) ((i + 1 : Nat) : Int) (sN l s i).n (defN st).1 (defN st).2 j false l ins ora most) R := by
      refine Ev.step (fun k => by rw [lambrequinlaw22_InterpSteps.j6]) (Ev.neg (by simp) ?_)
      rw [h5]
      exact ih
    have own : defK st → v.name = st.x → v.last = (sN l s i).n := by
      intro hk hx
      rcases vars_next hI (hnm i (by omega)) he hvj with ⟨hd, -⟩ | ⟨-, rfl⟩
      · exact absurd ⟨hk, hx.symm⟩ hd
      · rw [(madeV_name _ _ _ _).2]
        have := hI.1
        omega
    have oth : ¬ (defK st ∧ v.name = st.x) → (sN l s i).vs[j]? = some v := by
      intro hn
      rcases vars_next hI (hnm i (by omega)) he hvj with ⟨-, hv⟩ | ⟨hk, rfl⟩
      · exact hv
      · exact absurd ⟨hk, (madeV_name _ _ _ _).1⟩ hn
    have same : (sN l s i).vs[j]? = some v → Ev (fun n => lambrequinlaw22_InterpSteps.j5 n true (visN l s m) ((i + 1 : Nat) : Int) (sN l s i).n (defN st).1 (defN st).2 j false l ins ora most v.name v.n v.last v.taint) R := by
      intro hv
      have hlt := (List.getElem?_eq_some_iff.1 hv).1
      refine Ev.step (fun k => by rw [lambrequinlaw22_InterpSteps.j5]) (Ev.neg (by simp) ?_)
      rw [hw]
      refine Ev.pos (by omega) (Ev.pos (by rw [visN_len]; omega) (Ev.pos h2 ?_))
      rw [vis_at (show i < m by omega), f1, show rd_T54 (sN l s i).vs j = v from getD_at hv _]
      refine Ev.pos (Int.ofNat_lt.2 hlt) ?_
      simp only [beq_self_eq_true, Bool.not_true, Bool.or_self]
      exact fin
    by_cases hk : defK st
    · have ed : defN st = (st.x, true) := by unfold defN; unfold defK at hk; rw [if_pos hk]
      rw [ed] at fin same ⊢
      refine Ev.pos rfl ?_
      by_cases hx : v.name = st.x
      · rw [(ba_beq hx).1]
        exact Ev.step (fun k => by rw [lambrequinlaw22_InterpSteps.j5]) (Ev.pos rfl (Ev.pos (own hk hx) fin))
      · rw [(ba_bne hx).1]
        exact same (oth (fun h => hx h.2))
    · have ed : defN st = ((⟨#[]⟩ : ByteArray), false) := by unfold defN; unfold defK at hk; rw [if_neg hk]
      rw [ed] at fin same ⊢
      exact Ev.neg (by simp) (same (oth (fun h => hk h.1)))
set_option maxHeartbeats 4000000 in
theorem St_l1 (i : Nat) (hi : i + 1 < m) (st : Stmt) (he : l[(sN l s i).n.toNat]? = some st) (R : Bool) (go : Ev (fun n => lambrequinlaw22_InterpSteps.l0 n true (visN l s m) ((i + 1 + 1 : Nat) : Int) l ins ora most) R) : ∀ (r : List Int) (j : Nat) (b : Bool), (nxt l (sN l s i).n).drop j = r → (b = true ∨ (sN l s (i + 1)).n ∈ r) →
    Ev (fun n => lambrequinlaw22_InterpSteps.l1 n true (visN l s m) ((i + 1 : Nat) : Int) (sN l s i).n b (nxt l (sN l s i).n) j l ins ora most) R
  | [], j, b, h, hb => by
    obtain ⟨e1, e2, e3⟩ := St_vars l most s m hl hm hin hnm hmost h00 (i + 1) hi
    obtain ⟨f1, f2, f3⟩ := St_vars l most s m hl hm hin hnm hmost h00 i (by omega)
    have hI := hin i (by omega)
    obtain ⟨i0, i1⟩ := hI
    have hw : wrap64 (((i + 1 : Nat) : Int) - 1) = (i : Int) := by unfold wrap64; omega
    have hb1 : b = true := by rcases hb with h | h; exact h; simp at h
    subst hb1
    refine Ev.step (fun k => by rw [lambrequinlaw22_InterpSteps.l1]) (Ev.neg (drop_end h) (Ev.pos i0 (Ev.pos i1 ?_)))
    rw [stmt_at ⟨i0, i1⟩ he]
    refine Ev.pure (Def_eq st) (Ev.pos rfl (Ev.pos (by omega) (Ev.pos (by rw [visN_len]; omega) ?_)))
    rw [hw]
    refine Ev.pos (by omega) (Ev.pos (by rw [visN_len]; omega) ?_)
    rw [vis_at hi, vis_at (show i < m by omega), e1, f1]
    have hle : (((sN l s (i + 1)).vs.length : Int) != ((sN l s i).vs.length : Int)) = false := by
      have h1 := congrArg List.length (hnm (i + 1) hi)
      have h2 := congrArg List.length (hnm i (by omega))
      rw [List.length_map] at h1 h2
      simp [h1, h2]
    rw [hle]
    refine Ev.step (fun k => by rw [lambrequinlaw22_InterpSteps.j3]) (Ev.neg (by simp) ?_)
    exact St_l2 l ins ora most s m hl hm hin hnm hmost h00 i hi st he R go _ 0 rfl
  | y :: r, j, b, h, hb => by
    obtain ⟨e1, e2, e3⟩ := St_vars l most s m hl hm hin hnm hmost h00 (i + 1) hi
    have hn2 := nxt_len l (sN l s i).n
    obtain ⟨h1, h2, h3, h4, h5⟩ := drop_more h (by omega)
    refine Ev.step (fun k => by rw [lambrequinlaw22_InterpSteps.l1]) (Ev.pos h1 ?_)
    rw [h5]
    cases b with
    | true => exact Ev.pos rfl (St_l1 i hi st he R go r (j + 1) true h4 (.inl rfl))
    | false =>
      refine Ev.neg (by simp) (Ev.pos h2 (Ev.pos (by omega) (Ev.pos (by rw [visN_len]; omega) ?_)))
      rw [vis_at hi, e2, show rd (nxt l (sN l s i).n) j = y from h3 _]
      refine St_l1 i hi st he R go r (j + 1) _ h4 ?_
      rcases hb with hb | hb
      · cases hb
      · rcases List.mem_cons.1 hb with hb | hb
        · left; simp [hb]
        · exact .inr hb
set_option maxHeartbeats 4000000 in
theorem St_l0 : ∀ (d i : Nat), i + d = m → Ev (fun n => lambrequinlaw22_InterpSteps.l0 n true (visN l s m) i l ins ora most) true
  | 0, i, hd => by
    exact Ev.step (fun k => by rw [lambrequinlaw22_InterpSteps.l0]) (Ev.neg (by rw [visN_len]; omega) (Ev.pos rfl (Ev.some (by rw [visN_len]; simpa using hmost))))
  | d + 1, i, hd => by
    have ih := St_l0 d (i + 1) (by omega)
    have hi : i < m := by omega
    obtain ⟨e1, e2, e3⟩ := St_vars l most s m hl hm hin hnm hmost h00 i hi
    obtain ⟨i0, i1⟩ := hin i hi
    refine Ev.step (fun k => by rw [lambrequinlaw22_InterpSteps.l0]) (Ev.pos (by rw [visN_len]; omega) (Ev.pos (by omega) ?_))
    rw [vis_at hi, e2]
    refine Ev.neg (by omega) (Ev.neg (by omega) ?_)
    cases i with
    | zero =>
      refine Ev.pos (show ((0 : Nat) : Int) = 0 from rfl) ?_
      rw [show ((sN l s 0).n != 0) = false by simp [sN, h00]]
      refine Ev.step (fun k => by rw [lambrequinlaw22_InterpSteps.j1]) (Ev.neg (by simp) (Ev.pos (show ((0 : Nat) : Int) = 0 from rfl) ?_))
      rw [wrap_up (n := 0) (by omega)]
      exact ih
    | succ i =>
      refine Ev.neg (by omega) ?_
      have hw : wrap64 (((i + 1 : Nat) : Int) - 1) = (i : Int) := by unfold wrap64; omega
      obtain ⟨f1, f2, f3⟩ := St_vars l most s m hl hm hin hnm hmost h00 i (by omega)
      refine Ev.step (fun k => by rw [lambrequinlaw22_InterpSteps.j1]) (Ev.neg (by simp) (Ev.neg (show ¬ ((i + 1 : Nat) : Int) = 0 by omega) ?_))
      rw [hw]
      refine Ev.pos (by omega) (Ev.pos (by rw [visN_len]; omega) ?_)
      rw [vis_at (show i < m by omega), f2]
      refine Ev.pure (Next_eq l _) ?_
      obtain ⟨st, he, -, -⟩ := inS_at (hin i (by omega))
      exact St_l1 l ins ora most s m hl hm hin hnm hmost h00 i hi st he true ih _ 0 false rfl (.inr (leads (hin i (by omega)) (hin (i + 1) hi)))
end
theorem InterpSteps_pure (x0 : Script) (n1 : x0.l.length ≤ 9223372036854775807) (n2 : x0.ins.length ≤ 9223372036854775807) (n3 : x0.ora.length ≤ 9223372036854775807) : ∃ k, lambrequinlaw22_InterpSteps.f k x0.l x0.ins x0.ora x0.most = some true := by
  obtain ⟨l, ins, ora, most⟩ := x0
  refine Ev.rounds (g := fun k => lambrequinlaw22_InterpSteps.f k l ins ora most) ?_
  unfold lambrequinlaw22_InterpSteps.f
  refine Ev.pure shown22 (Ev.pure (few_eq l ins ora most) ?_)
  by_cases hf : l.length ≤ 25 ∧ most ≤ 60
  case neg => exact Ev.neg (by simpa using hf) (Ev.now _)
  refine Ev.pos (by simpa using hf) ?_
  obtain ⟨m, hr, hin, hm, hout⟩ := Run_spec l ins ora most (by omega)
  refine Ev.pure hr ?_
  rw [mostV_small (by omega)] at hm
  exact St_l0 l ins ora most (s0 l ins ora) m (by omega) (by omega) hin (fun i hi => names_sN (names_s0 l ins ora) i (fun j hj => hin j (by omega))) (by unfold mx; split <;> omega) rfl m 0 (by omega)
theorem InterpSteps_walk (w : World) (x0 : Script) (A0_0 : Option Addr) (c0_0 : Nat) (l0_0 : x0.l.length ≤ c0_0) (g0_0 : Kd.C k30 w A0_0 x0.l.length x0.l) (A0_1 : Option Addr) (c0_1 : Nat) (l0_1 : x0.ins.length ≤ c0_1) (g0_1 : Kd.C (Kd.int .i64) w A0_1 x0.ins.length x0.ins) (A0_2 : Option Addr) (c0_2 : Nat) (l0_2 : x0.ora.length ≤ c0_2) (g0_2 : Kd.C Kd.bool w A0_2 x0.ora.length x0.ora) :
    Calls Try.prog 10 #[.agg #[.slice A0_0 x0.l.length c0_0, .slice A0_1 x0.ins.length c0_1, .slice A0_2 x0.ora.length c0_2, .int .i64 x0.most]] w fun e w' => e = .returned (.bool true) ∧ Below w.heap.size w w' := by
  obtain ⟨k, h⟩ := InterpSteps_pure x0 g0_0.2.1 g0_1.2.1 g0_2.2.1
  exact (lambrequinlaw22_InterpSteps.calls k A0_0 c0_0 x0.l A0_1 c0_1 x0.ins A0_2 c0_2 x0.ora x0.most true w g0_0 l0_0 g0_1 l0_1 g0_2 l0_2 h).mono (fun e w' h' => ⟨h'.1, h'.2⟩)
end Go.Proofs.Ytnepgcbgkhikkaa.H
