/- RowInterpLives of the seat's law InterpLives: the law holds, under the statement's own conditions. -/
import Derived.Test.YtnepgcbgkhikkaaNXInterpLives
import Derived.Test.YtnepgcbgkhikkaaNXInterpLives2
import Derived.Test.YtnepgcbgkhikkaaNXInterpLives1
namespace Go.Proofs.Ytnepgcbgkhikkaa.H
open Go.RowKit Go.Proofs.YtnepgcbgkhikkaaW.PrintWords Go.Proofs.YtnepgcbgkhikkaaW.PrintLast Go.Proofs.YtnepgcbgkhikkaaW.PrintMore
attribute [local go_sem] max2_int min2_int max_two min_two max_three min_three max_four min_four
set_option linter.unusedVariables false
set_option linter.unusedSimpArgs false
def lambrequinlaw20_shown.f (k : Nat)  : Option (Bool) := (some (([(⟨1, (⟨#[120]⟩ : ByteArray), (⟨#[]⟩ : ByteArray), (⟨#[]⟩ : ByteArray), (⟨#[]⟩ : ByteArray), 1, 0, 0⟩ : Stmt), (⟨6, (⟨#[]⟩ : ByteArray), (⟨#[120]⟩ : ByteArray), (⟨#[]⟩ : ByteArray), (⟨#[]⟩ : ByteArray), 0, 0, 0⟩ : Stmt), (⟨9, (⟨#[]⟩ : ByteArray), (⟨#[]⟩ : ByteArray), (⟨#[]⟩ : ByteArray), (⟨#[]⟩ : ByteArray), 0, 0, 0⟩ : Stmt)] : List (Stmt)) : List (Stmt))).bind fun y101 => ((cfg_Reaches.f k y101 1 (⟨#[120]⟩ : ByteArray) 0).bind fun t104 => (if t104 = true then ((cfg_Reaches.f k y101 2 (⟨#[120]⟩ : ByteArray) 0).bind fun t105 => (if t105 = true then ((cfg_Reaches.f k y101 0 (⟨#[120]⟩ : ByteArray) 0).bind fun t106 => (if t106 = true then (some false) else ((cfg_Lives.f k y101 1 (⟨#[120]⟩ : ByteArray)).bind fun t107 => (if t107 = true then ((cfg_Lives.f k y101 0 (⟨#[120]⟩ : ByteArray)).bind fun t108 => (if t108 = true then (some false) else ((cfg_Lives.f k y101 2 (⟨#[120]⟩ : ByteArray)).bind fun t109 => (if t109 = true then (some false) else ((cfg_Next.f y101 1).bind fun t110 => ((lambrequinref10_Ints.f k t110 (([2] : List Int))).bind fun t116 => (some t116))))))) else (some false))))) else (some false))) else (some false)))
theorem lambrequinlaw20_shown.mono : ∀ k, LeO (lambrequinlaw20_shown.f k ) (lambrequinlaw20_shown.f (k + 1) ) := by
 intro  k
 unfold lambrequinlaw20_shown.f
 repeat' first
   | (with_reducible exact cfg_Lives.mono _ _ _ _)
   | (with_reducible exact cfg_Reaches.mono _ _ _ _ _)
   | (with_reducible exact lambrequinref10_Ints.mono _ _ _)
   | (with_reducible exact LeO.refl _)
   | (with_reducible exact LeO.none _)
   | (with_reducible refine LeO.ite ?_ ?_)
   | (with_reducible refine LeO.bind ?_ (fun _ => ?_))
   | exact cfg_Lives.mono _ _ _ _
   | exact cfg_Reaches.mono _ _ _ _ _
   | exact lambrequinref10_Ints.mono _ _ _
   | exact LeO.none _
   | refine LeO.ite ?_ ?_
   | refine LeO.bind ?_ (fun _ => ?_)
set_option maxHeartbeats 8000000 in
set_option maxRecDepth 100000 in
theorem lambrequinlaw20_shown.calls (k : Nat)  (r : Bool) (w : World) (h : lambrequinlaw20_shown.f k  = some r) :
  Calls Try.prog 17 #[] w fun e w' => e = .returned (.bool r) ∧ Below w.heap.size w w' := by
 have hu30 := Try.underlying30
 have HB := am (Below.refl w.heap.size w)
 have H : ((some (([(⟨1, (⟨#[120]⟩ : ByteArray), (⟨#[]⟩ : ByteArray), (⟨#[]⟩ : ByteArray), (⟨#[]⟩ : ByteArray), 1, 0, 0⟩ : Stmt), (⟨6, (⟨#[]⟩ : ByteArray), (⟨#[120]⟩ : ByteArray), (⟨#[]⟩ : ByteArray), (⟨#[]⟩ : ByteArray), 0, 0, 0⟩ : Stmt), (⟨9, (⟨#[]⟩ : ByteArray), (⟨#[]⟩ : ByteArray), (⟨#[]⟩ : ByteArray), (⟨#[]⟩ : ByteArray), 0, 0, 0⟩ : Stmt)] : List (Stmt)) : List (Stmt))).bind fun y101 => ((cfg_Reaches.f k y101 1 (⟨#[120]⟩ : ByteArray) 0).bind fun t104 => (if t104 = true then ((cfg_Reaches.f k y101 2 (⟨#[120]⟩ : ByteArray) 0).bind fun t105 => (if t105 = true then ((cfg_Reaches.f k y101 0 (⟨#[120]⟩ : ByteArray) 0).bind fun t106 => (if t106 = true then (some false) else ((cfg_Lives.f k y101 1 (⟨#[120]⟩ : ByteArray)).bind fun t107 => (if t107 = true then ((cfg_Lives.f k y101 0 (⟨#[120]⟩ : ByteArray)).bind fun t108 => (if t108 = true then (some false) else ((cfg_Lives.f k y101 2 (⟨#[120]⟩ : ByteArray)).bind fun t109 => (if t109 = true then (some false) else ((cfg_Next.f y101 1).bind fun t110 => ((lambrequinref10_Ints.f k t110 (([2] : List Int))).bind fun t116 => (some t116))))))) else (some false))))) else (some false))) else (some false)))) = some r := h
 clear h
 obtain ⟨y101, hy101⟩ : ∃ y_ : List (Stmt), y_ = (([(⟨1, (⟨#[120]⟩ : ByteArray), (⟨#[]⟩ : ByteArray), (⟨#[]⟩ : ByteArray), (⟨#[]⟩ : ByteArray), 1, 0, 0⟩ : Stmt), (⟨6, (⟨#[]⟩ : ByteArray), (⟨#[120]⟩ : ByteArray), (⟨#[]⟩ : ByteArray), (⟨#[]⟩ : ByteArray), 0, 0, 0⟩ : Stmt), (⟨9, (⟨#[]⟩ : ByteArray), (⟨#[]⟩ : ByteArray), (⟨#[]⟩ : ByteArray), (⟨#[]⟩ : ByteArray), 0, 0, 0⟩ : Stmt)] : List (Stmt))) := ⟨_, rfl⟩
 replace H : ((cfg_Reaches.f k y101 1 (⟨#[120]⟩ : ByteArray) 0).bind fun t104 => (if t104 = true then ((cfg_Reaches.f k y101 2 (⟨#[120]⟩ : ByteArray) 0).bind fun t105 => (if t105 = true then ((cfg_Reaches.f k y101 0 (⟨#[120]⟩ : ByteArray) 0).bind fun t106 => (if t106 = true then (some false) else ((cfg_Lives.f k y101 1 (⟨#[120]⟩ : ByteArray)).bind fun t107 => (if t107 = true then ((cfg_Lives.f k y101 0 (⟨#[120]⟩ : ByteArray)).bind fun t108 => (if t108 = true then (some false) else ((cfg_Lives.f k y101 2 (⟨#[120]⟩ : ByteArray)).bind fun t109 => (if t109 = true then (some false) else ((cfg_Next.f y101 1).bind fun t110 => ((lambrequinref10_Ints.f k t110 (([2] : List Int))).bind fun t116 => (some t116))))))) else (some false))))) else (some false))) else (some false))) = some r := by first | (rw [hy101]; with_reducible exact H) | (have H2_ := (Option.bind_some _ _).symm.trans H; rw [hy101]; with_reducible exact H2_) | (have H2_ := (Option.bind_some _ _).symm.trans H; with_reducible exact H2_) | with_reducible exact H | (rw [hy101]; exact H) | exact H
 have Ny101 := am hy101
 clear hy101
 replace H := Option.bind_eq_some_iff.mp H
 obtain ⟨t104, A10, H⟩ := H
 replace H : (if t104 = true then ((cfg_Reaches.f k y101 2 (⟨#[120]⟩ : ByteArray) 0).bind fun t105 => (if t105 = true then ((cfg_Reaches.f k y101 0 (⟨#[120]⟩ : ByteArray) 0).bind fun t106 => (if t106 = true then (some false) else ((cfg_Lives.f k y101 1 (⟨#[120]⟩ : ByteArray)).bind fun t107 => (if t107 = true then ((cfg_Lives.f k y101 0 (⟨#[120]⟩ : ByteArray)).bind fun t108 => (if t108 = true then (some false) else ((cfg_Lives.f k y101 2 (⟨#[120]⟩ : ByteArray)).bind fun t109 => (if t109 = true then (some false) else ((cfg_Next.f y101 1).bind fun t110 => ((lambrequinref10_Ints.f k t110 (([2] : List Int))).bind fun t116 => (some t116))))))) else (some false))))) else (some false))) else (some false)) = some r := H
 have A1 := am A10
 clear A10
 by_cases c2 : t104 = true
 ·subst c2
  have H1 : ((cfg_Reaches.f k y101 2 (⟨#[120]⟩ : ByteArray) 0).bind fun t105 => (if t105 = true then ((cfg_Reaches.f k y101 0 (⟨#[120]⟩ : ByteArray) 0).bind fun t106 => (if t106 = true then (some false) else ((cfg_Lives.f k y101 1 (⟨#[120]⟩ : ByteArray)).bind fun t107 => (if t107 = true then ((cfg_Lives.f k y101 0 (⟨#[120]⟩ : ByteArray)).bind fun t108 => (if t108 = true then (some false) else ((cfg_Lives.f k y101 2 (⟨#[120]⟩ : ByteArray)).bind fun t109 => (if t109 = true then (some false) else ((cfg_Next.f y101 1).bind fun t110 => ((lambrequinref10_Ints.f k t110 (([2] : List Int))).bind fun t116 => (some t116))))))) else (some false))))) else (some false))) = some r := by rw [if_pos rfl] at H; exact H
  clear H
  have H := H1
  clear H1
  replace H := Option.bind_eq_some_iff.mp H
  obtain ⟨t105, A30, H⟩ := H
  replace H : (if t105 = true then ((cfg_Reaches.f k y101 0 (⟨#[120]⟩ : ByteArray) 0).bind fun t106 => (if t106 = true then (some false) else ((cfg_Lives.f k y101 1 (⟨#[120]⟩ : ByteArray)).bind fun t107 => (if t107 = true then ((cfg_Lives.f k y101 0 (⟨#[120]⟩ : ByteArray)).bind fun t108 => (if t108 = true then (some false) else ((cfg_Lives.f k y101 2 (⟨#[120]⟩ : ByteArray)).bind fun t109 => (if t109 = true then (some false) else ((cfg_Next.f y101 1).bind fun t110 => ((lambrequinref10_Ints.f k t110 (([2] : List Int))).bind fun t116 => (some t116))))))) else (some false))))) else (some false)) = some r := H
  have A3 := am A30
  clear A30
  by_cases c4 : t105 = true
  ·subst c4
   have H1 : ((cfg_Reaches.f k y101 0 (⟨#[120]⟩ : ByteArray) 0).bind fun t106 => (if t106 = true then (some false) else ((cfg_Lives.f k y101 1 (⟨#[120]⟩ : ByteArray)).bind fun t107 => (if t107 = true then ((cfg_Lives.f k y101 0 (⟨#[120]⟩ : ByteArray)).bind fun t108 => (if t108 = true then (some false) else ((cfg_Lives.f k y101 2 (⟨#[120]⟩ : ByteArray)).bind fun t109 => (if t109 = true then (some false) else ((cfg_Next.f y101 1).bind fun t110 => ((lambrequinref10_Ints.f k t110 (([2] : List Int))).bind fun t116 => (some t116))))))) else (some false))))) = some r := by rw [if_pos rfl] at H; exact H
   clear H
   have H := H1
   clear H1
   replace H := Option.bind_eq_some_iff.mp H
   obtain ⟨t106, A50, H⟩ := H
   replace H : (if t106 = true then (some false) else ((cfg_Lives.f k y101 1 (⟨#[120]⟩ : ByteArray)).bind fun t107 => (if t107 = true then ((cfg_Lives.f k y101 0 (⟨#[120]⟩ : ByteArray)).bind fun t108 => (if t108 = true then (some false) else ((cfg_Lives.f k y101 2 (⟨#[120]⟩ : ByteArray)).bind fun t109 => (if t109 = true then (some false) else ((cfg_Next.f y101 1).bind fun t110 => ((lambrequinref10_Ints.f k t110 (([2] : List Int))).bind fun t116 => (some t116))))))) else (some false)))) = some r := H
   have A5 := am A50
   clear A50
   by_cases c6 : t106 = true
   ·subst c6
    have H1 : (some false) = some r := by rw [if_pos rfl] at H; exact H
    clear H
    have H := H1
    clear H1
    obtain rfl := Option.some.inj H
    go_enter Try.func17, Try.ntmps17
    go_wp2_with (first | ((with_reducible refine gate_dst (N := 5) rfl ?_); (try (refine gate_guard (by rfl) ?_; dsimp only)); refine Kd.R_lit k30 _ 30 ?hg (N := 5) ?hd (xs := ([(⟨1, (⟨#[120]⟩ : ByteArray), (⟨#[]⟩ : ByteArray), (⟨#[]⟩ : ByteArray), (⟨#[]⟩ : ByteArray), 1, 0, 0⟩ : Stmt), (⟨6, (⟨#[]⟩ : ByteArray), (⟨#[120]⟩ : ByteArray), (⟨#[]⟩ : ByteArray), (⟨#[]⟩ : ByteArray), 0, 0, 0⟩ : Stmt), (⟨9, (⟨#[]⟩ : ByteArray), (⟨#[]⟩ : ByteArray), (⟨#[]⟩ : ByteArray), (⟨#[]⟩ : ByteArray), 0, 0, 0⟩ : Stmt)] : List (Stmt))) (inner := [.int .i64 1, .string (⟨#[120]⟩ : ByteArray), .string (⟨#[]⟩ : ByteArray), .string (⟨#[]⟩ : ByteArray), .string (⟨#[]⟩ : ByteArray), .int .i64 1, .int .i64 0, .int .i64 0, .int .i64 6, .string (⟨#[]⟩ : ByteArray), .string (⟨#[120]⟩ : ByteArray), .string (⟨#[]⟩ : ByteArray), .string (⟨#[]⟩ : ByteArray), .int .i64 0, .int .i64 0, .int .i64 0, .int .i64 9, .string (⟨#[]⟩ : ByteArray), .string (⟨#[]⟩ : ByteArray), .string (⟨#[]⟩ : ByteArray), .string (⟨#[]⟩ : ByteArray), .int .i64 0, .int .i64 0, .int .i64 0]) (ok := fun _ => True) (okp := fun _ => True) ?hr ?hp (fun _ hk => hk) trivial (Below.refl _ _) (Nat.le_refl _) (by simp) ?_; (case hd => rfl); (case hg => rfl); (case hr => first | (go_simp; done) | (go_simp; rfl)); (case hp => exact (Reps.c8 (show Kd.M k30 _ _ _ (⟨1, (⟨#[120]⟩ : ByteArray), (⟨#[]⟩ : ByteArray), (⟨#[]⟩ : ByteArray), (⟨#[]⟩ : ByteArray), 1, 0, 0⟩ : Stmt) [.int .i64 1, .string (⟨#[120]⟩ : ByteArray), .string (⟨#[]⟩ : ByteArray), .string (⟨#[]⟩ : ByteArray), .string (⟨#[]⟩ : ByteArray), .int .i64 1, .int .i64 0, .int .i64 0] from (k30_mkM _ _ _ (⟨1, (⟨#[120]⟩ : ByteArray), (⟨#[]⟩ : ByteArray), (⟨#[]⟩ : ByteArray), (⟨#[]⟩ : ByteArray), 1, 0, 0⟩ : Stmt) )) (Reps.c8 (show Kd.M k30 _ _ _ (⟨6, (⟨#[]⟩ : ByteArray), (⟨#[120]⟩ : ByteArray), (⟨#[]⟩ : ByteArray), (⟨#[]⟩ : ByteArray), 0, 0, 0⟩ : Stmt) [.int .i64 6, .string (⟨#[]⟩ : ByteArray), .string (⟨#[120]⟩ : ByteArray), .string (⟨#[]⟩ : ByteArray), .string (⟨#[]⟩ : ByteArray), .int .i64 0, .int .i64 0, .int .i64 0] from (k30_mkM _ _ _ (⟨6, (⟨#[]⟩ : ByteArray), (⟨#[120]⟩ : ByteArray), (⟨#[]⟩ : ByteArray), (⟨#[]⟩ : ByteArray), 0, 0, 0⟩ : Stmt) )) (Reps.c8 (show Kd.M k30 _ _ _ (⟨9, (⟨#[]⟩ : ByteArray), (⟨#[]⟩ : ByteArray), (⟨#[]⟩ : ByteArray), (⟨#[]⟩ : ByteArray), 0, 0, 0⟩ : Stmt) [.int .i64 9, .string (⟨#[]⟩ : ByteArray), .string (⟨#[]⟩ : ByteArray), .string (⟨#[]⟩ : ByteArray), .string (⟨#[]⟩ : ByteArray), .int .i64 0, .int .i64 0, .int .i64 0] from (k30_mkM _ _ _ (⟨9, (⟨#[]⟩ : ByteArray), (⟨#[]⟩ : ByteArray), (⟨#[]⟩ : ByteArray), (⟨#[]⟩ : ByteArray), 0, 0, 0⟩ : Stmt) )) (Reps.none _ _))))); intro v102 w7 ho8 hb hg_ hnew_; clear hg_ hnew_; (first | rw [← Ny101.out] at ho8 | (simp only [Int.reduceToNat] at ho8; rw [← Ny101.out] at ho8)); have HO103 := am (Kd.R_lower ho8 (below_size (by repeat (first | (with_reducible first | exact HB.out | apply lA | apply lN | apply lD) | exact HB.out)))); replace HB := am (below_step (by repeat (first | (with_reducible first | exact HB.out | apply lA | apply lN | apply lD) | exact HB.out)) hb); clear hb ho8; obtain ⟨Ao9, co9, eo9⟩ := Kd.R_slice HO103.out; subst eo9) | ((with_reducible refine gate_callee (f := 23) rfl ?_); refine goesL_ (some 7) rfl rfl Try.func23 (by kernel_rfl) rfl #[.slice Ao9 y101.length co9, .int .i64 1, .string (⟨#[120]⟩ : ByteArray), .int .i64 0] rfl (by (try simp only [List.map_toArray, List.map_cons, List.map_nil]); first | done | rfl | (simp only [List.length_drop, List.length_take]; rfl)) ?_; (with_reducible refine (cfg_Reaches.calls k _ _ y101 1 (⟨#[120]⟩ : ByteArray) 0 true _ ?side1 ?side2 A1.out).mono ?_); (case side1 => repeat (first | exact (Kd.R_reads' HO103.out).2.2 | (with_reducible refine Kd.C_alloc ?_ _) | (with_reducible refine Kd.C_drewN ?_ _) | (with_reducible refine Kd.C_drew ?_))); (case side2 => exact (Kd.R_reads' HO103.out).2.1); rintro e w10 ⟨rfl, hb⟩; refine ⟨_, rfl, ?_⟩; replace HO103 := am (Kd.R_below (by (with_reducible repeat (first | apply Ra | apply Rn | apply Rd)); exact HO103.out) hb); replace HB := am (below_step (by repeat (first | (with_reducible first | exact HB.out | apply lA | apply lN | apply lD) | exact HB.out)) hb); (try clear hb); (try clear hb2); (try clear hk); (try clear hi)) | (go_at_call 23; (with_reducible refine (cfg_Reaches.calls k _ _ y101 2 (⟨#[120]⟩ : ByteArray) 0 true _ ?side1 ?side2 A3.out).mono ?_); (case side1 => repeat (first | exact (Kd.R_reads' HO103.out).2.2 | (with_reducible refine Kd.C_alloc ?_ _) | (with_reducible refine Kd.C_drewN ?_ _) | (with_reducible refine Kd.C_drew ?_))); (case side2 => exact (Kd.R_reads' HO103.out).2.1); rintro e w11 ⟨rfl, hb⟩; replace HO103 := am (Kd.R_below (by (with_reducible repeat (first | apply Ra | apply Rn | apply Rd)); exact HO103.out) hb); replace HB := am (below_step (by repeat (first | (with_reducible first | exact HB.out | apply lA | apply lN | apply lD) | exact HB.out)) hb); (try clear hb); (try clear hb2); (try clear hk); (try clear hi)) | (go_at_call 23; (with_reducible refine (cfg_Reaches.calls k _ _ y101 0 (⟨#[120]⟩ : ByteArray) 0 true _ ?side1 ?side2 A5.out).mono ?_); (case side1 => repeat (first | exact (Kd.R_reads' HO103.out).2.2 | (with_reducible refine Kd.C_alloc ?_ _) | (with_reducible refine Kd.C_drewN ?_ _) | (with_reducible refine Kd.C_drew ?_))); (case side2 => exact (Kd.R_reads' HO103.out).2.1); rintro e w12 ⟨rfl, hb⟩; replace HO103 := am (Kd.R_below (by (with_reducible repeat (first | apply Ra | apply Rn | apply Rd)); exact HO103.out) hb); replace HB := am (below_step (by repeat (first | (with_reducible first | exact HB.out | apply lA | apply lN | apply lD) | exact HB.out)) hb); (try clear hb); (try clear hb2); (try clear hk); (try clear hi)))
    go_ret
    exact ⟨by first | rfl | (simp [errW_none, errW_some] <;> rfl) | (simp [*, errW_none, errW_some] <;> rfl), by repeat (first | (with_reducible first | exact HB.out | apply lA | apply lN | apply lD) | exact HB.out)⟩
   ·replace c6 := Bool.eq_false_iff.mpr c6
    subst c6
    have H1 : ((cfg_Lives.f k y101 1 (⟨#[120]⟩ : ByteArray)).bind fun t107 => (if t107 = true then ((cfg_Lives.f k y101 0 (⟨#[120]⟩ : ByteArray)).bind fun t108 => (if t108 = true then (some false) else ((cfg_Lives.f k y101 2 (⟨#[120]⟩ : ByteArray)).bind fun t109 => (if t109 = true then (some false) else ((cfg_Next.f y101 1).bind fun t110 => ((lambrequinref10_Ints.f k t110 (([2] : List Int))).bind fun t116 => (some t116))))))) else (some false))) = some r := by rw [if_neg (show ¬ (false = true) by decide)] at H; exact H
    clear H
    have H := H1
    clear H1
    replace H := Option.bind_eq_some_iff.mp H
    obtain ⟨t107, A130, H⟩ := H
    replace H : (if t107 = true then ((cfg_Lives.f k y101 0 (⟨#[120]⟩ : ByteArray)).bind fun t108 => (if t108 = true then (some false) else ((cfg_Lives.f k y101 2 (⟨#[120]⟩ : ByteArray)).bind fun t109 => (if t109 = true then (some false) else ((cfg_Next.f y101 1).bind fun t110 => ((lambrequinref10_Ints.f k t110 (([2] : List Int))).bind fun t116 => (some t116))))))) else (some false)) = some r := H
    have A13 := am A130
    clear A130
    by_cases c14 : t107 = true
    ·subst c14
     have H1 : ((cfg_Lives.f k y101 0 (⟨#[120]⟩ : ByteArray)).bind fun t108 => (if t108 = true then (some false) else ((cfg_Lives.f k y101 2 (⟨#[120]⟩ : ByteArray)).bind fun t109 => (if t109 = true then (some false) else ((cfg_Next.f y101 1).bind fun t110 => ((lambrequinref10_Ints.f k t110 (([2] : List Int))).bind fun t116 => (some t116))))))) = some r := by rw [if_pos rfl] at H; exact H
     clear H
     have H := H1
     clear H1
     replace H := Option.bind_eq_some_iff.mp H
     obtain ⟨t108, A150, H⟩ := H
     replace H : (if t108 = true then (some false) else ((cfg_Lives.f k y101 2 (⟨#[120]⟩ : ByteArray)).bind fun t109 => (if t109 = true then (some false) else ((cfg_Next.f y101 1).bind fun t110 => ((lambrequinref10_Ints.f k t110 (([2] : List Int))).bind fun t116 => (some t116)))))) = some r := H
     have A15 := am A150
     clear A150
     by_cases c16 : t108 = true
     ·subst c16
      have H1 : (some false) = some r := by rw [if_pos rfl] at H; exact H
      clear H
      have H := H1
      clear H1
      obtain rfl := Option.some.inj H
      go_enter Try.func17, Try.ntmps17
      go_wp2_with (first | ((with_reducible refine gate_dst (N := 5) rfl ?_); (try (refine gate_guard (by rfl) ?_; dsimp only)); refine Kd.R_lit k30 _ 30 ?hg (N := 5) ?hd (xs := ([(⟨1, (⟨#[120]⟩ : ByteArray), (⟨#[]⟩ : ByteArray), (⟨#[]⟩ : ByteArray), (⟨#[]⟩ : ByteArray), 1, 0, 0⟩ : Stmt), (⟨6, (⟨#[]⟩ : ByteArray), (⟨#[120]⟩ : ByteArray), (⟨#[]⟩ : ByteArray), (⟨#[]⟩ : ByteArray), 0, 0, 0⟩ : Stmt), (⟨9, (⟨#[]⟩ : ByteArray), (⟨#[]⟩ : ByteArray), (⟨#[]⟩ : ByteArray), (⟨#[]⟩ : ByteArray), 0, 0, 0⟩ : Stmt)] : List (Stmt))) (inner := [.int .i64 1, .string (⟨#[120]⟩ : ByteArray), .string (⟨#[]⟩ : ByteArray), .string (⟨#[]⟩ : ByteArray), .string (⟨#[]⟩ : ByteArray), .int .i64 1, .int .i64 0, .int .i64 0, .int .i64 6, .string (⟨#[]⟩ : ByteArray), .string (⟨#[120]⟩ : ByteArray), .string (⟨#[]⟩ : ByteArray), .string (⟨#[]⟩ : ByteArray), .int .i64 0, .int .i64 0, .int .i64 0, .int .i64 9, .string (⟨#[]⟩ : ByteArray), .string (⟨#[]⟩ : ByteArray), .string (⟨#[]⟩ : ByteArray), .string (⟨#[]⟩ : ByteArray), .int .i64 0, .int .i64 0, .int .i64 0]) (ok := fun _ => True) (okp := fun _ => True) ?hr ?hp (fun _ hk => hk) trivial (Below.refl _ _) (Nat.le_refl _) (by simp) ?_; (case hd => rfl); (case hg => rfl); (case hr => first | (go_simp; done) | (go_simp; rfl)); (case hp => exact (Reps.c8 (show Kd.M k30 _ _ _ (⟨1, (⟨#[120]⟩ : ByteArray), (⟨#[]⟩ : ByteArray), (⟨#[]⟩ : ByteArray), (⟨#[]⟩ : ByteArray), 1, 0, 0⟩ : Stmt) [.int .i64 1, .string (⟨#[120]⟩ : ByteArray), .string (⟨#[]⟩ : ByteArray), .string (⟨#[]⟩ : ByteArray), .string (⟨#[]⟩ : ByteArray), .int .i64 1, .int .i64 0, .int .i64 0] from (k30_mkM _ _ _ (⟨1, (⟨#[120]⟩ : ByteArray), (⟨#[]⟩ : ByteArray), (⟨#[]⟩ : ByteArray), (⟨#[]⟩ : ByteArray), 1, 0, 0⟩ : Stmt) )) (Reps.c8 (show Kd.M k30 _ _ _ (⟨6, (⟨#[]⟩ : ByteArray), (⟨#[120]⟩ : ByteArray), (⟨#[]⟩ : ByteArray), (⟨#[]⟩ : ByteArray), 0, 0, 0⟩ : Stmt) [.int .i64 6, .string (⟨#[]⟩ : ByteArray), .string (⟨#[120]⟩ : ByteArray), .string (⟨#[]⟩ : ByteArray), .string (⟨#[]⟩ : ByteArray), .int .i64 0, .int .i64 0, .int .i64 0] from (k30_mkM _ _ _ (⟨6, (⟨#[]⟩ : ByteArray), (⟨#[120]⟩ : ByteArray), (⟨#[]⟩ : ByteArray), (⟨#[]⟩ : ByteArray), 0, 0, 0⟩ : Stmt) )) (Reps.c8 (show Kd.M k30 _ _ _ (⟨9, (⟨#[]⟩ : ByteArray), (⟨#[]⟩ : ByteArray), (⟨#[]⟩ : ByteArray), (⟨#[]⟩ : ByteArray), 0, 0, 0⟩ : Stmt) [.int .i64 9, .string (⟨#[]⟩ : ByteArray), .string (⟨#[]⟩ : ByteArray), .string (⟨#[]⟩ : ByteArray), .string (⟨#[]⟩ : ByteArray), .int .i64 0, .int .i64 0, .int .i64 0] from (k30_mkM _ _ _ (⟨9, (⟨#[]⟩ : ByteArray), (⟨#[]⟩ : ByteArray), (⟨#[]⟩ : ByteArray), (⟨#[]⟩ : ByteArray), 0, 0, 0⟩ : Stmt) )) (Reps.none _ _))))); intro v102 w17 ho18 hb hg_ hnew_; clear hg_ hnew_; (first | rw [← Ny101.out] at ho18 | (simp only [Int.reduceToNat] at ho18; rw [← Ny101.out] at ho18)); have HO103 := am (Kd.R_lower ho18 (below_size (by repeat (first | (with_reducible first | exact HB.out | apply lA | apply lN | apply lD) | exact HB.out)))); replace HB := am (below_step (by repeat (first | (with_reducible first | exact HB.out | apply lA | apply lN | apply lD) | exact HB.out)) hb); clear hb ho18; obtain ⟨Ao19, co19, eo19⟩ := Kd.R_slice HO103.out; subst eo19) | ((with_reducible refine gate_callee (f := 23) rfl ?_); refine goesL_ (some 7) rfl rfl Try.func23 (by kernel_rfl) rfl #[.slice Ao19 y101.length co19, .int .i64 1, .string (⟨#[120]⟩ : ByteArray), .int .i64 0] rfl (by (try simp only [List.map_toArray, List.map_cons, List.map_nil]); first | done | rfl | (simp only [List.length_drop, List.length_take]; rfl)) ?_; (with_reducible refine (cfg_Reaches.calls k _ _ y101 1 (⟨#[120]⟩ : ByteArray) 0 true _ ?side1 ?side2 A1.out).mono ?_); (case side1 => repeat (first | exact (Kd.R_reads' HO103.out).2.2 | (with_reducible refine Kd.C_alloc ?_ _) | (with_reducible refine Kd.C_drewN ?_ _) | (with_reducible refine Kd.C_drew ?_))); (case side2 => exact (Kd.R_reads' HO103.out).2.1); rintro e w20 ⟨rfl, hb⟩; refine ⟨_, rfl, ?_⟩; replace HO103 := am (Kd.R_below (by (with_reducible repeat (first | apply Ra | apply Rn | apply Rd)); exact HO103.out) hb); replace HB := am (below_step (by repeat (first | (with_reducible first | exact HB.out | apply lA | apply lN | apply lD) | exact HB.out)) hb); (try clear hb); (try clear hb2); (try clear hk); (try clear hi)) | (go_at_call 23; (with_reducible refine (cfg_Reaches.calls k _ _ y101 2 (⟨#[120]⟩ : ByteArray) 0 true _ ?side1 ?side2 A3.out).mono ?_); (case side1 => repeat (first | exact (Kd.R_reads' HO103.out).2.2 | (with_reducible refine Kd.C_alloc ?_ _) | (with_reducible refine Kd.C_drewN ?_ _) | (with_reducible refine Kd.C_drew ?_))); (case side2 => exact (Kd.R_reads' HO103.out).2.1); rintro e w21 ⟨rfl, hb⟩; replace HO103 := am (Kd.R_below (by (with_reducible repeat (first | apply Ra | apply Rn | apply Rd)); exact HO103.out) hb); replace HB := am (below_step (by repeat (first | (with_reducible first | exact HB.out | apply lA | apply lN | apply lD) | exact HB.out)) hb); (try clear hb); (try clear hb2); (try clear hk); (try clear hi)) | (go_at_call 23; (with_reducible refine (cfg_Reaches.calls k _ _ y101 0 (⟨#[120]⟩ : ByteArray) 0 false _ ?side1 ?side2 A5.out).mono ?_); (case side1 => repeat (first | exact (Kd.R_reads' HO103.out).2.2 | (with_reducible refine Kd.C_alloc ?_ _) | (with_reducible refine Kd.C_drewN ?_ _) | (with_reducible refine Kd.C_drew ?_))); (case side2 => exact (Kd.R_reads' HO103.out).2.1); rintro e w22 ⟨rfl, hb⟩; replace HO103 := am (Kd.R_below (by (with_reducible repeat (first | apply Ra | apply Rn | apply Rd)); exact HO103.out) hb); replace HB := am (below_step (by repeat (first | (with_reducible first | exact HB.out | apply lA | apply lN | apply lD) | exact HB.out)) hb); (try clear hb); (try clear hb2); (try clear hk); (try clear hi)) | (go_at_call 18; (with_reducible refine (cfg_Lives.calls k _ _ y101 1 (⟨#[120]⟩ : ByteArray) true _ ?side1 ?side2 A13.out).mono ?_); (case side1 => repeat (first | exact (Kd.R_reads' HO103.out).2.2 | (with_reducible refine Kd.C_alloc ?_ _) | (with_reducible refine Kd.C_drewN ?_ _) | (with_reducible refine Kd.C_drew ?_))); (case side2 => exact (Kd.R_reads' HO103.out).2.1); rintro e w23 ⟨rfl, hb⟩; replace HO103 := am (Kd.R_below (by (with_reducible repeat (first | apply Ra | apply Rn | apply Rd)); exact HO103.out) hb); replace HB := am (below_step (by repeat (first | (with_reducible first | exact HB.out | apply lA | apply lN | apply lD) | exact HB.out)) hb); (try clear hb); (try clear hb2); (try clear hk); (try clear hi)) | (go_at_call 18; (with_reducible refine (cfg_Lives.calls k _ _ y101 0 (⟨#[120]⟩ : ByteArray) true _ ?side1 ?side2 A15.out).mono ?_); (case side1 => repeat (first | exact (Kd.R_reads' HO103.out).2.2 | (with_reducible refine Kd.C_alloc ?_ _) | (with_reducible refine Kd.C_drewN ?_ _) | (with_reducible refine Kd.C_drew ?_))); (case side2 => exact (Kd.R_reads' HO103.out).2.1); rintro e w24 ⟨rfl, hb⟩; replace HO103 := am (Kd.R_below (by (with_reducible repeat (first | apply Ra | apply Rn | apply Rd)); exact HO103.out) hb); replace HB := am (below_step (by repeat (first | (with_reducible first | exact HB.out | apply lA | apply lN | apply lD) | exact HB.out)) hb); (try clear hb); (try clear hb2); (try clear hk); (try clear hi)))
      go_ret
      exact ⟨by first | rfl | (simp [errW_none, errW_some] <;> rfl) | (simp [*, errW_none, errW_some] <;> rfl), by repeat (first | (with_reducible first | exact HB.out | apply lA | apply lN | apply lD) | exact HB.out)⟩
     ·replace c16 := Bool.eq_false_iff.mpr c16
      subst c16
      have H1 : ((cfg_Lives.f k y101 2 (⟨#[120]⟩ : ByteArray)).bind fun t109 => (if t109 = true then (some false) else ((cfg_Next.f y101 1).bind fun t110 => ((lambrequinref10_Ints.f k t110 (([2] : List Int))).bind fun t116 => (some t116))))) = some r := by rw [if_neg (show ¬ (false = true) by decide)] at H; exact H
      clear H
      have H := H1
      clear H1
      replace H := Option.bind_eq_some_iff.mp H
      obtain ⟨t109, A250, H⟩ := H
      replace H : (if t109 = true then (some false) else ((cfg_Next.f y101 1).bind fun t110 => ((lambrequinref10_Ints.f k t110 (([2] : List Int))).bind fun t116 => (some t116)))) = some r := H
      have A25 := am A250
      clear A250
      by_cases c26 : t109 = true
      ·subst c26
       have H1 : (some false) = some r := by rw [if_pos rfl] at H; exact H
       clear H
       have H := H1
       clear H1
       obtain rfl := Option.some.inj H
       go_enter Try.func17, Try.ntmps17
       go_wp2_with (first | ((with_reducible refine gate_dst (N := 5) rfl ?_); (try (refine gate_guard (by rfl) ?_; dsimp only)); refine Kd.R_lit k30 _ 30 ?hg (N := 5) ?hd (xs := ([(⟨1, (⟨#[120]⟩ : ByteArray), (⟨#[]⟩ : ByteArray), (⟨#[]⟩ : ByteArray), (⟨#[]⟩ : ByteArray), 1, 0, 0⟩ : Stmt), (⟨6, (⟨#[]⟩ : ByteArray), (⟨#[120]⟩ : ByteArray), (⟨#[]⟩ : ByteArray), (⟨#[]⟩ : ByteArray), 0, 0, 0⟩ : Stmt), (⟨9, (⟨#[]⟩ : ByteArray), (⟨#[]⟩ : ByteArray), (⟨#[]⟩ : ByteArray), (⟨#[]⟩ : ByteArray), 0, 0, 0⟩ : Stmt)] : List (Stmt))) (inner := [.int .i64 1, .string (⟨#[120]⟩ : ByteArray), .string (⟨#[]⟩ : ByteArray), .string (⟨#[]⟩ : ByteArray), .string (⟨#[]⟩ : ByteArray), .int .i64 1, .int .i64 0, .int .i64 0, .int .i64 6, .string (⟨#[]⟩ : ByteArray), .string (⟨#[120]⟩ : ByteArray), .string (⟨#[]⟩ : ByteArray), .string (⟨#[]⟩ : ByteArray), .int .i64 0, .int .i64 0, .int .i64 0, .int .i64 9, .string (⟨#[]⟩ : ByteArray), .string (⟨#[]⟩ : ByteArray), .string (⟨#[]⟩ : ByteArray), .string (⟨#[]⟩ : ByteArray), .int .i64 0, .int .i64 0, .int .i64 0]) (ok := fun _ => True) (okp := fun _ => True) ?hr ?hp (fun _ hk => hk) trivial (Below.refl _ _) (Nat.le_refl _) (by simp) ?_; (case hd => rfl); (case hg => rfl); (case hr => first | (go_simp; done) | (go_simp; rfl)); (case hp => exact (Reps.c8 (show Kd.M k30 _ _ _ (⟨1, (⟨#[120]⟩ : ByteArray), (⟨#[]⟩ : ByteArray), (⟨#[]⟩ : ByteArray), (⟨#[]⟩ : ByteArray), 1, 0, 0⟩ : Stmt) [.int .i64 1, .string (⟨#[120]⟩ : ByteArray), .string (⟨#[]⟩ : ByteArray), .string (⟨#[]⟩ : ByteArray), .string (⟨#[]⟩ : ByteArray), .int .i64 1, .int .i64 0, .int .i64 0] from (k30_mkM _ _ _ (⟨1, (⟨#[120]⟩ : ByteArray), (⟨#[]⟩ : ByteArray), (⟨#[]⟩ : ByteArray), (⟨#[]⟩ : ByteArray), 1, 0, 0⟩ : Stmt) )) (Reps.c8 (show Kd.M k30 _ _ _ (⟨6, (⟨#[]⟩ : ByteArray), (⟨#[120]⟩ : ByteArray), (⟨#[]⟩ : ByteArray), (⟨#[]⟩ : ByteArray), 0, 0, 0⟩ : Stmt) [.int .i64 6, .string (⟨#[]⟩ : ByteArray), .string (⟨#[120]⟩ : ByteArray), .string (⟨#[]⟩ : ByteArray), .string (⟨#[]⟩ : ByteArray), .int .i64 0, .int .i64 0, .int .i64 0] from (k30_mkM _ _ _ (⟨6, (⟨#[]⟩ : ByteArray), (⟨#[120]⟩ : ByteArray), (⟨#[]⟩ : ByteArray), (⟨#[]⟩ : ByteArray), 0, 0, 0⟩ : Stmt) )) (Reps.c8 (show Kd.M k30 _ _ _ (⟨9, (⟨#[]⟩ : ByteArray), (⟨#[]⟩ : ByteArray), (⟨#[]⟩ : ByteArray), (⟨#[]⟩ : ByteArray), 0, 0, 0⟩ : Stmt) [.int .i64 9, .string (⟨#[]⟩ : ByteArray), .string (⟨#[]⟩ : ByteArray), .string (⟨#[]⟩ : ByteArray), .string (⟨#[]⟩ : ByteArray), .int .i64 0, .int .i64 0, .int .i64 0] from (k30_mkM _ _ _ (⟨9, (⟨#[]⟩ : ByteArray), (⟨#[]⟩ : ByteArray), (⟨#[]⟩ : ByteArray), (⟨#[]⟩ : ByteArray), 0, 0, 0⟩ : Stmt) )) (Reps.none _ _))))); intro v102 w27 ho28 hb hg_ hnew_; clear hg_ hnew_; (first | rw [← Ny101.out] at ho28 | (simp only [Int.reduceToNat] at ho28; rw [← Ny101.out] at ho28)); have HO103 := am (Kd.R_lower ho28 (below_size (by repeat (first | (with_reducible first | exact HB.out | apply lA | apply lN | apply lD) | exact HB.out)))); replace HB := am (below_step (by repeat (first | (with_reducible first | exact HB.out | apply lA | apply lN | apply lD) | exact HB.out)) hb); clear hb ho28; obtain ⟨Ao29, co29, eo29⟩ := Kd.R_slice HO103.out; subst eo29) | ((with_reducible refine gate_callee (f := 23) rfl ?_); refine goesL_ (some 7) rfl rfl Try.func23 (by kernel_rfl) rfl #[.slice Ao29 y101.length co29, .int .i64 1, .string (⟨#[120]⟩ : ByteArray), .int .i64 0] rfl (by (try simp only [List.map_toArray, List.map_cons, List.map_nil]); first | done | rfl | (simp only [List.length_drop, List.length_take]; rfl)) ?_; (with_reducible refine (cfg_Reaches.calls k _ _ y101 1 (⟨#[120]⟩ : ByteArray) 0 true _ ?side1 ?side2 A1.out).mono ?_); (case side1 => repeat (first | exact (Kd.R_reads' HO103.out).2.2 | (with_reducible refine Kd.C_alloc ?_ _) | (with_reducible refine Kd.C_drewN ?_ _) | (with_reducible refine Kd.C_drew ?_))); (case side2 => exact (Kd.R_reads' HO103.out).2.1); rintro e w30 ⟨rfl, hb⟩; refine ⟨_, rfl, ?_⟩; replace HO103 := am (Kd.R_below (by (with_reducible repeat (first | apply Ra | apply Rn | apply Rd)); exact HO103.out) hb); replace HB := am (below_step (by repeat (first | (with_reducible first | exact HB.out | apply lA | apply lN | apply lD) | exact HB.out)) hb); (try clear hb); (try clear hb2); (try clear hk); (try clear hi)) | (go_at_call 23; (with_reducible refine (cfg_Reaches.calls k _ _ y101 2 (⟨#[120]⟩ : ByteArray) 0 true _ ?side1 ?side2 A3.out).mono ?_); (case side1 => repeat (first | exact (Kd.R_reads' HO103.out).2.2 | (with_reducible refine Kd.C_alloc ?_ _) | (with_reducible refine Kd.C_drewN ?_ _) | (with_reducible refine Kd.C_drew ?_))); (case side2 => exact (Kd.R_reads' HO103.out).2.1); rintro e w31 ⟨rfl, hb⟩; replace HO103 := am (Kd.R_below (by (with_reducible repeat (first | apply Ra | apply Rn | apply Rd)); exact HO103.out) hb); replace HB := am (below_step (by repeat (first | (with_reducible first | exact HB.out | apply lA | apply lN | apply lD) | exact HB.out)) hb); (try clear hb); (try clear hb2); (try clear hk); (try clear hi)) | (go_at_call 23; (with_reducible refine (cfg_Reaches.calls k _ _ y101 0 (⟨#[120]⟩ : ByteArray) 0 false _ ?side1 ?side2 A5.out).mono ?_); (case side1 => repeat (first | exact (Kd.R_reads' HO103.out).2.2 | (with_reducible refine Kd.C_alloc ?_ _) | (with_reducible refine Kd.C_drewN ?_ _) | (with_reducible refine Kd.C_drew ?_))); (case side2 => exact (Kd.R_reads' HO103.out).2.1); rintro e w32 ⟨rfl, hb⟩; replace HO103 := am (Kd.R_below (by (with_reducible repeat (first | apply Ra | apply Rn | apply Rd)); exact HO103.out) hb); replace HB := am (below_step (by repeat (first | (with_reducible first | exact HB.out | apply lA | apply lN | apply lD) | exact HB.out)) hb); (try clear hb); (try clear hb2); (try clear hk); (try clear hi)) | (go_at_call 18; (with_reducible refine (cfg_Lives.calls k _ _ y101 1 (⟨#[120]⟩ : ByteArray) true _ ?side1 ?side2 A13.out).mono ?_); (case side1 => repeat (first | exact (Kd.R_reads' HO103.out).2.2 | (with_reducible refine Kd.C_alloc ?_ _) | (with_reducible refine Kd.C_drewN ?_ _) | (with_reducible refine Kd.C_drew ?_))); (case side2 => exact (Kd.R_reads' HO103.out).2.1); rintro e w33 ⟨rfl, hb⟩; replace HO103 := am (Kd.R_below (by (with_reducible repeat (first | apply Ra | apply Rn | apply Rd)); exact HO103.out) hb); replace HB := am (below_step (by repeat (first | (with_reducible first | exact HB.out | apply lA | apply lN | apply lD) | exact HB.out)) hb); (try clear hb); (try clear hb2); (try clear hk); (try clear hi)) | (go_at_call 18; (with_reducible refine (cfg_Lives.calls k _ _ y101 0 (⟨#[120]⟩ : ByteArray) false _ ?side1 ?side2 A15.out).mono ?_); (case side1 => repeat (first | exact (Kd.R_reads' HO103.out).2.2 | (with_reducible refine Kd.C_alloc ?_ _) | (with_reducible refine Kd.C_drewN ?_ _) | (with_reducible refine Kd.C_drew ?_))); (case side2 => exact (Kd.R_reads' HO103.out).2.1); rintro e w34 ⟨rfl, hb⟩; replace HO103 := am (Kd.R_below (by (with_reducible repeat (first | apply Ra | apply Rn | apply Rd)); exact HO103.out) hb); replace HB := am (below_step (by repeat (first | (with_reducible first | exact HB.out | apply lA | apply lN | apply lD) | exact HB.out)) hb); (try clear hb); (try clear hb2); (try clear hk); (try clear hi)) | (go_at_call 18; (with_reducible refine (cfg_Lives.calls k _ _ y101 2 (⟨#[120]⟩ : ByteArray) true _ ?side1 ?side2 A25.out).mono ?_); (case side1 => repeat (first | exact (Kd.R_reads' HO103.out).2.2 | (with_reducible refine Kd.C_alloc ?_ _) | (with_reducible refine Kd.C_drewN ?_ _) | (with_reducible refine Kd.C_drew ?_))); (case side2 => exact (Kd.R_reads' HO103.out).2.1); rintro e w35 ⟨rfl, hb⟩; replace HO103 := am (Kd.R_below (by (with_reducible repeat (first | apply Ra | apply Rn | apply Rd)); exact HO103.out) hb); replace HB := am (below_step (by repeat (first | (with_reducible first | exact HB.out | apply lA | apply lN | apply lD) | exact HB.out)) hb); (try clear hb); (try clear hb2); (try clear hk); (try clear hi)))
       go_ret
       exact ⟨by first | rfl | (simp [errW_none, errW_some] <;> rfl) | (simp [*, errW_none, errW_some] <;> rfl), by repeat (first | (with_reducible first | exact HB.out | apply lA | apply lN | apply lD) | exact HB.out)⟩
      ·replace c26 := Bool.eq_false_iff.mpr c26
       subst c26
       have H1 : ((cfg_Next.f y101 1).bind fun t110 => ((lambrequinref10_Ints.f k t110 (([2] : List Int))).bind fun t116 => (some t116))) = some r := by rw [if_neg (show ¬ (false = true) by decide)] at H; exact H
       clear H
       have H := H1
       clear H1
       replace H := Option.bind_eq_some_iff.mp H
       obtain ⟨t110, A360, H⟩ := H
       replace H : ((lambrequinref10_Ints.f k t110 (([2] : List Int))).bind fun t116 => (some t116)) = some r := H
       have A36 := am A360
       clear A360
       obtain ⟨y113, hy113⟩ : ∃ y_ : List Int, y_ = (([2] : List Int)) := ⟨_, rfl⟩
       replace H : ((lambrequinref10_Ints.f k t110 y113).bind fun t116 => (some t116)) = some r := by first | (rw [hy113]; with_reducible exact H) | (have H2_ := (Option.bind_some _ _).symm.trans H; rw [hy113]; with_reducible exact H2_) | (have H2_ := (Option.bind_some _ _).symm.trans H; with_reducible exact H2_) | with_reducible exact H | (rw [hy113]; exact H) | exact H
       have Ny113 := am hy113
       clear hy113
       replace H := Option.bind_eq_some_iff.mp H
       obtain ⟨t116, A370, H⟩ := H
       replace H : (some t116) = some r := H
       have A37 := am A370
       clear A370
       obtain rfl := Option.some.inj H
       go_enter Try.func17, Try.ntmps17
       go_wp2_with (first | ((with_reducible refine gate_dst (N := 5) rfl ?_); (try (refine gate_guard (by rfl) ?_; dsimp only)); refine Kd.R_lit k30 _ 30 ?hg (N := 5) ?hd (xs := ([(⟨1, (⟨#[120]⟩ : ByteArray), (⟨#[]⟩ : ByteArray), (⟨#[]⟩ : ByteArray), (⟨#[]⟩ : ByteArray), 1, 0, 0⟩ : Stmt), (⟨6, (⟨#[]⟩ : ByteArray), (⟨#[120]⟩ : ByteArray), (⟨#[]⟩ : ByteArray), (⟨#[]⟩ : ByteArray), 0, 0, 0⟩ : Stmt), (⟨9, (⟨#[]⟩ : ByteArray), (⟨#[]⟩ : ByteArray), (⟨#[]⟩ : ByteArray), (⟨#[]⟩ : ByteArray), 0, 0, 0⟩ : Stmt)] : List (Stmt))) (inner := [.int .i64 1, .string (⟨#[120]⟩ : ByteArray), .string (⟨#[]⟩ : ByteArray), .string (⟨#[]⟩ : ByteArray), .string (⟨#[]⟩ : ByteArray), .int .i64 1, .int .i64 0, .int .i64 0, .int .i64 6, .string (⟨#[]⟩ : ByteArray), .string (⟨#[120]⟩ : ByteArray), .string (⟨#[]⟩ : ByteArray), .string (⟨#[]⟩ : ByteArray), .int .i64 0, .int .i64 0, .int .i64 0, .int .i64 9, .string (⟨#[]⟩ : ByteArray), .string (⟨#[]⟩ : ByteArray), .string (⟨#[]⟩ : ByteArray), .string (⟨#[]⟩ : ByteArray), .int .i64 0, .int .i64 0, .int .i64 0]) (ok := fun _ => True) (okp := fun _ => True) ?hr ?hp (fun _ hk => hk) trivial (Below.refl _ _) (Nat.le_refl _) (by simp) ?_; (case hd => rfl); (case hg => rfl); (case hr => first | (go_simp; done) | (go_simp; rfl)); (case hp => exact (Reps.c8 (show Kd.M k30 _ _ _ (⟨1, (⟨#[120]⟩ : ByteArray), (⟨#[]⟩ : ByteArray), (⟨#[]⟩ : ByteArray), (⟨#[]⟩ : ByteArray), 1, 0, 0⟩ : Stmt) [.int .i64 1, .string (⟨#[120]⟩ : ByteArray), .string (⟨#[]⟩ : ByteArray), .string (⟨#[]⟩ : ByteArray), .string (⟨#[]⟩ : ByteArray), .int .i64 1, .int .i64 0, .int .i64 0] from (k30_mkM _ _ _ (⟨1, (⟨#[120]⟩ : ByteArray), (⟨#[]⟩ : ByteArray), (⟨#[]⟩ : ByteArray), (⟨#[]⟩ : ByteArray), 1, 0, 0⟩ : Stmt) )) (Reps.c8 (show Kd.M k30 _ _ _ (⟨6, (⟨#[]⟩ : ByteArray), (⟨#[120]⟩ : ByteArray), (⟨#[]⟩ : ByteArray), (⟨#[]⟩ : ByteArray), 0, 0, 0⟩ : Stmt) [.int .i64 6, .string (⟨#[]⟩ : ByteArray), .string (⟨#[120]⟩ : ByteArray), .string (⟨#[]⟩ : ByteArray), .string (⟨#[]⟩ : ByteArray), .int .i64 0, .int .i64 0, .int .i64 0] from (k30_mkM _ _ _ (⟨6, (⟨#[]⟩ : ByteArray), (⟨#[120]⟩ : ByteArray), (⟨#[]⟩ : ByteArray), (⟨#[]⟩ : ByteArray), 0, 0, 0⟩ : Stmt) )) (Reps.c8 (show Kd.M k30 _ _ _ (⟨9, (⟨#[]⟩ : ByteArray), (⟨#[]⟩ : ByteArray), (⟨#[]⟩ : ByteArray), (⟨#[]⟩ : ByteArray), 0, 0, 0⟩ : Stmt) [.int .i64 9, .string (⟨#[]⟩ : ByteArray), .string (⟨#[]⟩ : ByteArray), .string (⟨#[]⟩ : ByteArray), .string (⟨#[]⟩ : ByteArray), .int .i64 0, .int .i64 0, .int .i64 0] from (k30_mkM _ _ _ (⟨9, (⟨#[]⟩ : ByteArray), (⟨#[]⟩ : ByteArray), (⟨#[]⟩ : ByteArray), (⟨#[]⟩ : ByteArray), 0, 0, 0⟩ : Stmt) )) (Reps.none _ _))))); intro v102 w38 ho39 hb hg_ hnew_; clear hg_ hnew_; (first | rw [← Ny101.out] at ho39 | (simp only [Int.reduceToNat] at ho39; rw [← Ny101.out] at ho39)); have HO103 := am (Kd.R_lower ho39 (below_size (by repeat (first | (with_reducible first | exact HB.out | apply lA | apply lN | apply lD) | exact HB.out)))); replace HB := am (below_step (by repeat (first | (with_reducible first | exact HB.out | apply lA | apply lN | apply lD) | exact HB.out)) hb); clear hb ho39; obtain ⟨Ao40, co40, eo40⟩ := Kd.R_slice HO103.out; subst eo40) | ((with_reducible refine gate_callee (f := 23) rfl ?_); refine goesL_ (some 7) rfl rfl Try.func23 (by kernel_rfl) rfl #[.slice Ao40 y101.length co40, .int .i64 1, .string (⟨#[120]⟩ : ByteArray), .int .i64 0] rfl (by (try simp only [List.map_toArray, List.map_cons, List.map_nil]); first | done | rfl | (simp only [List.length_drop, List.length_take]; rfl)) ?_; (with_reducible refine (cfg_Reaches.calls k _ _ y101 1 (⟨#[120]⟩ : ByteArray) 0 true _ ?side1 ?side2 A1.out).mono ?_); (case side1 => repeat (first | exact (Kd.R_reads' HO103.out).2.2 | (with_reducible refine Kd.C_alloc ?_ _) | (with_reducible refine Kd.C_drewN ?_ _) | (with_reducible refine Kd.C_drew ?_))); (case side2 => exact (Kd.R_reads' HO103.out).2.1); rintro e w41 ⟨rfl, hb⟩; refine ⟨_, rfl, ?_⟩; replace HO103 := am (Kd.R_below (by (with_reducible repeat (first | apply Ra | apply Rn | apply Rd)); exact HO103.out) hb); replace HB := am (below_step (by repeat (first | (with_reducible first | exact HB.out | apply lA | apply lN | apply lD) | exact HB.out)) hb); (try clear hb); (try clear hb2); (try clear hk); (try clear hi)) | (go_at_call 23; (with_reducible refine (cfg_Reaches.calls k _ _ y101 2 (⟨#[120]⟩ : ByteArray) 0 true _ ?side1 ?side2 A3.out).mono ?_); (case side1 => repeat (first | exact (Kd.R_reads' HO103.out).2.2 | (with_reducible refine Kd.C_alloc ?_ _) | (with_reducible refine Kd.C_drewN ?_ _) | (with_reducible refine Kd.C_drew ?_))); (case side2 => exact (Kd.R_reads' HO103.out).2.1); rintro e w42 ⟨rfl, hb⟩; replace HO103 := am (Kd.R_below (by (with_reducible repeat (first | apply Ra | apply Rn | apply Rd)); exact HO103.out) hb); replace HB := am (below_step (by repeat (first | (with_reducible first | exact HB.out | apply lA | apply lN | apply lD) | exact HB.out)) hb); (try clear hb); (try clear hb2); (try clear hk); (try clear hi)) | (go_at_call 23; (with_reducible refine (cfg_Reaches.calls k _ _ y101 0 (⟨#[120]⟩ : ByteArray) 0 false _ ?side1 ?side2 A5.out).mono ?_); (case side1 => repeat (first | exact (Kd.R_reads' HO103.out).2.2 | (with_reducible refine Kd.C_alloc ?_ _) | (with_reducible refine Kd.C_drewN ?_ _) | (with_reducible refine Kd.C_drew ?_))); (case side2 => exact (Kd.R_reads' HO103.out).2.1); rintro e w43 ⟨rfl, hb⟩; replace HO103 := am (Kd.R_below (by (with_reducible repeat (first | apply Ra | apply Rn | apply Rd)); exact HO103.out) hb); replace HB := am (below_step (by repeat (first | (with_reducible first | exact HB.out | apply lA | apply lN | apply lD) | exact HB.out)) hb); (try clear hb); (try clear hb2); (try clear hk); (try clear hi)) | (go_at_call 18; (with_reducible refine (cfg_Lives.calls k _ _ y101 1 (⟨#[120]⟩ : ByteArray) true _ ?side1 ?side2 A13.out).mono ?_); (case side1 => repeat (first | exact (Kd.R_reads' HO103.out).2.2 | (with_reducible refine Kd.C_alloc ?_ _) | (with_reducible refine Kd.C_drewN ?_ _) | (with_reducible refine Kd.C_drew ?_))); (case side2 => exact (Kd.R_reads' HO103.out).2.1); rintro e w44 ⟨rfl, hb⟩; replace HO103 := am (Kd.R_below (by (with_reducible repeat (first | apply Ra | apply Rn | apply Rd)); exact HO103.out) hb); replace HB := am (below_step (by repeat (first | (with_reducible first | exact HB.out | apply lA | apply lN | apply lD) | exact HB.out)) hb); (try clear hb); (try clear hb2); (try clear hk); (try clear hi)) | (go_at_call 18; (with_reducible refine (cfg_Lives.calls k _ _ y101 0 (⟨#[120]⟩ : ByteArray) false _ ?side1 ?side2 A15.out).mono ?_); (case side1 => repeat (first | exact (Kd.R_reads' HO103.out).2.2 | (with_reducible refine Kd.C_alloc ?_ _) | (with_reducible refine Kd.C_drewN ?_ _) | (with_reducible refine Kd.C_drew ?_))); (case side2 => exact (Kd.R_reads' HO103.out).2.1); rintro e w45 ⟨rfl, hb⟩; replace HO103 := am (Kd.R_below (by (with_reducible repeat (first | apply Ra | apply Rn | apply Rd)); exact HO103.out) hb); replace HB := am (below_step (by repeat (first | (with_reducible first | exact HB.out | apply lA | apply lN | apply lD) | exact HB.out)) hb); (try clear hb); (try clear hb2); (try clear hk); (try clear hi)) | (go_at_call 18; (with_reducible refine (cfg_Lives.calls k _ _ y101 2 (⟨#[120]⟩ : ByteArray) false _ ?side1 ?side2 A25.out).mono ?_); (case side1 => repeat (first | exact (Kd.R_reads' HO103.out).2.2 | (with_reducible refine Kd.C_alloc ?_ _) | (with_reducible refine Kd.C_drewN ?_ _) | (with_reducible refine Kd.C_drew ?_))); (case side2 => exact (Kd.R_reads' HO103.out).2.1); rintro e w46 ⟨rfl, hb⟩; replace HO103 := am (Kd.R_below (by (with_reducible repeat (first | apply Ra | apply Rn | apply Rd)); exact HO103.out) hb); replace HB := am (below_step (by repeat (first | (with_reducible first | exact HB.out | apply lA | apply lN | apply lD) | exact HB.out)) hb); (try clear hb); (try clear hb2); (try clear hk); (try clear hi)) | (go_at_call 19; (with_reducible refine (cfg_Next.calls _ _ y101 1 t110 _ ?side1 ?side2 A36.out).mono ?_); (case side1 => repeat (first | exact (Kd.R_reads' HO103.out).2.2 | (with_reducible refine Kd.C_alloc ?_ _) | (with_reducible refine Kd.C_drewN ?_ _) | (with_reducible refine Kd.C_drew ?_))); (case side2 => exact (Kd.R_reads' HO103.out).2.1); rintro e w47 ⟨v111, rfl, ho0, hb⟩; replace HO103 := am (Kd.R_below (by (with_reducible repeat (first | apply Ra | apply Rn | apply Rd)); exact HO103.out) hb); have HO112 := am (Kd.R_lower ho0 (below_size (by repeat (first | (with_reducible first | exact HB.out | apply lA | apply lN | apply lD) | exact HB.out)))); replace HB := am (below_step (by repeat (first | (with_reducible first | exact HB.out | apply lA | apply lN | apply lD) | exact HB.out)) hb); (try clear hb); (try clear hb2); (try clear hk); (try clear hi); (try clear ho0)) | ((with_reducible refine gate_dst (N := 34) rfl ?_); (try (refine gate_guard (by rfl) ?_; dsimp only)); refine Kd.R_lit (Kd.int .i64) _ 3 ?hg (N := 34) ?hd (xs := ([2] : List Int)) (inner := [.int .i64 2]) (ok := fun _ => True) (okp := fun _ => True) ?hr ?hp (fun _ hk => hk) trivial (Below.refl _ _) (Nat.le_refl _) (by simp) ?_; (case hd => rfl); (case hg => rfl); (case hr => first | (go_simp; done) | (go_simp; rfl)); (case hp => exact (Reps.one (show Kd.M (Kd.int .i64) _ _ _ 2 [.int .i64 2] from rfl) (Reps.none _ _))); intro v114 w48 ho49 hb hg_ hnew_; clear hg_ hnew_; (first | rw [← Ny113.out] at ho49 | (simp only [Int.reduceToNat] at ho49; rw [← Ny113.out] at ho49)); replace HO103 := am (Kd.R_below (by (with_reducible repeat (first | apply Ra | apply Rn | apply Rd)); exact HO103.out) hb); have HO115 := am (Kd.R_lower (Kd.R_new' ho49 (Kd.R_lt (by (with_reducible repeat (first | apply Ra | apply Rn | apply Rd)); exact HO112.out))) (below_size (by repeat (first | (with_reducible first | exact HB.out | apply lA | apply lN | apply lD) | exact HB.out)))); replace HO112 := am (Kd.R_elder' (by (with_reducible repeat (first | apply Ra | apply Rn | apply Rd)); exact HO112.out) (Kd.R_base ho49) hb); replace HB := am (below_step (by repeat (first | (with_reducible first | exact HB.out | apply lA | apply lN | apply lD) | exact HB.out)) hb); clear hb ho49; obtain ⟨Ao50, co50, eo50⟩ := Kd.R_slice HO112.out; subst eo50; obtain ⟨Ao51, co51, eo51⟩ := Kd.R_slice HO115.out; subst eo51) | (go_at_call 26; (with_reducible refine (lambrequinref10_Ints.calls k _ _ t110 _ _ y113 t116 _ ?side1 ?side2 ?side3 ?side4 A37.out).mono ?_); (case side1 => repeat (first | exact (Kd.R_reads' HO112.out).2.2 | (with_reducible refine Kd.C_alloc ?_ _) | (with_reducible refine Kd.C_drewN ?_ _) | (with_reducible refine Kd.C_drew ?_))); (case side2 => exact (Kd.R_reads' HO112.out).2.1); (case side3 => repeat (first | exact (Kd.R_reads' HO115.out).2.2 | (with_reducible refine Kd.C_alloc ?_ _) | (with_reducible refine Kd.C_drewN ?_ _) | (with_reducible refine Kd.C_drew ?_))); (case side4 => exact (Kd.R_reads' HO115.out).2.1); rintro e w' ⟨rfl, ⟨nd, rfl⟩⟩))
       go_ret
       exact ⟨by first | rfl | (simp [errW_none, errW_some] <;> rfl) | (simp [*, errW_none, errW_some] <;> rfl), by repeat (first | (with_reducible first | exact HB.out | apply lA | apply lN | apply lD) | exact HB.out)⟩
    ·replace c14 := Bool.eq_false_iff.mpr c14
     subst c14
     have H1 : (some false) = some r := by rw [if_neg (show ¬ (false = true) by decide)] at H; exact H
     clear H
     have H := H1
     clear H1
     obtain rfl := Option.some.inj H
     go_enter Try.func17, Try.ntmps17
     go_wp2_with (first | ((with_reducible refine gate_dst (N := 5) rfl ?_); (try (refine gate_guard (by rfl) ?_; dsimp only)); refine Kd.R_lit k30 _ 30 ?hg (N := 5) ?hd (xs := ([(⟨1, (⟨#[120]⟩ : ByteArray), (⟨#[]⟩ : ByteArray), (⟨#[]⟩ : ByteArray), (⟨#[]⟩ : ByteArray), 1, 0, 0⟩ : Stmt), (⟨6, (⟨#[]⟩ : ByteArray), (⟨#[120]⟩ : ByteArray), (⟨#[]⟩ : ByteArray), (⟨#[]⟩ : ByteArray), 0, 0, 0⟩ : Stmt), (⟨9, (⟨#[]⟩ : ByteArray), (⟨#[]⟩ : ByteArray), (⟨#[]⟩ : ByteArray), (⟨#[]⟩ : ByteArray), 0, 0, 0⟩ : Stmt)] : List (Stmt))) (inner := [.int .i64 1, .string (⟨#[120]⟩ : ByteArray), .string (⟨#[]⟩ : ByteArray), .string (⟨#[]⟩ : ByteArray), .string (⟨#[]⟩ : ByteArray), .int .i64 1, .int .i64 0, .int .i64 0, .int .i64 6, .string (⟨#[]⟩ : ByteArray), .string (⟨#[120]⟩ : ByteArray), .string (⟨#[]⟩ : ByteArray), .string (⟨#[]⟩ : ByteArray), .int .i64 0, .int .i64 0, .int .i64 0, .int .i64 9, .string (⟨#[]⟩ : ByteArray), .string (⟨#[]⟩ : ByteArray), .string (⟨#[]⟩ : ByteArray), .string (⟨#[]⟩ : ByteArray), .int .i64 0, .int .i64 0, .int .i64 0]) (ok := fun _ => True) (okp := fun _ => True) ?hr ?hp (fun _ hk => hk) trivial (Below.refl _ _) (Nat.le_refl _) (by simp) ?_; (case hd => rfl); (case hg => rfl); (case hr => first | (go_simp; done) | (go_simp; rfl)); (case hp => exact (Reps.c8 (show Kd.M k30 _ _ _ (⟨1, (⟨#[120]⟩ : ByteArray), (⟨#[]⟩ : ByteArray), (⟨#[]⟩ : ByteArray), (⟨#[]⟩ : ByteArray), 1, 0, 0⟩ : Stmt) [.int .i64 1, .string (⟨#[120]⟩ : ByteArray), .string (⟨#[]⟩ : ByteArray), .string (⟨#[]⟩ : ByteArray), .string (⟨#[]⟩ : ByteArray), .int .i64 1, .int .i64 0, .int .i64 0] from (k30_mkM _ _ _ (⟨1, (⟨#[120]⟩ : ByteArray), (⟨#[]⟩ : ByteArray), (⟨#[]⟩ : ByteArray), (⟨#[]⟩ : ByteArray), 1, 0, 0⟩ : Stmt) )) (Reps.c8 (show Kd.M k30 _ _ _ (⟨6, (⟨#[]⟩ : ByteArray), (⟨#[120]⟩ : ByteArray), (⟨#[]⟩ : ByteArray), (⟨#[]⟩ : ByteArray), 0, 0, 0⟩ : Stmt) [.int .i64 6, .string (⟨#[]⟩ : ByteArray), .string (⟨#[120]⟩ : ByteArray), .string (⟨#[]⟩ : ByteArray), .string (⟨#[]⟩ : ByteArray), .int .i64 0, .int .i64 0, .int .i64 0] from (k30_mkM _ _ _ (⟨6, (⟨#[]⟩ : ByteArray), (⟨#[120]⟩ : ByteArray), (⟨#[]⟩ : ByteArray), (⟨#[]⟩ : ByteArray), 0, 0, 0⟩ : Stmt) )) (Reps.c8 (show Kd.M k30 _ _ _ (⟨9, (⟨#[]⟩ : ByteArray), (⟨#[]⟩ : ByteArray), (⟨#[]⟩ : ByteArray), (⟨#[]⟩ : ByteArray), 0, 0, 0⟩ : Stmt) [.int .i64 9, .string (⟨#[]⟩ : ByteArray), .string (⟨#[]⟩ : ByteArray), .string (⟨#[]⟩ : ByteArray), .string (⟨#[]⟩ : ByteArray), .int .i64 0, .int .i64 0, .int .i64 0] from (k30_mkM _ _ _ (⟨9, (⟨#[]⟩ : ByteArray), (⟨#[]⟩ : ByteArray), (⟨#[]⟩ : ByteArray), (⟨#[]⟩ : ByteArray), 0, 0, 0⟩ : Stmt) )) (Reps.none _ _))))); intro v102 w52 ho53 hb hg_ hnew_; clear hg_ hnew_; (first | rw [← Ny101.out] at ho53 | (simp only [Int.reduceToNat] at ho53; rw [← Ny101.out] at ho53)); have HO103 := am (Kd.R_lower ho53 (below_size (by repeat (first | (with_reducible first | exact HB.out | apply lA | apply lN | apply lD) | exact HB.out)))); replace HB := am (below_step (by repeat (first | (with_reducible first | exact HB.out | apply lA | apply lN | apply lD) | exact HB.out)) hb); clear hb ho53; obtain ⟨Ao54, co54, eo54⟩ := Kd.R_slice HO103.out; subst eo54) | ((with_reducible refine gate_callee (f := 23) rfl ?_); refine goesL_ (some 7) rfl rfl Try.func23 (by kernel_rfl) rfl #[.slice Ao54 y101.length co54, .int .i64 1, .string (⟨#[120]⟩ : ByteArray), .int .i64 0] rfl (by (try simp only [List.map_toArray, List.map_cons, List.map_nil]); first | done | rfl | (simp only [List.length_drop, List.length_take]; rfl)) ?_; (with_reducible refine (cfg_Reaches.calls k _ _ y101 1 (⟨#[120]⟩ : ByteArray) 0 true _ ?side1 ?side2 A1.out).mono ?_); (case side1 => repeat (first | exact (Kd.R_reads' HO103.out).2.2 | (with_reducible refine Kd.C_alloc ?_ _) | (with_reducible refine Kd.C_drewN ?_ _) | (with_reducible refine Kd.C_drew ?_))); (case side2 => exact (Kd.R_reads' HO103.out).2.1); rintro e w55 ⟨rfl, hb⟩; refine ⟨_, rfl, ?_⟩; replace HO103 := am (Kd.R_below (by (with_reducible repeat (first | apply Ra | apply Rn | apply Rd)); exact HO103.out) hb); replace HB := am (below_step (by repeat (first | (with_reducible first | exact HB.out | apply lA | apply lN | apply lD) | exact HB.out)) hb); (try clear hb); (try clear hb2); (try clear hk); (try clear hi)) | (go_at_call 23; (with_reducible refine (cfg_Reaches.calls k _ _ y101 2 (⟨#[120]⟩ : ByteArray) 0 true _ ?side1 ?side2 A3.out).mono ?_); (case side1 => repeat (first | exact (Kd.R_reads' HO103.out).2.2 | (with_reducible refine Kd.C_alloc ?_ _) | (with_reducible refine Kd.C_drewN ?_ _) | (with_reducible refine Kd.C_drew ?_))); (case side2 => exact (Kd.R_reads' HO103.out).2.1); rintro e w56 ⟨rfl, hb⟩; replace HO103 := am (Kd.R_below (by (with_reducible repeat (first | apply Ra | apply Rn | apply Rd)); exact HO103.out) hb); replace HB := am (below_step (by repeat (first | (with_reducible first | exact HB.out | apply lA | apply lN | apply lD) | exact HB.out)) hb); (try clear hb); (try clear hb2); (try clear hk); (try clear hi)) | (go_at_call 23; (with_reducible refine (cfg_Reaches.calls k _ _ y101 0 (⟨#[120]⟩ : ByteArray) 0 false _ ?side1 ?side2 A5.out).mono ?_); (case side1 => repeat (first | exact (Kd.R_reads' HO103.out).2.2 | (with_reducible refine Kd.C_alloc ?_ _) | (with_reducible refine Kd.C_drewN ?_ _) | (with_reducible refine Kd.C_drew ?_))); (case side2 => exact (Kd.R_reads' HO103.out).2.1); rintro e w57 ⟨rfl, hb⟩; replace HO103 := am (Kd.R_below (by (with_reducible repeat (first | apply Ra | apply Rn | apply Rd)); exact HO103.out) hb); replace HB := am (below_step (by repeat (first | (with_reducible first | exact HB.out | apply lA | apply lN | apply lD) | exact HB.out)) hb); (try clear hb); (try clear hb2); (try clear hk); (try clear hi)) | (go_at_call 18; (with_reducible refine (cfg_Lives.calls k _ _ y101 1 (⟨#[120]⟩ : ByteArray) false _ ?side1 ?side2 A13.out).mono ?_); (case side1 => repeat (first | exact (Kd.R_reads' HO103.out).2.2 | (with_reducible refine Kd.C_alloc ?_ _) | (with_reducible refine Kd.C_drewN ?_ _) | (with_reducible refine Kd.C_drew ?_))); (case side2 => exact (Kd.R_reads' HO103.out).2.1); rintro e w58 ⟨rfl, hb⟩; replace HO103 := am (Kd.R_below (by (with_reducible repeat (first | apply Ra | apply Rn | apply Rd)); exact HO103.out) hb); replace HB := am (below_step (by repeat (first | (with_reducible first | exact HB.out | apply lA | apply lN | apply lD) | exact HB.out)) hb); (try clear hb); (try clear hb2); (try clear hk); (try clear hi)))
     go_ret
     exact ⟨by first | rfl | (simp [errW_none, errW_some] <;> rfl) | (simp [*, errW_none, errW_some] <;> rfl), by repeat (first | (with_reducible first | exact HB.out | apply lA | apply lN | apply lD) | exact HB.out)⟩
  ·replace c4 := Bool.eq_false_iff.mpr c4
   subst c4
   have H1 : (some false) = some r := by rw [if_neg (show ¬ (false = true) by decide)] at H; exact H
   clear H
   have H := H1
   clear H1
   obtain rfl := Option.some.inj H
   go_enter Try.func17, Try.ntmps17
   go_wp2_with (first | ((with_reducible refine gate_dst (N := 5) rfl ?_); (try (refine gate_guard (by rfl) ?_; dsimp only)); refine Kd.R_lit k30 _ 30 ?hg (N := 5) ?hd (xs := ([(⟨1, (⟨#[120]⟩ : ByteArray), (⟨#[]⟩ : ByteArray), (⟨#[]⟩ : ByteArray), (⟨#[]⟩ : ByteArray), 1, 0, 0⟩ : Stmt), (⟨6, (⟨#[]⟩ : ByteArray), (⟨#[120]⟩ : ByteArray), (⟨#[]⟩ : ByteArray), (⟨#[]⟩ : ByteArray), 0, 0, 0⟩ : Stmt), (⟨9, (⟨#[]⟩ : ByteArray), (⟨#[]⟩ : ByteArray), (⟨#[]⟩ : ByteArray), (⟨#[]⟩ : ByteArray), 0, 0, 0⟩ : Stmt)] : List (Stmt))) (inner := [.int .i64 1, .string (⟨#[120]⟩ : ByteArray), .string (⟨#[]⟩ : ByteArray), .string (⟨#[]⟩ : ByteArray), .string (⟨#[]⟩ : ByteArray), .int .i64 1, .int .i64 0, .int .i64 0, .int .i64 6, .string (⟨#[]⟩ : ByteArray), .string (⟨#[120]⟩ : ByteArray), .string (⟨#[]⟩ : ByteArray), .string (⟨#[]⟩ : ByteArray), .int .i64 0, .int .i64 0, .int .i64 0, .int .i64 9, .string (⟨#[]⟩ : ByteArray), .string (⟨#[]⟩ : ByteArray), .string (⟨#[]⟩ : ByteArray), .string (⟨#[]⟩ : ByteArray), .int .i64 0, .int .i64 0, .int .i64 0]) (ok := fun _ => True) (okp := fun _ => True) ?hr ?hp (fun _ hk => hk) trivial (Below.refl _ _) (Nat.le_refl _) (by simp) ?_; (case hd => rfl); (case hg => rfl); (case hr => first | (go_simp; done) | (go_simp; rfl)); (case hp => exact (Reps.c8 (show Kd.M k30 _ _ _ (⟨1, (⟨#[120]⟩ : ByteArray), (⟨#[]⟩ : ByteArray), (⟨#[]⟩ : ByteArray), (⟨#[]⟩ : ByteArray), 1, 0, 0⟩ : Stmt) [.int .i64 1, .string (⟨#[120]⟩ : ByteArray), .string (⟨#[]⟩ : ByteArray), .string (⟨#[]⟩ : ByteArray), .string (⟨#[]⟩ : ByteArray), .int .i64 1, .int .i64 0, .int .i64 0] from (k30_mkM _ _ _ (⟨1, (⟨#[120]⟩ : ByteArray), (⟨#[]⟩ : ByteArray), (⟨#[]⟩ : ByteArray), (⟨#[]⟩ : ByteArray), 1, 0, 0⟩ : Stmt) )) (Reps.c8 (show Kd.M k30 _ _ _ (⟨6, (⟨#[]⟩ : ByteArray), (⟨#[120]⟩ : ByteArray), (⟨#[]⟩ : ByteArray), (⟨#[]⟩ : ByteArray), 0, 0, 0⟩ : Stmt) [.int .i64 6, .string (⟨#[]⟩ : ByteArray), .string (⟨#[120]⟩ : ByteArray), .string (⟨#[]⟩ : ByteArray), .string (⟨#[]⟩ : ByteArray), .int .i64 0, .int .i64 0, .int .i64 0] from (k30_mkM _ _ _ (⟨6, (⟨#[]⟩ : ByteArray), (⟨#[120]⟩ : ByteArray), (⟨#[]⟩ : ByteArray), (⟨#[]⟩ : ByteArray), 0, 0, 0⟩ : Stmt) )) (Reps.c8 (show Kd.M k30 _ _ _ (⟨9, (⟨#[]⟩ : ByteArray), (⟨#[]⟩ : ByteArray), (⟨#[]⟩ : ByteArray), (⟨#[]⟩ : ByteArray), 0, 0, 0⟩ : Stmt) [.int .i64 9, .string (⟨#[]⟩ : ByteArray), .string (⟨#[]⟩ : ByteArray), .string (⟨#[]⟩ : ByteArray), .string (⟨#[]⟩ : ByteArray), .int .i64 0, .int .i64 0, .int .i64 0] from (k30_mkM _ _ _ (⟨9, (⟨#[]⟩ : ByteArray), (⟨#[]⟩ : ByteArray), (⟨#[]⟩ : ByteArray), (⟨#[]⟩ : ByteArray), 0, 0, 0⟩ : Stmt) )) (Reps.none _ _))))); intro v102 w59 ho60 hb hg_ hnew_; clear hg_ hnew_; (first | rw [← Ny101.out] at ho60 | (simp only [Int.reduceToNat] at ho60; rw [← Ny101.out] at ho60)); have HO103 := am (Kd.R_lower ho60 (below_size (by repeat (first | (with_reducible first | exact HB.out | apply lA | apply lN | apply lD) | exact HB.out)))); replace HB := am (below_step (by repeat (first | (with_reducible first | exact HB.out | apply lA | apply lN | apply lD) | exact HB.out)) hb); clear hb ho60; obtain ⟨Ao61, co61, eo61⟩ := Kd.R_slice HO103.out; subst eo61) | ((with_reducible refine gate_callee (f := 23) rfl ?_); refine goesL_ (some 7) rfl rfl Try.func23 (by kernel_rfl) rfl #[.slice Ao61 y101.length co61, .int .i64 1, .string (⟨#[120]⟩ : ByteArray), .int .i64 0] rfl (by (try simp only [List.map_toArray, List.map_cons, List.map_nil]); first | done | rfl | (simp only [List.length_drop, List.length_take]; rfl)) ?_; (with_reducible refine (cfg_Reaches.calls k _ _ y101 1 (⟨#[120]⟩ : ByteArray) 0 true _ ?side1 ?side2 A1.out).mono ?_); (case side1 => repeat (first | exact (Kd.R_reads' HO103.out).2.2 | (with_reducible refine Kd.C_alloc ?_ _) | (with_reducible refine Kd.C_drewN ?_ _) | (with_reducible refine Kd.C_drew ?_))); (case side2 => exact (Kd.R_reads' HO103.out).2.1); rintro e w62 ⟨rfl, hb⟩; refine ⟨_, rfl, ?_⟩; replace HO103 := am (Kd.R_below (by (with_reducible repeat (first | apply Ra | apply Rn | apply Rd)); exact HO103.out) hb); replace HB := am (below_step (by repeat (first | (with_reducible first | exact HB.out | apply lA | apply lN | apply lD) | exact HB.out)) hb); (try clear hb); (try clear hb2); (try clear hk); (try clear hi)) | (go_at_call 23; (with_reducible refine (cfg_Reaches.calls k _ _ y101 2 (⟨#[120]⟩ : ByteArray) 0 false _ ?side1 ?side2 A3.out).mono ?_); (case side1 => repeat (first | exact (Kd.R_reads' HO103.out).2.2 | (with_reducible refine Kd.C_alloc ?_ _) | (with_reducible refine Kd.C_drewN ?_ _) | (with_reducible refine Kd.C_drew ?_))); (case side2 => exact (Kd.R_reads' HO103.out).2.1); rintro e w63 ⟨rfl, hb⟩; replace HO103 := am (Kd.R_below (by (with_reducible repeat (first | apply Ra | apply Rn | apply Rd)); exact HO103.out) hb); replace HB := am (below_step (by repeat (first | (with_reducible first | exact HB.out | apply lA | apply lN | apply lD) | exact HB.out)) hb); (try clear hb); (try clear hb2); (try clear hk); (try clear hi)))
   go_ret
   exact ⟨by first | rfl | (simp [errW_none, errW_some] <;> rfl) | (simp [*, errW_none, errW_some] <;> rfl), by repeat (first | (with_reducible first | exact HB.out | apply lA | apply lN | apply lD) | exact HB.out)⟩
 ·replace c2 := Bool.eq_false_iff.mpr c2
  subst c2
  have H1 : (some false) = some r := by rw [if_neg (show ¬ (false = true) by decide)] at H; exact H
  clear H
  have H := H1
  clear H1
  obtain rfl := Option.some.inj H
  go_enter Try.func17, Try.ntmps17
  go_wp2_with (first | ((with_reducible refine gate_dst (N := 5) rfl ?_); (try (refine gate_guard (by rfl) ?_; dsimp only)); refine Kd.R_lit k30 _ 30 ?hg (N := 5) ?hd (xs := ([(⟨1, (⟨#[120]⟩ : ByteArray), (⟨#[]⟩ : ByteArray), (⟨#[]⟩ : ByteArray), (⟨#[]⟩ : ByteArray), 1, 0, 0⟩ : Stmt), (⟨6, (⟨#[]⟩ : ByteArray), (⟨#[120]⟩ : ByteArray), (⟨#[]⟩ : ByteArray), (⟨#[]⟩ : ByteArray), 0, 0, 0⟩ : Stmt), (⟨9, (⟨#[]⟩ : ByteArray), (⟨#[]⟩ : ByteArray), (⟨#[]⟩ : ByteArray), (⟨#[]⟩ : ByteArray), 0, 0, 0⟩ : Stmt)] : List (Stmt))) (inner := [.int .i64 1, .string (⟨#[120]⟩ : ByteArray), .string (⟨#[]⟩ : ByteArray), .string (⟨#[]⟩ : ByteArray), .string (⟨#[]⟩ : ByteArray), .int .i64 1, .int .i64 0, .int .i64 0, .int .i64 6, .string (⟨#[]⟩ : ByteArray), .string (⟨#[120]⟩ : ByteArray), .string (⟨#[]⟩ : ByteArray), .string (⟨#[]⟩ : ByteArray), .int .i64 0, .int .i64 0, .int .i64 0, .int .i64 9, .string (⟨#[]⟩ : ByteArray), .string (⟨#[]⟩ : ByteArray), .string (⟨#[]⟩ : ByteArray), .string (⟨#[]⟩ : ByteArray), .int .i64 0, .int .i64 0, .int .i64 0]) (ok := fun _ => True) (okp := fun _ => True) ?hr ?hp (fun _ hk => hk) trivial (Below.refl _ _) (Nat.le_refl _) (by simp) ?_; (case hd => rfl); (case hg => rfl); (case hr => first | (go_simp; done) | (go_simp; rfl)); (case hp => exact (Reps.c8 (show Kd.M k30 _ _ _ (⟨1, (⟨#[120]⟩ : ByteArray), (⟨#[]⟩ : ByteArray), (⟨#[]⟩ : ByteArray), (⟨#[]⟩ : ByteArray), 1, 0, 0⟩ : Stmt) [.int .i64 1, .string (⟨#[120]⟩ : ByteArray), .string (⟨#[]⟩ : ByteArray), .string (⟨#[]⟩ : ByteArray), .string (⟨#[]⟩ : ByteArray), .int .i64 1, .int .i64 0, .int .i64 0] from (k30_mkM _ _ _ (⟨1, (⟨#[120]⟩ : ByteArray), (⟨#[]⟩ : ByteArray), (⟨#[]⟩ : ByteArray), (⟨#[]⟩ : ByteArray), 1, 0, 0⟩ : Stmt) )) (Reps.c8 (show Kd.M k30 _ _ _ (⟨6, (⟨#[]⟩ : ByteArray), (⟨#[120]⟩ : ByteArray), (⟨#[]⟩ : ByteArray), (⟨#[]⟩ : ByteArray), 0, 0, 0⟩ : Stmt) [.int .i64 6, .string (⟨#[]⟩ : ByteArray), .string (⟨#[120]⟩ : ByteArray), .string (⟨#[]⟩ : ByteArray), .string (⟨#[]⟩ : ByteArray), .int .i64 0, .int .i64 0, .int .i64 0] from (k30_mkM _ _ _ (⟨6, (⟨#[]⟩ : ByteArray), (⟨#[120]⟩ : ByteArray), (⟨#[]⟩ : ByteArray), (⟨#[]⟩ : ByteArray), 0, 0, 0⟩ : Stmt) )) (Reps.c8 (show Kd.M k30 _ _ _ (⟨9, (⟨#[]⟩ : ByteArray), (⟨#[]⟩ : ByteArray), (⟨#[]⟩ : ByteArray), (⟨#[]⟩ : ByteArray), 0, 0, 0⟩ : Stmt) [.int .i64 9, .string (⟨#[]⟩ : ByteArray), .string (⟨#[]⟩ : ByteArray), .string (⟨#[]⟩ : ByteArray), .string (⟨#[]⟩ : ByteArray), .int .i64 0, .int .i64 0, .int .i64 0] from (k30_mkM _ _ _ (⟨9, (⟨#[]⟩ : ByteArray), (⟨#[]⟩ : ByteArray), (⟨#[]⟩ : ByteArray), (⟨#[]⟩ : ByteArray), 0, 0, 0⟩ : Stmt) )) (Reps.none _ _))))); intro v102 w64 ho65 hb hg_ hnew_; clear hg_ hnew_; (first | rw [← Ny101.out] at ho65 | (simp only [Int.reduceToNat] at ho65; rw [← Ny101.out] at ho65)); have HO103 := am (Kd.R_lower ho65 (below_size (by repeat (first | (with_reducible first | exact HB.out | apply lA | apply lN | apply lD) | exact HB.out)))); replace HB := am (below_step (by repeat (first | (with_reducible first | exact HB.out | apply lA | apply lN | apply lD) | exact HB.out)) hb); clear hb ho65; obtain ⟨Ao66, co66, eo66⟩ := Kd.R_slice HO103.out; subst eo66) | ((with_reducible refine gate_callee (f := 23) rfl ?_); refine goesL_ (some 7) rfl rfl Try.func23 (by kernel_rfl) rfl #[.slice Ao66 y101.length co66, .int .i64 1, .string (⟨#[120]⟩ : ByteArray), .int .i64 0] rfl (by (try simp only [List.map_toArray, List.map_cons, List.map_nil]); first | done | rfl | (simp only [List.length_drop, List.length_take]; rfl)) ?_; (with_reducible refine (cfg_Reaches.calls k _ _ y101 1 (⟨#[120]⟩ : ByteArray) 0 false _ ?side1 ?side2 A1.out).mono ?_); (case side1 => repeat (first | exact (Kd.R_reads' HO103.out).2.2 | (with_reducible refine Kd.C_alloc ?_ _) | (with_reducible refine Kd.C_drewN ?_ _) | (with_reducible refine Kd.C_drew ?_))); (case side2 => exact (Kd.R_reads' HO103.out).2.1); rintro e w67 ⟨rfl, hb⟩; refine ⟨_, rfl, ?_⟩; replace HO103 := am (Kd.R_below (by (with_reducible repeat (first | apply Ra | apply Rn | apply Rd)); exact HO103.out) hb); replace HB := am (below_step (by repeat (first | (with_reducible first | exact HB.out | apply lA | apply lN | apply lD) | exact HB.out)) hb); (try clear hb); (try clear hb2); (try clear hk); (try clear hi)))
  go_ret
  exact ⟨by first | rfl | (simp [errW_none, errW_some] <;> rfl) | (simp [*, errW_none, errW_some] <;> rfl), by repeat (first | (with_reducible first | exact HB.out | apply lA | apply lN | apply lD) | exact HB.out)⟩
end Go.Proofs.Ytnepgcbgkhikkaa.H
namespace Go.Proofs.Ytnepgcbgkhikkaa.H
open Go.RowKit Go.Proofs.YtnepgcbgkhikkaaW.PrintWords
set_option linter.unusedVariables false
set_option linter.unusedSimpArgs false
def defB (st : Stmt) (x : ByteArray) : Bool := (defN st).2 && decide ((defN st).1 = x)
theorem defB_iff {st : Stmt} {x : ByteArray} : defB st x = true ↔ (defN st).2 = true ∧ (defN st).1 = x := by simp [defB]
theorem defines_eq (st : Stmt) (x : ByteArray) : cfg_defines.f st.kind st.x st.y st.z st.op st.n st.a st.b x = some (defB st x) := by
  unfold cfg_defines.f
  rw [Def_eq]
  simp only [Option.bind_some, defB]
  cases h : (defN st).2 with
  | true =>
    rw [if_pos rfl]
    have : ((defN st).1.toList == x.toList) = decide ((defN st).1 = x) := by
      rw [Bool.eq_iff_iff]; simp [lib_ba_eq]
    simp [this]
  | false => rw [if_neg (by simp)]; rfl
def keepS (s : List Stmt) (x : ByteArray) : Int → Bool := fun m => !defB (at_ s m) x
theorem keepF_on (s : List Stmt) (x : ByteArray) (m : Int) (h0 : 0 ≤ m) (h1 : m < (s.length : Int)) : keepF s x m = some (keepS s x m) := by
  unfold keepF keepS at_
  rw [if_pos h0, if_pos h1, defines_eq]; rfl
def reachP (s : List Stmt) (n : Int) (x : ByteArray) (d : Int) : Prop := 0 ≤ n ∧ n < (s.length : Int) ∧ 0 ≤ d ∧ d < (s.length : Int) ∧ defB (at_ s d) x = true ∧ Rch s (keepS s x) (nxt s d) n
theorem Reaches_ev (s : List Stmt) (n : Int) (x : ByteArray) (d : Int) (hs : s.length ≤ 1000) : ∃ b, Ev (fun k => cfg_Reaches.f k s n x d) b ∧ (b = true ↔ reachP s n x d) := by
  unfold cfg_Reaches.f
  have no : Ev (fun k => cfg_Reaches.j0 k n d true s x) false := Ev.step (fun k => by rw [cfg_Reaches.j0]) (Ev.pos rfl (Ev.now _))
  have w : ∀ m : Int, withinB s.length m = true ↔ 0 ≤ m ∧ m < (s.length : Int) := by intro m; simp [withinB]
  by_cases hn : 0 ≤ n ∧ n < (s.length : Int)
  · by_cases hd : 0 ≤ d ∧ d < (s.length : Int)
    · cases hb : defB (at_ s d) x with
      | false =>
        refine ⟨false, Ev.pure (within_eq s n) (Ev.pos ((w n).2 hn) (Ev.pure (within_eq s d) (Ev.pos ((w d).2 hd) (Ev.pos hd.1 (Ev.pos hd.2 (Ev.pure (defines_eq (at_ s d) x) ?_)))))), by simp [reachP, hb]⟩
        rw [hb]; exact no
      | true =>
        obtain ⟨r, hr, hrl, hri⟩ := ways_ev s (keepF s x) (keepS s x) (keepF_on s x) (nxt s d) (fun f hf => ⟨(nxt_within hf).1, (nxt_within hf).2.1⟩) hs (by have := nxt_len s d; omega)
        obtain ⟨i, rfl⟩ : ∃ q : Nat, n = (q : Int) := ⟨n.toNat, by omega⟩
        cases hv : r[i]? with
        | none => rw [List.getElem?_eq_none_iff] at hv; omega
        | some v =>
          refine ⟨v, Ev.pure (within_eq s i) (Ev.pos ((w i).2 hn) (Ev.pure (within_eq s d) (Ev.pos ((w d).2 hd) (Ev.pos hd.1 (Ev.pos hd.2 (Ev.pure (defines_eq (at_ s d) x) ?_)))))), ?_⟩
          · rw [hb]
            refine Ev.step (fun k => by rw [cfg_Reaches.j0]) (Ev.neg (by simp) (Ev.pure (Next_eq s d) (Ev.bind hr ?_)))
            exact Ev.pos (by omega) (Ev.pos (by omega) (Ev.some (getD_at hv _)))
          · rw [← Option.some_inj, ← hv, hri i]
            simp [reachP, hb, hn, hd]
    · refine ⟨false, Ev.pure (within_eq s n) (Ev.pos ((w n).2 hn) (Ev.pure (within_eq s d) (Ev.neg (fun h => hd ((w d).1 h)) no))), ⟨fun h => by simp at h, fun h => absurd ⟨h.2.2.1, h.2.2.2.1⟩ hd⟩⟩
  · refine ⟨false, Ev.pure (within_eq s n) (Ev.neg (fun h => hn ((w n).1 h)) no), ⟨fun h => by simp at h, fun h => absurd ⟨h.1, h.2.1⟩ hn⟩⟩
def liveP (s : List Stmt) (n : Int) (x : ByteArray) : Prop := 0 ≤ n ∧ n < (s.length : Int) ∧ ∃ m : Int, Rch s (keepS s x) [n] m ∧ x ∈ usesS (at_ s m)
theorem Rch_within {s : List Stmt} {on : Int → Bool} {fr : List Int} (hfr : ∀ f ∈ fr, 0 ≤ f ∧ f < (s.length : Int)) {n : Int} (h : Rch s on fr n) : 0 ≤ n ∧ n < (s.length : Int) := by
  cases h with
  | base h => exact hfr _ h
  | step _ _ h => exact ⟨(nxt_within h).1, (nxt_within h).2.1⟩
theorem Lives_l0 (s : List Stmt) (x : ByteArray) (seen : List Bool) (hl : seen.length = s.length) (hs : s.length ≤ 1000) : ∀ (d i : Nat), i + d = s.length →
    ∃ b, Ev (fun k => cfg_Lives.l0 k seen (seen.length : Int) i s x) b ∧ (b = true ↔ ∃ m : Nat, i ≤ m ∧ seen[m]? = some true ∧ x ∈ usesS (at_ s m))
  | 0, i, e => by
    refine ⟨false, Ev.step (fun k => by rw [cfg_Lives.l0]) (Ev.neg (by omega) (Ev.now _)), by
      simp only [Bool.false_eq_true, false_iff, not_exists]
      rintro m ⟨h1, h2, -⟩
      have := (List.getElem?_eq_some_iff.1 h2).1
      omega⟩
  | d + 1, i, e => by
    obtain ⟨b, hb, hbi⟩ := Lives_l0 s x seen hl hs d (i + 1) (by omega)
    have more : ∀ {P : Prop}, (P ↔ ∃ m : Nat, i + 1 ≤ m ∧ seen[m]? = some true ∧ x ∈ usesS (at_ s m)) → ¬ (seen[i]? = some true ∧ x ∈ usesS (at_ s i)) → (P ↔ ∃ m : Nat, i ≤ m ∧ seen[m]? = some true ∧ x ∈ usesS (at_ s m)) := by
      intro P hP hn
      rw [hP]
      constructor
      · rintro ⟨m, h1, h2⟩; exact ⟨m, by omega, h2⟩
      · rintro ⟨m, h1, h2⟩
        rcases Nat.lt_or_ge i m with h | h
        · exact ⟨m, h, h2⟩
        · obtain rfl : m = i := by omega
          exact absurd h2 hn
    cases hv : seen[i]? with
    | none => rw [List.getElem?_eq_none_iff] at hv; omega
    | some v =>
      cases v with
      | false =>
        refine ⟨b, Ev.step (fun k => by rw [cfg_Lives.l0]) (Ev.pos (by omega) (Ev.pos (by omega) (Ev.pos (by omega) ?_))), more hbi (by rw [hv]; simp)⟩
        rw [show rdOf false seen (i : Int) = false from getD_at hv _, wrap_up (by omega)]
        exact Ev.neg (by simp) hb
      | true =>
        by_cases c : x ∈ usesS (at_ s i)
        · refine ⟨true, Ev.step (fun k => by rw [cfg_Lives.l0]) (Ev.pos (by omega) (Ev.pos (by omega) (Ev.pos (by omega) ?_))), by simp only [true_iff]; exact ⟨i, Nat.le_refl _, hv, c⟩⟩
          rw [show rdOf false seen (i : Int) = true from getD_at hv _]
          refine Ev.pos rfl (Ev.pos (by omega) (Ev.pure (Uses_eq (at_ s i)) (Ev.bind (Contains_ev _ x (by have := usesS_len (at_ s i); omega)) ?_)))
          rw [mem_iff.2 c]
          exact Ev.pos rfl (Ev.now _)
        · refine ⟨b, Ev.step (fun k => by rw [cfg_Lives.l0]) (Ev.pos (by omega) (Ev.pos (by omega) (Ev.pos (by omega) ?_))), more hbi (fun h => c h.2)⟩
          rw [show rdOf false seen (i : Int) = true from getD_at hv _, wrap_up (by omega)]
          refine Ev.pos rfl (Ev.pos (by omega) (Ev.pure (Uses_eq (at_ s i)) (Ev.bind (Contains_ev _ x (by have := usesS_len (at_ s i); omega)) ?_)))
          exact Ev.neg (by rw [mem_iff]; exact c) hb
theorem Lives_ev (s : List Stmt) (n : Int) (x : ByteArray) (hs : s.length ≤ 1000) : ∃ b, Ev (fun k => cfg_Lives.f k s n x) b ∧ (b = true ↔ liveP s n x) := by
  unfold cfg_Lives.f
  have w : withinB s.length n = true ↔ 0 ≤ n ∧ n < (s.length : Int) := by simp [withinB]
  by_cases hn : 0 ≤ n ∧ n < (s.length : Int)
  · have hfr : ∀ f ∈ [n], 0 ≤ f ∧ f < (s.length : Int) := by intro f hf; simp at hf; subst hf; exact hn
    obtain ⟨r, hr, hrl, hri⟩ := ways_ev s (keepF s x) (keepS s x) (keepF_on s x) [n] hfr hs (by simp)
    obtain ⟨b, hb, hbi⟩ := Lives_l0 s x r hrl hs s.length 0 (by omega)
    refine ⟨b, Ev.pure (within_eq s n) (Ev.pos (w.2 hn) (Ev.bind hr hb)), ?_⟩
    rw [hbi]
    constructor
    · rintro ⟨m, -, h2, h3⟩; exact ⟨hn.1, hn.2, m, (hri m).1 h2, h3⟩
    · rintro ⟨-, -, m, h1, h2⟩
      have hm := Rch_within hfr h1
      obtain ⟨i, rfl⟩ : ∃ q : Nat, m = (q : Int) := ⟨m.toNat, by omega⟩
      exact ⟨i, by omega, (hri i).2 h1, h2⟩
  · refine ⟨false, Ev.pure (within_eq s n) (Ev.neg (fun h => hn (w.1 h)) (Ev.now _)), ?_⟩
    simp only [liveP, Bool.false_eq_true, false_iff]
    rintro ⟨a, b, -⟩
    exact hn ⟨a, b⟩
theorem ev_of {g : Nat → Option Bool} {P : Prop} (h : ∃ b, Ev g b ∧ (b = true ↔ P)) {b : Bool} (e : b = true ↔ P) : Ev g b := by
  obtain ⟨c, hc, hp⟩ := h
  have : c = b := by rw [Bool.eq_iff_iff, hp, e]
  exact this ▸ hc
theorem ev_yes {g : Nat → Option Bool} {P : Prop} (h : ∃ b, Ev g b ∧ (b = true ↔ P)) (e : P) : Ev g true := ev_of h (by simp [e])
theorem ev_no {g : Nat → Option Bool} {P : Prop} (h : ∃ b, Ev g b ∧ (b = true ↔ P)) (e : ¬ P) : Ev g false := ev_of h (by simp [e])
def exX : ByteArray := (⟨#[120]⟩ : ByteArray)
def exL : List Stmt := [(⟨1, (⟨#[120]⟩ : ByteArray), (⟨#[]⟩ : ByteArray), (⟨#[]⟩ : ByteArray), (⟨#[]⟩ : ByteArray), 1, 0, 0⟩ : Stmt), (⟨6, (⟨#[]⟩ : ByteArray), (⟨#[120]⟩ : ByteArray), (⟨#[]⟩ : ByteArray), (⟨#[]⟩ : ByteArray), 0, 0, 0⟩ : Stmt), (⟨9, (⟨#[]⟩ : ByteArray), (⟨#[]⟩ : ByteArray), (⟨#[]⟩ : ByteArray), (⟨#[]⟩ : ByteArray), 0, 0, 0⟩ : Stmt)]
theorem exn (n : Int) : nxt exL n = if n = 0 then [1] else if n = 1 then [2] else [] := by
  by_cases h0 : n = 0
  · subst h0; decide +kernel
  · by_cases h1 : n = 1
    · subst h1; decide +kernel
    · by_cases h2 : n = 2
      · subst h2; decide +kernel
      · unfold nxt
        rw [if_neg (by intro h; have : (exL.length : Int) = 3 := rfl; omega), if_neg h0, if_neg h1]
theorem shown20_ev : Ev (fun k => lambrequinlaw20_shown.f k) true := by
  unfold lambrequinlaw20_shown.f
  refine Ev.pure (a := exL) rfl ?_
  have hl : exL.length ≤ 1000 := by decide
  have k0 : keepS exL exX 0 = false := by decide +kernel
  have k1 : keepS exL exX 1 = true := by decide +kernel
  have k2 : keepS exL exX 2 = true := by decide +kernel
  have e0 : nxt exL 0 = [1] := by rw [exn]; rfl
  have r1 : Rch exL (keepS exL exX) (nxt exL 0) 1 := .base (by rw [e0]; simp)
  refine Ev.bind (ev_yes (Reaches_ev exL 1 exX 0 hl) ⟨by decide, by decide, by decide, by decide, by decide +kernel, r1⟩) (Ev.pos rfl ?_)
  refine Ev.bind (ev_yes (Reaches_ev exL 2 exX 0 hl) ⟨by decide, by decide, by decide, by decide, by decide +kernel, .step r1 k1 (by rw [exn]; decide)⟩) (Ev.pos rfl ?_)
  have n0 : ∀ m : Int, (0 : Int) ∈ nxt exL m → False := by
    intro m hm
    rw [exn] at hm
    split at hm
    · simp at hm
    · split at hm <;> simp at hm
  refine Ev.bind (ev_no (Reaches_ev exL 0 exX 0 hl) ?_) (Ev.neg (by simp) ?_)
  · rintro ⟨-, -, -, -, -, h⟩
    cases h with
    | base h => exact n0 _ h
    | step _ _ h => exact n0 _ h
  refine Ev.bind (ev_yes (Lives_ev exL 1 exX hl) ⟨by decide, by decide, 1, .base (by simp), mem_iff.1 (by decide +kernel)⟩) (Ev.pos rfl ?_)
  refine Ev.bind (ev_no (Lives_ev exL 0 exX hl) ?_) (Ev.neg (by simp) ?_)
  · rintro ⟨-, -, m, h, hu⟩
    have : m = 0 := by
      clear hu
      induction h with
      | base h => simpa using h
      | step h1 ho hj ih => rw [ih, k0] at ho; cases ho
    subst this
    rw [← mem_iff] at hu
    revert hu; decide +kernel
  refine Ev.bind (ev_no (Lives_ev exL 2 exX hl) ?_) (Ev.neg (by simp) ?_)
  · rintro ⟨-, -, m, h, hu⟩
    have : m = 2 := by
      clear hu
      induction h with
      | base h => simpa using h
      | step h1 ho hj ih => rw [ih, exn] at hj; simp at hj
    subst this
    rw [← mem_iff] at hu
    revert hu; decide +kernel
  refine Ev.pure (Next_eq exL 1) (Ev.bind (Ints_ev _ _ (by rw [exn]; decide)) (Ev.some ?_))
  rw [exn]; decide
end Go.Proofs.Ytnepgcbgkhikkaa.H
/- on a trace: where it leads, who wrote a name last, what is read later -/
namespace Go.Proofs.Ytnepgcbgkhikkaa.H
open Go.RowKit Go.Proofs.YtnepgcbgkhikkaaW.PrintWords
set_option linter.unusedVariables false
set_option linter.unusedSimpArgs false
theorem mem_srtI2 {a b x : Int} : x ∈ srtI2 a b ↔ x = a ∨ x = b := by
  unfold srtI2
  split
  · simp
  · split
    · simp; omega
    · simp; omega
theorem stmt_at2 {l : List Stmt} {s : St} (h : inS l s) {st : Stmt} (e : l[s.n.toNat]? = some st) : at_ l s.n = st := by
  unfold at_ rd_T30
  rw [List.getD_eq_getElem?_getD, e]
  rfl
theorem leads {l : List Stmt} {s : St} (h : inS l s) (h' : inS l (nextS l s)) : (nextS l s).n ∈ nxt l s.n := by
  obtain ⟨st, e, hm, hn⟩ := inS_at h
  have ha := stmt_at2 h e
  have hq : 0 ≤ (nextS l s).n ∧ (nextS l s).n < (l.length : Int) := h'
  unfold nxt
  rw [if_pos (show 0 ≤ s.n ∧ s.n < (l.length : Int) from h), List.mem_filter, ha]
  refine ⟨?_, by simp [withinB]; exact hq⟩
  rw [hn] at hq ⊢
  show stepN st s.n.toNat s.vs s.ora ∈ nxtRaw st s.n
  replace hq : 0 ≤ stepN st s.n.toNat s.vs s.ora ∧ _ := hq
  have h0 : ((s.n.toNat : Nat) : Int) = s.n := by have := h.1; omega
  unfold stepN at hq ⊢
  unfold nxtRaw
  by_cases k7 : st.kind = 7
  · rw [if_pos k7, if_pos k7, mem_srtI2]; split <;> simp
  · rw [if_neg k7] at hq ⊢
    rw [if_neg k7]
    by_cases k8 : st.kind = 8
    · rw [if_pos k8, if_pos k8]; simp
    · rw [if_neg k8] at hq ⊢
      rw [if_neg k8]
      by_cases k9 : st.kind = 9
      · rw [if_pos k9] at hq; omega
      · rw [if_neg k9, if_neg k9, h0]; simp
theorem defB_at {l : List Stmt} {s : St} (h : inS l s) {st : Stmt} (e : l[s.n.toNat]? = some st) (x : ByteArray) : defB (at_ l s.n) x = true ↔ defK st ∧ st.x = x := by
  rw [stmt_at2 h e, defB_iff]
  unfold defN defK
  split
  · rename_i c; simp [c]
  · rename_i c; simp [c]
theorem nodup_names {l : List Stmt} {s : St} (hn : s.vs.map Var.name = nmsV l) {i j : Nat} {v w : Var} (hi : s.vs[i]? = some v) (hj : s.vs[j]? = some w) (e : v.name = w.name) : i = j := by
  have hp : ((s.vs.map Var.name).map toL).Pairwise (· < ·) := by rw [hn]; exact setS_sorted (l.flatMap namesOf)
  have hq : ∀ {i j : Nat} {v w : Var}, s.vs[i]? = some v → s.vs[j]? = some w → v.name = w.name → ¬ i < j := by
    intro i j v w hi hj e hlt
    obtain ⟨hil, ei⟩ := List.getElem?_eq_some_iff.1 hi
    obtain ⟨hjl, ej⟩ := List.getElem?_eq_some_iff.1 hj
    have := List.pairwise_iff_getElem.1 hp i j (by simpa using hil) (by simpa using hjl) hlt
    simp only [List.getElem_map, ei, ej, e] at this
    exact List.lt_irrefl _ this
  have h1 := hq hi hj e
  have h2 := hq hj hi e.symm
  omega
/-- what a name has behind a statement: what it had, if that doesn't define it, or what was made -/
theorem vars_next {l : List Stmt} {s : St} (h : inS l s) (hn : s.vs.map Var.name = nmsV l) {st : Stmt} (e : l[s.n.toNat]? = some st) {i : Nat} {v : Var} (hv : (nextS l s).vs[i]? = some v) :
    (¬ (defK st ∧ st.x = v.name) ∧ s.vs[i]? = some v) ∨ (defK st ∧ v = madeV st s.n.toNat s.vs s.ins) := by
  obtain ⟨st', e', hm, hx⟩ := inS_at h
  obtain rfl : st = st' := by rw [e] at e'; exact Option.some.inj e'
  rw [hx] at hv
  replace hv : (stepV st s.n.toNat s.vs s.ins)[i]? = some v := hv
  unfold stepV at hv
  by_cases hk : defK st
  · rw [if_pos hk] at hv
    have hkn : KnownBy st (s.vs.map Var.name) := by rw [hn]; exact known_of hm
    obtain ⟨k, y, h1, h2, h3⟩ := getV_at s.vs 0 (hkn.x hk)
    have ha : atV s.vs st.x = (k : Int) := by rw [atV, h1, Nat.zero_add]
    have hy : y.name = st.x := by
      have : getV s.vs st.x = y := h3
      rw [← this]
      unfold getV
      cases hf : s.vs.find? (fun p => decide (p.name = st.x)) with
      | none =>
        rw [List.find?_eq_none] at hf
        obtain ⟨w, hw, ew⟩ := List.mem_map.1 (hkn.x hk)
        exact absurd ew (by simpa using hf w hw)
      | some w => simpa using List.find?_some hf
    rw [ha, Int.toNat_natCast, List.getElem?_set] at hv
    split at hv
    · rename_i ei
      have hl := (List.getElem?_eq_some_iff.1 h2).1
      rw [if_pos hl] at hv
      exact .inr ⟨hk, (Option.some.inj hv).symm⟩
    · rename_i ei
      refine .inl ⟨fun hd => ei ?_, hv⟩
      exact nodup_names hn h2 hv (hy.trans hd.2)
  · rw [if_neg hk] at hv
    exact .inl ⟨fun hd => hk hd.1, hv⟩
theorem madeV_name (st : Stmt) (n : Nat) (vs : List Var) (ins : List Int) : (madeV st n vs ins).name = st.x ∧ (madeV st n vs ins).last = (n : Int) := by
  unfold madeV
  repeat' split
  all_goals exact ⟨rfl, rfl⟩
/-- who wrote a name last defines it, and reaches the statement; what never was written is 0 -/
def okV (l : List Stmt) (n : Int) (v : Var) : Prop := (v.last < 0 → v.n = 0 ∧ v.taint = false ∧ v.last = -1) ∧ (0 ≤ v.last → reachP l n v.name v.last)
theorem okV_next {l : List Stmt} {s : St} (h : inS l s) (h' : inS l (nextS l s)) (hn : s.vs.map Var.name = nmsV l) (ho : ∀ (i : Nat) v, s.vs[i]? = some v → okV l s.n v) : ∀ (i : Nat) v, (nextS l s).vs[i]? = some v → okV l (nextS l s).n v := by
  intro i v hv
  obtain ⟨st, e, hm, hx⟩ := inS_at h
  have hl := leads h h'
  have h0 : ((s.n.toNat : Nat) : Int) = s.n := by have := h.1; omega
  rcases vars_next h hn e hv with ⟨hd, hv⟩ | ⟨hk, rfl⟩
  · obtain ⟨o1, o2⟩ := ho i v hv
    refine ⟨o1, fun hq => ?_⟩
    obtain ⟨r1, r2, r3, r4, r5, r6⟩ := o2 hq
    refine ⟨h'.1, h'.2, r3, r4, r5, .step r6 ?_ hl⟩
    unfold keepS
    rw [Bool.not_eq_true', ← Bool.not_eq_true, defB_at h e]
    exact hd
  · obtain ⟨q1, q2⟩ := madeV_name st s.n.toNat s.vs s.ins
    refine ⟨fun hq => by rw [q2] at hq; omega, fun _ => ?_⟩
    rw [q1, q2, h0]
    exact ⟨h'.1, h'.2, h.1, h.2, (defB_at h e _).2 ⟨hk, rfl⟩, .base hl⟩
theorem okV_all {l : List Stmt} {s : St} (hn : s.vs.map Var.name = nmsV l) (ho : ∀ (i : Nat) v, s.vs[i]? = some v → okV l s.n v) : ∀ (m : Nat), (∀ i, i ≤ m → inS l (sN l s i)) → ∀ (i : Nat) v, (sN l s m).vs[i]? = some v → okV l (sN l s m).n v
  | 0, _ => ho
  | m + 1, h => okV_next (h m (by omega)) (h (m + 1) (by omega)) (names_sN hn m (fun i hi => h i (by omega))) (okV_all hn ho m (fun i hi => h i (by omega)))
theorem okV_s0 (l : List Stmt) (ins : List Int) (ora : List Bool) : ∀ (i : Nat) v, (s0 l ins ora).vs[i]? = some v → okV l (s0 l ins ora).n v := by
  intro i v hv
  have : ((nmsV l).map initV)[i]? = some v := hv
  rw [List.getElem?_map] at this
  obtain ⟨x, -, rfl⟩ := Option.map_eq_some_iff.1 this
  exact ⟨fun _ => ⟨rfl, rfl, rfl⟩, fun h => absurd h (by simp [initV])⟩
/-- from a state on: a name that was not written leads there -/
theorem unwritten {l : List Stmt} {s : St} (x : ByteArray) : ∀ (m : Nat), (∀ i, i ≤ m → inS l (sN l s i)) → (∀ i, i < m → defB (at_ l (sN l s i).n) x = false) → Rch l (keepS l x) [s.n] (sN l s m).n
  | 0, _, _ => .base (by simp [sN])
  | m + 1, h, hd => by
    refine .step (unwritten x m (fun i hi => h i (by omega)) (fun i hi => hd i (by omega))) ?_ (leads (h m (by omega)) (h (m + 1) (by omega)))
    unfold keepS
    rw [hd m (by omega)]; rfl
end Go.Proofs.Ytnepgcbgkhikkaa.H
namespace Go.Proofs.Ytnepgcbgkhikkaa.H
open Go.RowKit Go.Proofs.YtnepgcbgkhikkaaW.PrintWords Go.Proofs.YtnepgcbgkhikkaaW.PrintLast Go.Proofs.YtnepgcbgkhikkaaW.PrintMore
attribute [local go_sem] max2_int min2_int max_two min_two max_three min_three max_four min_four
set_option linter.unusedVariables false
set_option linter.unusedSimpArgs false
mutual
def lambrequinlaw22_InterpLives.l0 : Nat → Bool → List (Visit) → Int → List (Stmt) → List Int → List Bool → Int → Option (Bool)
 | 0, _, _, _, _, _, _, _ => none
 | k + 1, x3, x4, x5, x102000, x102001, x102002, x102003 => if x5 < (x4.length : Int) then (lambrequinlaw22_InterpLives.l1 k x3 x4 x5 ([] : List ByteArray) x5 x102000 x102001 x102002 x102003) else (some x3)
def lambrequinlaw22_InterpLives.l1 : Nat → Bool → List (Visit) → Int → List ByteArray → Int → List (Stmt) → List Int → List Bool → Int → Option (Bool)
 | 0, _, _, _, _, _, _, _, _, _ => none
 | k + 1, x3, x4, x5, x6, x7, x102000, x102001, x102002, x102003 => if x7 < (x4.length : Int) then (if 0 ≤ x7 then (if ((rd_T52 x4 x7).place) < 0 then (lambrequinlaw22_InterpLives.j2 k x3 x4 x5 x6 x7 true x102000 x102001 x102002 x102003) else (lambrequinlaw22_InterpLives.j2 k x3 x4 x5 x6 x7 (decide (((rd_T52 x4 x7).place) ≥ (x102000.length : Int))) x102000 x102001 x102002 x102003)) else (none)) else (lambrequinlaw22_InterpLives.l0 k x3 x4 (wrap64 (x5 + 1)) x102000 x102001 x102002 x102003)
def lambrequinlaw22_InterpLives.j2 : Nat → Bool → List (Visit) → Int → List ByteArray → Int → Bool → List (Stmt) → List Int → List Bool → Int → Option (Bool)
 | 0, _, _, _, _, _, _, _, _, _, _ => none
 | k + 1, x3, x4, x5, x6, x7, x56, x102000, x102001, x102002, x102003 => if x56 = true then (some false) else (if 0 ≤ x7 then (if x7 < (x4.length : Int) then (if 0 ≤ ((rd_T52 x4 x7).place) then (if ((rd_T52 x4 x7).place) < (x102000.length : Int) then ((cfg_Uses.f ((rd_T30 x102000 ((rd_T52 x4 x7).place)).kind) ((rd_T30 x102000 ((rd_T52 x4 x7).place)).x) ((rd_T30 x102000 ((rd_T52 x4 x7).place)).y) ((rd_T30 x102000 ((rd_T52 x4 x7).place)).z) ((rd_T30 x102000 ((rd_T52 x4 x7).place)).op) ((rd_T30 x102000 ((rd_T52 x4 x7).place)).n) ((rd_T30 x102000 ((rd_T52 x4 x7).place)).a) ((rd_T30 x102000 ((rd_T52 x4 x7).place)).b)).bind fun t112 => (lambrequinlaw22_InterpLives.l2 k x3 x4 x5 x6 x7 t112 0 x102000 x102001 x102002 x102003 ((rd_T30 x102000 ((rd_T52 x4 x7).place)).kind) ((rd_T30 x102000 ((rd_T52 x4 x7).place)).x) ((rd_T30 x102000 ((rd_T52 x4 x7).place)).y) ((rd_T30 x102000 ((rd_T52 x4 x7).place)).z) ((rd_T30 x102000 ((rd_T52 x4 x7).place)).op) ((rd_T30 x102000 ((rd_T52 x4 x7).place)).n) ((rd_T30 x102000 ((rd_T52 x4 x7).place)).a) ((rd_T30 x102000 ((rd_T52 x4 x7).place)).b))) else (none)) else (none)) else (none)) else (none))
def lambrequinlaw22_InterpLives.l2 : Nat → Bool → List (Visit) → Int → List ByteArray → Int → List ByteArray → Int → List (Stmt) → List Int → List Bool → Int → Int → ByteArray → ByteArray → ByteArray → ByteArray → Int → Int → Int → Option (Bool)
 | 0, _, _, _, _, _, _, _, _, _, _, _, _, _, _, _, _, _, _, _ => none
 | k + 1, x3, x4, x5, x6, x7, x9, x10, x102000, x102001, x102002, x102003, x112000, x112001, x112002, x112003, x112004, x112005, x112006, x112007 => if x10 < (x9.length : Int) then (if 0 ≤ x10 then ((lambrequinref09_In.f k x6 (rdOf ByteArray.empty x9 x10)).bind fun t121 => (if t121 = true then (lambrequinlaw22_InterpLives.l2 k x3 x4 x5 x6 x7 x9 (wrap64 (x10 + 1)) x102000 x102001 x102002 x102003 x112000 x112001 x112002 x112003 x112004 x112005 x112006 x112007) else (if 0 ≤ x5 then (if x5 < (x4.length : Int) then ((cfg_Lives.f k x102000 ((rd_T52 x4 x5).place) (rdOf ByteArray.empty x9 x10)).bind fun t124 => (if t124 = true then (lambrequinlaw22_InterpLives.l2 k x3 x4 x5 x6 x7 x9 (wrap64 (x10 + 1)) x102000 x102001 x102002 x102003 x112000 x112001 x112002 x112003 x112004 x112005 x112006 x112007) else (some false))) else (none)) else (none)))) else (none)) else ((cfg_Def.f x112000 x112001 x112002 x112003 x112004 x112005 x112006 x112007).bind fun bt115 => (if bt115.2 = true then (if x6.length < 8796093022208 then (lambrequinlaw22_InterpLives.l1 k x3 x4 x5 (x6 ++ [bt115.1]) (wrap64 (x7 + 1)) x102000 x102001 x102002 x102003) else (none)) else (lambrequinlaw22_InterpLives.l1 k x3 x4 x5 x6 (wrap64 (x7 + 1)) x102000 x102001 x102002 x102003)))
end
def lambrequinlaw22_InterpLives.f (k : Nat) (l0_0 : List (Stmt)) (l0_1 : List Int) (l0_2 : List Bool) (a0_3 : Int) : Option (Bool) := (lambrequinlaw22_shown.f).bind fun t102 => ((lambrequinlaw22_few.f l0_0 l0_1 l0_2 a0_3).bind fun t103 => (if t103 = true then ((interp_Run.f l0_0 l0_1 l0_2 a0_3).bind fun t104 => (lambrequinlaw22_InterpLives.l0 k t102 t104 0 l0_0 l0_1 l0_2 a0_3)) else (some t102)))
theorem lambrequinlaw22_InterpLives.mono_l : ∀ k, (∀ y0 y1 y2 y3 y4 y5 y6, LeO (lambrequinlaw22_InterpLives.l0 k y0 y1 y2 y3 y4 y5 y6) (lambrequinlaw22_InterpLives.l0 (k + 1) y0 y1 y2 y3 y4 y5 y6)) ∧ (∀ y0 y1 y2 y3 y4 y5 y6 y7 y8, LeO (lambrequinlaw22_InterpLives.l1 k y0 y1 y2 y3 y4 y5 y6 y7 y8) (lambrequinlaw22_InterpLives.l1 (k + 1) y0 y1 y2 y3 y4 y5 y6 y7 y8)) ∧ (∀ y0 y1 y2 y3 y4 y5 y6 y7 y8 y9, LeO (lambrequinlaw22_InterpLives.j2 k y0 y1 y2 y3 y4 y5 y6 y7 y8 y9) (lambrequinlaw22_InterpLives.j2 (k + 1) y0 y1 y2 y3 y4 y5 y6 y7 y8 y9)) ∧ (∀ y0 y1 y2 y3 y4 y5 y6 y7 y8 y9 y10 y11 y12 y13 y14 y15 y16 y17 y18, LeO (lambrequinlaw22_InterpLives.l2 k y0 y1 y2 y3 y4 y5 y6 y7 y8 y9 y10 y11 y12 y13 y14 y15 y16 y17 y18) (lambrequinlaw22_InterpLives.l2 (k + 1) y0 y1 y2 y3 y4 y5 y6 y7 y8 y9 y10 y11 y12 y13 y14 y15 y16 y17 y18))
 | 0 => ⟨fun _ _ _ _ _ _ _ r h => by simp [lambrequinlaw22_InterpLives.l0] at h, fun _ _ _ _ _ _ _ _ _ r h => by simp [lambrequinlaw22_InterpLives.l1] at h, fun _ _ _ _ _ _ _ _ _ _ r h => by simp [lambrequinlaw22_InterpLives.j2] at h, fun _ _ _ _ _ _ _ _ _ _ _ _ _ _ _ _ _ _ _ r h => by simp [lambrequinlaw22_InterpLives.l2] at h⟩
 | k + 1 => by
  obtain ⟨ih0, ih1, ih2, ih3⟩ := lambrequinlaw22_InterpLives.mono_l k
  refine ⟨?_, ?_, ?_, ?_⟩
  ·intro y0 y1 y2 y3 y4 y5 y6
   unfold lambrequinlaw22_InterpLives.l0
   repeat' first
   | (with_reducible exact ih0 _ _ _ _ _ _ _)
   | (with_reducible exact ih1 _ _ _ _ _ _ _ _ _)
   | (with_reducible exact ih2 _ _ _ _ _ _ _ _ _ _)
   | (with_reducible exact ih3 _ _ _ _ _ _ _ _ _ _ _ _ _ _ _ _ _ _ _)
   | (with_reducible exact cfg_Lives.mono _ _ _ _)
   | (with_reducible exact lambrequinref09_In.mono _ _ _)
   | (with_reducible exact LeO.refl _)
   | (with_reducible exact LeO.none _)
   | (with_reducible refine LeO.ite ?_ ?_)
   | (with_reducible refine LeO.bind ?_ (fun _ => ?_))
   | exact ih0 _ _ _ _ _ _ _
   | exact ih1 _ _ _ _ _ _ _ _ _
   | exact ih2 _ _ _ _ _ _ _ _ _ _
   | exact ih3 _ _ _ _ _ _ _ _ _ _ _ _ _ _ _ _ _ _ _
   | exact cfg_Lives.mono _ _ _ _
   | exact lambrequinref09_In.mono _ _ _
   | exact LeO.none _
   | refine LeO.ite ?_ ?_
   | refine LeO.bind ?_ (fun _ => ?_)
  ·intro y0 y1 y2 y3 y4 y5 y6 y7 y8
   unfold lambrequinlaw22_InterpLives.l1
   repeat' first
   | (with_reducible exact ih0 _ _ _ _ _ _ _)
   | (with_reducible exact ih1 _ _ _ _ _ _ _ _ _)
   | (with_reducible exact ih2 _ _ _ _ _ _ _ _ _ _)
   | (with_reducible exact ih3 _ _ _ _ _ _ _ _ _ _ _ _ _ _ _ _ _ _ _)
   | (with_reducible exact cfg_Lives.mono _ _ _ _)
   | (with_reducible exact lambrequinref09_In.mono _ _ _)
   | (with_reducible exact LeO.refl _)
   | (with_reducible exact LeO.none _)
   | (with_reducible refine LeO.ite ?_ ?_)
   | (with_reducible refine LeO.bind ?_ (fun _ => ?_))
   | exact ih0 _ _ _ _ _ _ _
   | exact ih1 _ _ _ _ _ _ _ _ _
   | exact ih2 _ _ _ _ _ _ _ _ _ _
   | exact ih3 _ _ _ _ _ _ _ _ _ _ _ _ _ _ _ _ _ _ _
   | exact cfg_Lives.mono _ _ _ _
   | exact lambrequinref09_In.mono _ _ _
   | exact LeO.none _
   | refine LeO.ite ?_ ?_
   | refine LeO.bind ?_ (fun _ => ?_)
  ·intro y0 y1 y2 y3 y4 y5 y6 y7 y8 y9
   unfold lambrequinlaw22_InterpLives.j2
   repeat' first
   | (with_reducible exact ih0 _ _ _ _ _ _ _)
   | (with_reducible exact ih1 _ _ _ _ _ _ _ _ _)
   | (with_reducible exact ih2 _ _ _ _ _ _ _ _ _ _)
   | (with_reducible exact ih3 _ _ _ _ _ _ _ _ _ _ _ _ _ _ _ _ _ _ _)
   | (with_reducible exact cfg_Lives.mono _ _ _ _)
   | (with_reducible exact lambrequinref09_In.mono _ _ _)
   | (with_reducible exact LeO.refl _)
   | (with_reducible exact LeO.none _)
   | (with_reducible refine LeO.ite ?_ ?_)
   | (with_reducible refine LeO.bind ?_ (fun _ => ?_))
   | exact ih0 _ _ _ _ _ _ _
   | exact ih1 _ _ _ _ _ _ _ _ _
   | exact ih2 _ _ _ _ _ _ _ _ _ _
   | exact ih3 _ _ _ _ _ _ _ _ _ _ _ _ _ _ _ _ _ _ _
   | exact cfg_Lives.mono _ _ _ _
   | exact lambrequinref09_In.mono _ _ _
   | exact LeO.none _
   | refine LeO.ite ?_ ?_
   | refine LeO.bind ?_ (fun _ => ?_)
  ·intro y0 y1 y2 y3 y4 y5 y6 y7 y8 y9 y10 y11 y12 y13 y14 y15 y16 y17 y18
   unfold lambrequinlaw22_InterpLives.l2
   repeat' first
   | (with_reducible exact ih0 _ _ _ _ _ _ _)
   | (with_reducible exact ih1 _ _ _ _ _ _ _ _ _)
   | (with_reducible exact ih2 _ _ _ _ _ _ _ _ _ _)
   | (with_reducible exact ih3 _ _ _ _ _ _ _ _ _ _ _ _ _ _ _ _ _ _ _)
   | (with_reducible exact cfg_Lives.mono _ _ _ _)
   | (with_reducible exact lambrequinref09_In.mono _ _ _)
   | (with_reducible exact LeO.refl _)
   | (with_reducible exact LeO.none _)
   | (with_reducible refine LeO.ite ?_ ?_)
   | (with_reducible refine LeO.bind ?_ (fun _ => ?_))
   | exact ih0 _ _ _ _ _ _ _
   | exact ih1 _ _ _ _ _ _ _ _ _
   | exact ih2 _ _ _ _ _ _ _ _ _ _
   | exact ih3 _ _ _ _ _ _ _ _ _ _ _ _ _ _ _ _ _ _ _
   | exact cfg_Lives.mono _ _ _ _
   | exact lambrequinref09_In.mono _ _ _
   | exact LeO.none _
   | refine LeO.ite ?_ ?_
   | refine LeO.bind ?_ (fun _ => ?_)
theorem lambrequinlaw22_InterpLives.mono : ∀ a0 a1 a2 a3 k, LeO (lambrequinlaw22_InterpLives.f k a0 a1 a2 a3) (lambrequinlaw22_InterpLives.f (k + 1) a0 a1 a2 a3) := by
 intro a0 a1 a2 a3 k
 obtain ⟨ih0, ih1, ih2, ih3⟩ := lambrequinlaw22_InterpLives.mono_l k
 unfold lambrequinlaw22_InterpLives.f
 repeat' first
   | (with_reducible exact ih0 _ _ _ _ _ _ _)
   | (with_reducible exact ih1 _ _ _ _ _ _ _ _ _)
   | (with_reducible exact ih2 _ _ _ _ _ _ _ _ _ _)
   | (with_reducible exact ih3 _ _ _ _ _ _ _ _ _ _ _ _ _ _ _ _ _ _ _)
   | (with_reducible exact cfg_Lives.mono _ _ _ _)
   | (with_reducible exact lambrequinref09_In.mono _ _ _)
   | (with_reducible exact LeO.refl _)
   | (with_reducible exact LeO.none _)
   | (with_reducible refine LeO.ite ?_ ?_)
   | (with_reducible refine LeO.bind ?_ (fun _ => ?_))
   | exact ih0 _ _ _ _ _ _ _
   | exact ih1 _ _ _ _ _ _ _ _ _
   | exact ih2 _ _ _ _ _ _ _ _ _ _
   | exact ih3 _ _ _ _ _ _ _ _ _ _ _ _ _ _ _ _ _ _ _
   | exact cfg_Lives.mono _ _ _ _
   | exact lambrequinref09_In.mono _ _ _
   | exact LeO.none _
   | refine LeO.ite ?_ ?_
   | refine LeO.bind ?_ (fun _ => ?_)
def lambrequinlaw22_InterpLives.T12 : Bool × List (List Nat × List Nat) := (true, [([], []), ([], []), ([0, 1], [0, 1]), ([2], [2]), ([3], [3]), ([4], [4]), ([5], [5]), ([6], [6]), ([6], [6]), ([7, 8, 6], [6, 7, 8]), ([9, 6], [6, 9]), ([10, 6], [6, 10]), ([6], [6]), ([12, 6], [6, 12]), ([13, 6], [6, 13]), ([11, 14, 6], [6, 11, 14]), ([6, 15], [6, 15])])
def lambrequinlaw22_InterpLives.B12 : List Nat := [0, 0, 3, 7, 15, 31, 63, 127, 127, 511, 1023, 2047, 127, 4223, 12415, 32767, 65535]
theorem lambrequinlaw22_InterpLives.tab12 : rtab .any (opsOf Try.f15 12) = lambrequinlaw22_InterpLives.T12 := by kernel_rfl
theorem lambrequinlaw22_InterpLives.bits12 : waitsOk lambrequinlaw22_InterpLives.T12.2 lambrequinlaw22_InterpLives.B12 = true := by kernel_rfl
def lambrequinlaw22_InterpLives.T14 : Bool × List (List Nat × List Nat) := (true, [([], []), ([0], [0]), ([], []), ([], []), ([2, 3], [2, 3]), ([4], [4]), ([5], [5]), ([1, 6], [1, 6]), ([7], [7]), ([], []), ([9, 8, 0, 1, 2, 3, 4, 5, 6, 7, 8, 9], [8, 9])])
def lambrequinlaw22_InterpLives.B14 : List Nat := [0, 1, 0, 0, 12, 28, 60, 127, 255, 0, 1023]
theorem lambrequinlaw22_InterpLives.tab14 : rtab .any (opsOf Try.f15 14) = lambrequinlaw22_InterpLives.T14 := by kernel_rfl
theorem lambrequinlaw22_InterpLives.bits14 : waitsOk lambrequinlaw22_InterpLives.T14.2 lambrequinlaw22_InterpLives.B14 = true := by kernel_rfl
def lambrequinlaw22_InterpLives.T19 : Bool × List (List Nat × List Nat) := (true, [([], []), ([], []), ([], []), ([1, 2], [1, 2]), ([3], [3]), ([0, 4], [0, 4]), ([5], [5]), ([6, 5], [6]), ([7], [7]), ([8, 7], [7, 8]), ([7], [7]), ([7], [7]), ([10, 11, 7], [7, 10, 11]), ([12, 7], [7, 12]), ([13, 7], [7, 13]), ([7], [7]), ([7], [7]), ([15, 16, 7], [7, 15, 16]), ([17, 7], [7, 17]), ([9, 14, 18, 7, 7], [7, 9, 14, 18]), ([19, 7], [7, 19]), ([7, 20], [7, 20])])
def lambrequinlaw22_InterpLives.B19 : List Nat := [0, 0, 0, 6, 14, 31, 63, 127, 255, 511, 255, 255, 3327, 7423, 15615, 255, 255, 98559, 229631, 524287, 1048575, 2097151]
theorem lambrequinlaw22_InterpLives.tab19 : rtab .any (opsOf Try.f15 19) = lambrequinlaw22_InterpLives.T19 := by kernel_rfl
theorem lambrequinlaw22_InterpLives.bits19 : waitsOk lambrequinlaw22_InterpLives.T19.2 lambrequinlaw22_InterpLives.B19 = true := by kernel_rfl
set_option maxHeartbeats 8000000 in
set_option maxRecDepth 100000 in
theorem lambrequinlaw22_InterpLives.calls (k : Nat) (A0_0 : Option Addr) (c0_0 : Nat) (l0_0 : List (Stmt)) (A0_1 : Option Addr) (c0_1 : Nat) (l0_1 : List Int) (A0_2 : Option Addr) (c0_2 : Nat) (l0_2 : List Bool) (a0_3 : Int) (r : Bool) (w : World) (hr0_0 : Kd.C k30 w A0_0 l0_0.length l0_0) (hc0_0 : l0_0.length ≤ c0_0) (hr0_1 : Kd.C (Kd.int .i64) w A0_1 l0_1.length l0_1) (hc0_1 : l0_1.length ≤ c0_1) (hr0_2 : Kd.C Kd.bool w A0_2 l0_2.length l0_2) (hc0_2 : l0_2.length ≤ c0_2) (h : lambrequinlaw22_InterpLives.f k l0_0 l0_1 l0_2 a0_3 = some r) :
  Calls Try.prog 15 #[.agg #[.slice A0_0 l0_0.length c0_0, .slice A0_1 l0_1.length c0_1, .slice A0_2 l0_2.length c0_2, .int .i64 a0_3]] w fun e w' => e = .returned (.bool r) ∧ Below w.heap.size w w' := by
 have hu43 := Try.underlying43
 have hu30 := Try.underlying30
 have HR0_0 := am hr0_0
 have HC0_0 := am hc0_0
 clear hr0_0 hc0_0
 have HR0_1 := am hr0_1
 have HC0_1 := am hc0_1
 clear hr0_1 hc0_1
 have HR0_2 := am hr0_2
 have HC0_2 := am hc0_2
 clear hr0_2 hc0_2
 have HB := am (Below.refl w.heap.size w)
 have H : ((lambrequinlaw22_shown.f).bind fun t102 => ((lambrequinlaw22_few.f l0_0 l0_1 l0_2 a0_3).bind fun t103 => (if t103 = true then ((interp_Run.f l0_0 l0_1 l0_2 a0_3).bind fun t104 => (lambrequinlaw22_InterpLives.l0 k t102 t104 0 l0_0 l0_1 l0_2 a0_3)) else (some t102)))) = some r := h
 clear h
 replace H := Option.bind_eq_some_iff.mp H
 obtain ⟨t102, A20, H⟩ := H
 replace H : ((lambrequinlaw22_few.f l0_0 l0_1 l0_2 a0_3).bind fun t103 => (if t103 = true then ((interp_Run.f l0_0 l0_1 l0_2 a0_3).bind fun t104 => (lambrequinlaw22_InterpLives.l0 k t102 t104 0 l0_0 l0_1 l0_2 a0_3)) else (some t102))) = some r := H
 have A2 := am A20
 clear A20
 replace H := Option.bind_eq_some_iff.mp H
 obtain ⟨t103, A30, H⟩ := H
 replace H : (if t103 = true then ((interp_Run.f l0_0 l0_1 l0_2 a0_3).bind fun t104 => (lambrequinlaw22_InterpLives.l0 k t102 t104 0 l0_0 l0_1 l0_2 a0_3)) else (some t102)) = some r := H
 have A3 := am A30
 clear A30
 by_cases c4 : t103 = true
 ·subst c4
  have H1 : ((interp_Run.f l0_0 l0_1 l0_2 a0_3).bind fun t104 => (lambrequinlaw22_InterpLives.l0 k t102 t104 0 l0_0 l0_1 l0_2 a0_3)) = some r := by rw [if_pos rfl] at H; exact H
  clear H
  have H := H1
  clear H1
  replace H := Option.bind_eq_some_iff.mp H
  obtain ⟨t104, A50, H⟩ := H
  replace H : (lambrequinlaw22_InterpLives.l0 k t102 t104 0 l0_0 l0_1 l0_2 a0_3) = some r := H
  have A5 := am A50
  clear A50
  have H' := am H
  clear H
  go_enter Try.func15, Try.ntmps15
  go_wp2_with (first | ((with_reducible refine gate_dst (N := 1) rfl ?_); (try (refine gate_guard (by rfl) ?_; dsimp only)); refine box_event ?hg (N := 1) ?hd (cs := #[.slice A0_0 l0_0.length c0_0, .slice A0_1 l0_1.length c0_1, .slice A0_2 l0_2.length c0_2, .int .i64 a0_3]) (t := 43) ?hr ?_; (case hd => rfl); (case hg => rfl); (case hr => first | (go_simp; done) | (go_simp; rfl)); intro gb101 hg w6 hbox hb; have BK101 := am (hbox); have GW101 := am ((by rw [hg]; exact (below_size (by repeat (first | (with_reducible first | exact HB.out | apply lA | apply lN | apply lD) | exact HB.out))) : w.heap.size ≤ gb101)); have GE101 := am ((by rw [hg]; exact (below_size (by repeat (first | (with_reducible first | exact HB.out | apply lA | apply lN | apply lD) | exact HB.out))) : w.heap.size ≤ gb101)); replace HB := am (below_step (by repeat (first | (with_reducible first | exact HB.out | apply lA | apply lN | apply lD) | exact HB.out)) hb); clear hb hbox hg) | ((with_reducible refine gate_callee (f := 33) rfl ?_); refine goesL_ (some 13) rfl rfl Try.func33 (by kernel_rfl) rfl #[] rfl (by (try simp only [List.map_toArray, List.map_cons, List.map_nil]); first | done | rfl | (simp only [List.length_drop, List.length_take]; rfl)) ?_; (with_reducible refine (lambrequinlaw22_shown.calls  t102 _ A2.out).mono ?_); rintro e w7 ⟨rfl, hb⟩; refine ⟨_, rfl, ?_⟩; replace BK101 := am (blk_below (g := gb101) (o := .cells #[.slice A0_0 l0_0.length c0_0, .slice A0_1 l0_1.length c0_1, .slice A0_2 l0_2.length c0_2, .int .i64 a0_3] 43 (0, 0)) (by (with_reducible repeat (first | refine bN ?_ _ | refine bD ?_ | refine bA ?_ _)); exact BK101.out) hb); replace HB := am (below_step (by repeat (first | (with_reducible first | exact HB.out | apply lA | apply lN | apply lD | refine lS ?_ GE101.out) | exact HB.out)) hb); (try clear hb); (try clear hb2); (try clear hk); (try clear hi); have hcz8_0 : w7.cell? ⟨gb101, 0, none⟩ = some (.slice A0_0 l0_0.length c0_0) := (blk_cell BK101.out 0).trans rfl; have hcz8_1 : w7.cell? ⟨gb101, 1, none⟩ = some (.slice A0_1 l0_1.length c0_1) := (blk_cell BK101.out 1).trans rfl; have hcz8_2 : w7.cell? ⟨gb101, 2, none⟩ = some (.slice A0_2 l0_2.length c0_2) := (blk_cell BK101.out 2).trans rfl; have hcz8_3 : w7.cell? ⟨gb101, 3, none⟩ = some (.int .i64 a0_3) := (blk_cell BK101.out 3).trans rfl; have hfz8_0 := blk_frozen BK101.out 0; have hfz8_1 := blk_frozen BK101.out 1; have hfz8_2 := blk_frozen BK101.out 2; have hfz8_3 := blk_frozen BK101.out 3) | ((with_reducible refine gate_callee (f := 34) rfl ?_); refine goesL_ (some 15) rfl rfl Try.func34 (by kernel_rfl) rfl #[.agg #[.slice A0_0 l0_0.length c0_0, .slice A0_1 l0_1.length c0_1, .slice A0_2 l0_2.length c0_2, .int .i64 a0_3]] rfl (by (try simp only [List.map_toArray, List.map_cons, List.map_nil]); first | done | rfl | (simp only [List.length_drop, List.length_take]; rfl)) ?_; (with_reducible refine (lambrequinlaw22_few.calls _ _ l0_0 _ _ l0_1 _ _ l0_2 a0_3 true _ ?side1 ?side2 ?side3 ?side4 ?side5 ?side6 A3.out).mono ?_); (case side1 => repeat (first | exact (Kd.C_below HR0_0.out HB.out) | (with_reducible refine Kd.C_alloc ?_ _) | (with_reducible refine Kd.C_drewN ?_ _) | (with_reducible refine Kd.C_drew ?_))); (case side2 => exact HC0_0.out); (case side3 => repeat (first | exact (Kd.C_below HR0_1.out HB.out) | (with_reducible refine Kd.C_alloc ?_ _) | (with_reducible refine Kd.C_drewN ?_ _) | (with_reducible refine Kd.C_drew ?_))); (case side4 => exact HC0_1.out); (case side5 => repeat (first | exact (Kd.C_below HR0_2.out HB.out) | (with_reducible refine Kd.C_alloc ?_ _) | (with_reducible refine Kd.C_drewN ?_ _) | (with_reducible refine Kd.C_drew ?_))); (case side6 => exact HC0_2.out); rintro e w9 ⟨rfl, hb⟩; refine ⟨_, rfl, ?_⟩; replace BK101 := am (blk_below (g := gb101) (o := .cells #[.slice A0_0 l0_0.length c0_0, .slice A0_1 l0_1.length c0_1, .slice A0_2 l0_2.length c0_2, .int .i64 a0_3] 43 (0, 0)) (by (with_reducible repeat (first | refine bN ?_ _ | refine bD ?_ | refine bA ?_ _)); exact BK101.out) hb); replace HB := am (below_step (by repeat (first | (with_reducible first | exact HB.out | apply lA | apply lN | apply lD | refine lS ?_ GE101.out) | exact HB.out)) hb); (try clear hb); (try clear hb2); (try clear hk); (try clear hi); have hcz10_0 : w9.cell? ⟨gb101, 0, none⟩ = some (.slice A0_0 l0_0.length c0_0) := (blk_cell BK101.out 0).trans rfl; have hcz10_1 : w9.cell? ⟨gb101, 1, none⟩ = some (.slice A0_1 l0_1.length c0_1) := (blk_cell BK101.out 1).trans rfl; have hcz10_2 : w9.cell? ⟨gb101, 2, none⟩ = some (.slice A0_2 l0_2.length c0_2) := (blk_cell BK101.out 2).trans rfl; have hcz10_3 : w9.cell? ⟨gb101, 3, none⟩ = some (.int .i64 a0_3) := (blk_cell BK101.out 3).trans rfl; have hfz10_0 := blk_frozen BK101.out 0; have hfz10_1 := blk_frozen BK101.out 1; have hfz10_2 := blk_frozen BK101.out 2; have hfz10_3 := blk_frozen BK101.out 3) | ((with_reducible refine gate_callee (f := 36) rfl ?_); refine goesL_ (some 26) rfl rfl Try.func36 (by kernel_rfl) rfl #[.slice A0_0 l0_0.length c0_0, .slice A0_1 l0_1.length c0_1, .slice A0_2 l0_2.length c0_2, .int .i64 a0_3] rfl (by (try simp only [List.map_toArray, List.map_cons, List.map_nil]); first | done | rfl | (simp only [List.length_drop, List.length_take]; rfl)) ?_; (with_reducible refine (interp_Run.calls _ _ l0_0 _ _ l0_1 _ _ l0_2 a0_3 t104 _ ?side1 ?side2 ?side3 ?side4 ?side5 ?side6 A5.out).mono ?_); (case side1 => repeat (first | exact (Kd.C_below HR0_0.out HB.out) | (with_reducible refine Kd.C_alloc ?_ _) | (with_reducible refine Kd.C_drewN ?_ _) | (with_reducible refine Kd.C_drew ?_))); (case side2 => exact HC0_0.out); (case side3 => repeat (first | exact (Kd.C_below HR0_1.out HB.out) | (with_reducible refine Kd.C_alloc ?_ _) | (with_reducible refine Kd.C_drewN ?_ _) | (with_reducible refine Kd.C_drew ?_))); (case side4 => exact HC0_1.out); (case side5 => repeat (first | exact (Kd.C_below HR0_2.out HB.out) | (with_reducible refine Kd.C_alloc ?_ _) | (with_reducible refine Kd.C_drewN ?_ _) | (with_reducible refine Kd.C_drew ?_))); (case side6 => exact HC0_2.out); rintro e w11 ⟨v105, rfl, ho0, hb⟩; refine ⟨_, rfl, ?_⟩; have HO106 := am (Kd.S_lower ho0 (below_size (by repeat (first | (with_reducible first | exact HB.out | apply lA | apply lN | apply lD | refine lS ?_ GE101.out) | exact HB.out)))); replace BK101 := am (blk_below (g := gb101) (o := .cells #[.slice A0_0 l0_0.length c0_0, .slice A0_1 l0_1.length c0_1, .slice A0_2 l0_2.length c0_2, .int .i64 a0_3] 43 (0, 0)) (by (with_reducible repeat (first | refine bN ?_ _ | refine bD ?_ | refine bA ?_ _)); exact BK101.out) hb); replace HB := am (below_step (by repeat (first | (with_reducible first | exact HB.out | apply lA | apply lN | apply lD | refine lS ?_ GE101.out) | exact HB.out)) hb); (try clear hb); (try clear hb2); (try clear hk); (try clear hi); (try clear ho0)))
  go_loopg [5] k (fun kq v5 w' => ∃ (x5_1 : Int), v5 = .int .i64 x5_1 ∧ Aside0 (lambrequinlaw22_InterpLives.l0 kq t102 t104 x5_1 l0_0 l0_1 l0_2 a0_3 = some r) ∧ Aside0 (kq ≤ k) ∧ Aside0 (Kd.S k52 52 w' w.heap.size (fun _ => True) v105 t104) ∧ Aside0 (w'.heap[gb101]? = some (.cells #[(.slice A0_0 l0_0.length c0_0), (.slice A0_1 l0_1.length c0_1), (.slice A0_2 l0_2.length c0_2), .int .i64 a0_3] 43 (0, 0))) ∧ Aside0 (Below w.heap.size w w'))
  case atStart => exact ⟨(0), (by first | rfl | (simp; done) | (simp [*]; done)), H', ⟨Nat.le_refl _⟩, ⟨by (with_reducible repeat (first | apply Kd.S_alloc | apply Kd.S_drewN | apply Kd.S_drew)); exact HO106.out⟩, ⟨by (with_reducible repeat (first | refine bN ?_ _ | refine bD ?_ | refine bA ?_ _)); exact BK101.out⟩, ⟨by repeat (first | (with_reducible first | exact HB.out | apply lA | apply lN | apply lD | refine lS ?_ GE101.out) | exact HB.out)⟩⟩
  case round =>
   clear H'
   try clear c1
   try clear p2
   try clear c3
   try clear c4
   try clear hcz10_0
   try clear hcz10_1
   try clear hcz10_2
   try clear hcz10_3
   try clear hcz8_0
   try clear hcz8_1
   try clear hcz8_2
   try clear hcz8_3
   try clear hfz10_0
   try clear hfz10_1
   try clear hfz10_2
   try clear hfz10_3
   try clear hfz8_0
   try clear hfz8_1
   try clear hfz8_2
   try clear hfz8_3
   obtain ⟨x5_1, rfl, HA, HK1, HO_4, BK101, HB⟩ := hrel
   cases gk with
   | zero => exact absurd HA.out (by simp [lambrequinlaw22_InterpLives.l0])
   | succ k1 =>
    have H := HA.out
    clear HA
    simp only [lambrequinlaw22_InterpLives.l0] at H
    by_cases c12 : x5_1 < (t104.length : Int)
    ·rw [if_pos c12] at H
     have c12b0 : decide (x5_1 < (t104.length : Int)) = true := decide_eq_true c12
     clear c12
     have H' := am H
     clear H
     obtain ⟨Ao13, co13, eo13⟩ := Kd.S_slice HO_4.out
     subst eo13
     go_wp2
     go_loopg [6, 7] k1 (fun kq v6 v7 w' => ∃ (x6_2 : List ByteArray) (x7_2 : Int), v7 = .int .i64 x7_2 ∧ Aside0 (lambrequinlaw22_InterpLives.l1 kq t102 t104 x5_1 x6_2 x7_2 l0_0 l0_1 l0_2 a0_3 = some r) ∧ Aside0 (kq ≤ k1) ∧ Aside0 (Kd.S k52 52 w' w.heap.size (fun _ => True) (.slice Ao13 t104.length co13) t104) ∧ Aside0 (Kd.R Kd.string 9 w' w.heap.size (fun _ => True) v6 x6_2) ∧ Aside0 (w'.heap[gb101]? = some (.cells #[(.slice A0_0 l0_0.length c0_0), (.slice A0_1 l0_1.length c0_1), (.slice A0_2 l0_2.length c0_2), .int .i64 a0_3] 43 (0, 0))) ∧ Aside0 (Below w.heap.size w w'))
     case atStart => exact ⟨(([] : List ByteArray)), (x5_1), (by first | rfl | (simp; done) | (simp [*]; done)), H', ⟨Nat.le_refl _⟩, ⟨by (with_reducible repeat (first | apply Kd.S_alloc | apply Kd.S_drewN | apply Kd.S_drew)); exact HO_4.out⟩, ⟨by first | exact Kd.R_nil _ _ _ _ _ | exact Kd.N_nil _ _ _ _ _ | exact Kd.V_nil _ _ _ _ _ | exact Kd.Q_nil _ _ _ _ _ | exact Kd.S_nil _ _ _ _ _⟩, ⟨by (with_reducible repeat (first | refine bN ?_ _ | refine bD ?_ | refine bA ?_ _)); exact BK101.out⟩, ⟨by repeat (first | (with_reducible first | exact HB.out | apply lA | apply lN | apply lD | refine lS ?_ GE101.out) | exact HB.out)⟩⟩
     case round =>
      clear H'
      try clear c1
      try clear p2
      try clear c3
      try clear c4
      try clear c12
      try clear c12b0
      try clear hcz10_0
      try clear hcz10_1
      try clear hcz10_2
      try clear hcz10_3
      try clear hcz8_0
      try clear hcz8_1
      try clear hcz8_2
      try clear hcz8_3
      try clear hfz10_0
      try clear hfz10_1
      try clear hfz10_2
      try clear hfz10_3
      try clear hfz8_0
      try clear hfz8_1
      try clear hfz8_2
      try clear hfz8_3
      try clear p2
      obtain ⟨x6_2, x7_2, rfl, HA, HK2, HO_4, HO_6, BK101, HB⟩ := hrel
      cases gk with
      | zero => exact absurd HA.out (by simp [lambrequinlaw22_InterpLives.l1])
      | succ k2 =>
       have H := HA.out
       clear HA
       simp only [lambrequinlaw22_InterpLives.l1] at H
       by_cases c14 : x7_2 < (t104.length : Int)
       ·rw [if_pos c14] at H
        have c14b0 : decide (x7_2 < (t104.length : Int)) = true := decide_eq_true c14
        clear c14
        have HC15 := am H
        clear H
        go_upto_region 12 with (fail)
        go_cut [56] (fun v56 wc => ∃ (kq : Nat) (x56_14 : Bool), v56 = .bool x56_14 ∧ Aside0 (lambrequinlaw22_InterpLives.j2 kq t102 t104 x5_1 x6_2 x7_2 x56_14 l0_0 l0_1 l0_2 a0_3 = some r) ∧ Aside0 (kq ≤ k2) ∧ Aside0 (Kd.S k52 52 wc w.heap.size (fun _ => True) (.slice Ao13 t104.length co13) t104) ∧ Aside0 (Kd.R Kd.string 9 wc w.heap.size (fun _ => True) u6 x6_2) ∧ Aside0 (wc.heap[gb101]? = some (.cells #[(.slice A0_0 l0_0.length c0_0), (.slice A0_1 l0_1.length c0_1), (.slice A0_2 l0_2.length c0_2), .int .i64 a0_3] 43 (0, 0))) ∧ Aside0 (Below w.heap.size w wc))
        case first =>
         have H := HC15.out
         clear HC15
         by_cases c16 : 0 ≤ x7_2
         ·rw [if_pos c16] at H
          have c16b0 : decide (0 ≤ x7_2) = true := decide_eq_true c16
          clear c16
          (first | rw [c16b0] | (simp only [i64_w, i32_w]; rw [c16b0]) | skip)
          by_cases c17 : ((rd_T52 t104 x7_2).place) < 0
          ·rw [if_pos c17] at H
           have c17b0 : decide (((rd_T52 t104 x7_2).place) < 0) = true := decide_eq_true c17
           clear c17
           have H' := am H
           clear H
           try go_wp2
           replace HO_4 := am (Kd.S_drew HO_4.out)
           replace HO_6 := am (Kd.R_drew HO_6.out)
           replace BK101 := am (blk_drew BK101.out)
           replace HB := am (below_drew1 HB.out)
           have p107 : 0 ≤ (x7_2 : Int) := of_decide_eq_true (by first | (with_reducible assumption) | assumption)
           have q107 : x7_2 < (t104.length : Int) := of_decide_eq_true (by first | (with_reducible assumption) | assumption)
           obtain ⟨ad107, A107_1, c107_1, e107, hx107_0, hx107_1, hl107_1, hi107_1⟩ := at_T52 (Kd.S_reads' HO_4.out).2.2 x7_2 p107 q107
           cases e107
           obtain ⟨ce107, hce107, hMe107, hcc107⟩ := Kd.S_get HO_4.out z52 x7_2 p107 (by first | exact q107 | exact of_decide_eq_true (by first | (with_reducible assumption) | assumption) | (have e_ := (Kd.S_reads' HO_4.out).1; omega))
           obtain ⟨ve107_1, rfl, ge107_1⟩ := k52_openM hMe107
           have hv107_1 := hcc107 1 _ rfl
           rw [add_field _ _ 1 (by omega)] at hv107_1
           replace hv107_1 := Option.some.inj (hv107_1.symm.trans hx107_1)
           rw [hv107_1] at ge107_1
           have HL107_1 := am (show Kd.R k54 54 _ _ _ _ ((rd_T52 t104 x7_2).vars) from ge107_1)
           clear hv107_1 ge107_1
           clear hcc107 hce107
           have HR107_1 := am hi107_1
           have HC107_1 := am hl107_1
           clear hi107_1 hl107_1
           replace p107 := eq_true p107
           replace q107 := eq_true q107
           refine start_ (n := 17) (S := fun w' => w'.cell? (ad107.add ((x7_2).toNat * 2)) = some (.int .i64 ((rd_T52 t104 x7_2).place)) ∧ w'.cell? ⟨(ad107.add ((x7_2).toNat * 2)).block, (ad107.add ((x7_2).toNat * 2)).off + 1, none⟩ = some (.slice A107_1 ((rd_T52 t104 x7_2).vars).length c107_1)) (ds := []) (bl 17 0) (by kernel_rfl) rfl rfl ⟨hx107_0, hx107_1⟩ (fun hHeld => ?_); refine with_tabW lambrequinlaw22_InterpLives.tab12 lambrequinlaw22_InterpLives.bits12 (fun HT_ HW_ => ?_)
           generalize wr.drew = w18 at HO_4 HO_6 BK101 HB HL107_1 HR107_1 hx107_0 hx107_1 hHeld ⊢
           refine pure_ (i := 0) (N := some 40) (v := ?_) (a' := ?_) (bl 17 1) rfl rfl (any_of HT_.out (by kernel_rfl)) (fun _ _ _ h => h) (Or.inl ⟨by rfl, ?_⟩) ?_ ?_
           rotate_left
           ·intro w'
            go_simp
            with_reducible rfl
           rotate_left
           ·simp only [Act.put, sA, sZ, sS, i64_w, i32_w]
            rfl
           refine pure_ (i := 1) (N := some 41) (v := ?_) (a' := ?_) (bl 17 3) rfl rfl (any_of HT_.out (by kernel_rfl)) (fun _ _ _ h => h) (Or.inl ⟨by rfl, ?_⟩) ?_ ?_
           rotate_left
           ·intro w'
            go_simp
            with_reducible rfl
           rotate_left
           ·simp only [Act.put, sA, sZ, sS, i64_w, i32_w]
            rfl
           refine pure_ (i := 2) (N := some 42) (v := ?_) (a' := ?_) (bl 17 7) rfl rfl (any_of HT_.out (by kernel_rfl)) (fun _ _ _ h => h) (Or.inl ⟨by rfl, ?_⟩) ?_ ?_
           rotate_left
           ·intro w'
            go_simp
            with_reducible rfl
           rotate_left
           ·simp only [Act.put, sA, sZ, sS, i64_w, i32_w]
            rfl
           refine pure_ (i := 3) (N := some 43) (v := ?_) (a' := ?_) (bl 17 15) rfl rfl (any_of HT_.out (by kernel_rfl)) (fun _ _ _ h => h) (Or.inl ⟨by rfl, ?_⟩) ?_ ?_
           rotate_left
           ·intro w'
            go_simp
            with_reducible rfl
           rotate_left
           ·simp only [Act.put, sA, sZ, sS, i64_w, i32_w]
            rfl
           refine take_ (i := 4) (N := some 44) (v := ?_) (a' := ?_) (bl 17 31) rfl rfl (take_ofW HT_.out HW_.out (by kernel_rfl)) (fun _ _ _ h => h) (Or.inl ⟨by rfl, ?_⟩) hHeld ?_ ?_
           rotate_left
           ·rintro w' ⟨s0, s1⟩
            go_simp
            with_reducible rfl
           rotate_left
           ·simp only [Act.put, sA, sZ, sS, i64_w, i32_w]
            rfl
           refine pure_ (i := 5) (N := some 45) (v := ?_) (a' := ?_) (bl 17 63) rfl rfl (any_of HT_.out (by kernel_rfl)) (fun _ _ _ h => h) (Or.inl ⟨by rfl, ?_⟩) ?_ ?_
           rotate_left
           ·intro w'
            go_simp
            with_reducible rfl
           rotate_left
           ·simp only [Act.put, sA, sZ, sS, i64_w, i32_w]
            rfl
           refine pure_ (i := 6) (N := some 46) (v := ?_) (a' := ?_) (bl 17 127) rfl rfl (any_of HT_.out (by kernel_rfl)) (fun _ _ _ h => h) (Or.inl ⟨by rfl, ?_⟩) ?_ ?_
           rotate_left
           ·intro w'
            go_simp
            with_reducible rfl
           rotate_left
           ·simp only [Act.put, sA, sZ, sS, i64_w, i32_w]
            rfl
           refine pure_ (i := 7) (N := some 47) (v := undef) (a' := ?_) (bl 17 255) rfl rfl (any_of HT_.out (by kernel_rfl)) (fun _ _ _ h => h) (Or.inr ⟨by rfl, rfl⟩) ?_ ?_
           rotate_left
           ·simp only [Act.put, sA, sZ, sS, i64_w, i32_w]
            rfl
           refine pure_ (i := 8) (N := some 48) (v := undef) (a' := ?_) (bl 17 511) rfl rfl (any_of HT_.out (by kernel_rfl)) (fun _ _ _ h => h) (Or.inr ⟨by rfl, rfl⟩) ?_ ?_
           rotate_left
           ·simp only [Act.put, sA, sZ, sS, i64_w, i32_w]
            rfl
           refine pure_ (i := 9) (N := some 49) (v := undef) (a' := ?_) (bl 17 1023) rfl rfl (any_of HT_.out (by kernel_rfl)) (fun _ _ _ h => h) (Or.inr ⟨by rfl, rfl⟩) ?_ ?_
           rotate_left
           ·simp only [Act.put, sA, sZ, sS, i64_w, i32_w]
            rfl
           refine pure_ (i := 10) (N := some 50) (v := undef) (a' := ?_) (bl 17 2047) rfl rfl (any_of HT_.out (by kernel_rfl)) (fun _ _ _ h => h) (Or.inr ⟨by rfl, rfl⟩) ?_ ?_
           rotate_left
           ·simp only [Act.put, sA, sZ, sS, i64_w, i32_w]
            rfl
           refine pure_ (i := 11) (N := some 51) (v := undef) (a' := ?_) (bl 17 4095) rfl rfl (any_of HT_.out (by kernel_rfl)) (fun _ _ _ h => h) (Or.inr ⟨by rfl, rfl⟩) ?_ ?_
           rotate_left
           ·simp only [Act.put, sA, sZ, sS, i64_w, i32_w]
            rfl
           refine pure_ (i := 12) (N := some 52) (v := undef) (a' := ?_) (bl 17 8191) rfl rfl (any_of HT_.out (by kernel_rfl)) (fun _ _ _ h => h) (Or.inr ⟨by rfl, rfl⟩) ?_ ?_
           rotate_left
           ·simp only [Act.put, sA, sZ, sS, i64_w, i32_w]
            rfl
           refine pure_ (i := 13) (N := some 53) (v := undef) (a' := ?_) (bl 17 16383) rfl rfl (any_of HT_.out (by kernel_rfl)) (fun _ _ _ h => h) (Or.inr ⟨by rfl, rfl⟩) ?_ ?_
           rotate_left
           ·simp only [Act.put, sA, sZ, sS, i64_w, i32_w]
            rfl
           refine pure_ (i := 14) (N := some 54) (v := undef) (a' := ?_) (bl 17 32767) rfl rfl (any_of HT_.out (by kernel_rfl)) (fun _ _ _ h => h) (Or.inr ⟨by rfl, rfl⟩) ?_ ?_
           rotate_left
           ·simp only [Act.put, sA, sZ, sS, i64_w, i32_w]
            rfl
           refine pure_ (i := 15) (N := some 55) (v := undef) (a' := ?_) (bl 17 65535) rfl rfl (any_of HT_.out (by kernel_rfl)) (fun _ _ _ h => h) (Or.inr ⟨by rfl, rfl⟩) ?_ ?_
           rotate_left
           ·simp only [Act.put, sA, sZ, sS, i64_w, i32_w]
            rfl
           refine pure_ (i := 16) (N := some 56) (v := ?_) (a' := ?_) (bl 17 131071) rfl rfl (any_of HT_.out (by kernel_rfl)) (fun _ _ _ h => h) (Or.inl ⟨by rfl, ?_⟩) ?_ ?_
           rotate_left
           ·intro w'
            go_simp
            with_reducible rfl
           rotate_left
           ·simp only [Act.put, sA, sZ, sS, i64_w, i32_w]
            rfl
           refine done_ (done_of HT_.out (by kernel_rfl)) ?_
           try go_wp2
           go_meet
           case rel => exact ⟨_, (true), (by first | rfl | (simp; done) | (simp [*]; done)), H', ⟨by have := HK1.out; have := HK2.out; first | omega | exact Nat.le_refl _⟩, ⟨by (with_reducible repeat (first | apply Kd.S_alloc | apply Kd.S_drewN | apply Kd.S_drew)); exact HO_4.out⟩, ⟨by (with_reducible repeat (first | apply Ra | apply Rn | apply Rd)); exact HO_6.out⟩, ⟨by (with_reducible repeat (first | refine bN ?_ _ | refine bD ?_ | refine bA ?_ _)); exact BK101.out⟩, ⟨by repeat (first | (with_reducible first | exact HB.out | apply lA | apply lN | apply lD | refine lS ?_ GE101.out) | exact HB.out)⟩⟩
          ·rw [if_neg c17] at H
           have c17b0 : decide (((rd_T52 t104 x7_2).place) < 0) = false := decide_eq_false c17
           clear c17
           have H' := am H
           clear H
           try go_wp2
           replace HO_4 := am (Kd.S_drew HO_4.out)
           replace HO_6 := am (Kd.R_drew HO_6.out)
           replace BK101 := am (blk_drew BK101.out)
           replace HB := am (below_drew1 HB.out)
           have p107 : 0 ≤ (x7_2 : Int) := of_decide_eq_true (by first | (with_reducible assumption) | assumption)
           have q107 : x7_2 < (t104.length : Int) := of_decide_eq_true (by first | (with_reducible assumption) | assumption)
           obtain ⟨ad107, A107_1, c107_1, e107, hx107_0, hx107_1, hl107_1, hi107_1⟩ := at_T52 (Kd.S_reads' HO_4.out).2.2 x7_2 p107 q107
           cases e107
           obtain ⟨ce107, hce107, hMe107, hcc107⟩ := Kd.S_get HO_4.out z52 x7_2 p107 (by first | exact q107 | exact of_decide_eq_true (by first | (with_reducible assumption) | assumption) | (have e_ := (Kd.S_reads' HO_4.out).1; omega))
           obtain ⟨ve107_1, rfl, ge107_1⟩ := k52_openM hMe107
           have hv107_1 := hcc107 1 _ rfl
           rw [add_field _ _ 1 (by omega)] at hv107_1
           replace hv107_1 := Option.some.inj (hv107_1.symm.trans hx107_1)
           rw [hv107_1] at ge107_1
           have HL107_1 := am (show Kd.R k54 54 _ _ _ _ ((rd_T52 t104 x7_2).vars) from ge107_1)
           clear hv107_1 ge107_1
           clear hcc107 hce107
           have HR107_1 := am hi107_1
           have HC107_1 := am hl107_1
           clear hi107_1 hl107_1
           replace p107 := eq_true p107
           replace q107 := eq_true q107
           have p108 : 0 ≤ (x7_2 : Int) := of_decide_eq_true (by first | (with_reducible assumption) | assumption)
           have q108 : x7_2 < (t104.length : Int) := of_decide_eq_true (by first | (with_reducible assumption) | assumption)
           obtain ⟨ad108, A108_1, c108_1, e108, hx108_0, hx108_1, hl108_1, hi108_1⟩ := at_T52 (Kd.S_reads' HO_4.out).2.2 x7_2 p108 q108
           obtain rfl : ad107 = ad108 := (by injection e108)
           obtain ⟨ce108, hce108, hMe108, hcc108⟩ := Kd.S_get HO_4.out z52 x7_2 p108 (by first | exact q108 | exact of_decide_eq_true (by first | (with_reducible assumption) | assumption) | (have e_ := (Kd.S_reads' HO_4.out).1; omega))
           obtain ⟨ve108_1, rfl, ge108_1⟩ := k52_openM hMe108
           have hv108_1 := hcc108 1 _ rfl
           rw [add_field _ _ 1 (by omega)] at hv108_1
           replace hv108_1 := Option.some.inj (hv108_1.symm.trans hx108_1)
           rw [hv108_1] at ge108_1
           have HL108_1 := am (show Kd.R k54 54 _ _ _ _ ((rd_T52 t104 x7_2).vars) from ge108_1)
           clear hv108_1 ge108_1
           clear hcc108 hce108
           have HR108_1 := am hi108_1
           have HC108_1 := am hl108_1
           clear hi108_1 hl108_1
           replace p108 := eq_true p108
           replace q108 := eq_true q108
           have ea_ := Option.some.inj (hx107_1.symm.trans hx108_1)
           injection ea_ with ea_ en_ ec_
           subst ea_
           subst ec_
           clear en_
           refine start_ (n := 17) (S := fun w' => w'.cell? ⟨gb101, 0, none⟩ = some (.slice A0_0 l0_0.length c0_0) ∧ w'.cell? ⟨gb101, 1, none⟩ = some (.slice A0_1 l0_1.length c0_1) ∧ w'.cell? ⟨gb101, 2, none⟩ = some (.slice A0_2 l0_2.length c0_2) ∧ w'.cell? ⟨gb101, 3, none⟩ = some (.int .i64 a0_3) ∧ w'.cell? (ad107.add ((x7_2).toNat * 2)) = some (.int .i64 ((rd_T52 t104 x7_2).place)) ∧ w'.cell? ⟨(ad107.add ((x7_2).toNat * 2)).block, (ad107.add ((x7_2).toNat * 2)).off + 1, none⟩ = some (.slice A107_1 ((rd_T52 t104 x7_2).vars).length c107_1) ∧ w'.cell? (ad107.add ((x7_2).toNat * 2)) = some (.int .i64 ((rd_T52 t104 x7_2).place)) ∧ w'.cell? ⟨(ad107.add ((x7_2).toNat * 2)).block, (ad107.add ((x7_2).toNat * 2)).off + 1, none⟩ = some (.slice A107_1 ((rd_T52 t104 x7_2).vars).length c107_1)) (ds := []) (bl 17 0) (by kernel_rfl) rfl rfl ⟨(blk_cell BK101.out 0).trans rfl, (blk_cell BK101.out 1).trans rfl, (blk_cell BK101.out 2).trans rfl, (blk_cell BK101.out 3).trans rfl, hx107_0, hx107_1, hx108_0, hx108_1⟩ (fun hHeld => ?_); refine with_tabW lambrequinlaw22_InterpLives.tab12 lambrequinlaw22_InterpLives.bits12 (fun HT_ HW_ => ?_)
           generalize wr.drew = w19 at HO_4 HO_6 BK101 HB HL107_1 HL108_1 HR107_1 HR108_1 hx107_0 hx107_1 hx108_0 hx108_1 hHeld ⊢
           refine pure_ (i := 0) (N := some 40) (v := ?_) (a' := ?_) (bl 17 1) rfl rfl (any_of HT_.out (by kernel_rfl)) (fun _ _ _ h => h) (Or.inl ⟨by rfl, ?_⟩) ?_ ?_
           rotate_left
           ·intro w'
            go_simp
            with_reducible rfl
           rotate_left
           ·simp only [Act.put, sA, sZ, sS, i64_w, i32_w]
            rfl
           refine pure_ (i := 1) (N := some 41) (v := ?_) (a' := ?_) (bl 17 3) rfl rfl (any_of HT_.out (by kernel_rfl)) (fun _ _ _ h => h) (Or.inl ⟨by rfl, ?_⟩) ?_ ?_
           rotate_left
           ·intro w'
            go_simp
            with_reducible rfl
           rotate_left
           ·simp only [Act.put, sA, sZ, sS, i64_w, i32_w]
            rfl
           refine pure_ (i := 2) (N := some 42) (v := ?_) (a' := ?_) (bl 17 7) rfl rfl (any_of HT_.out (by kernel_rfl)) (fun _ _ _ h => h) (Or.inl ⟨by rfl, ?_⟩) ?_ ?_
           rotate_left
           ·intro w'
            go_simp
            with_reducible rfl
           rotate_left
           ·simp only [Act.put, sA, sZ, sS, i64_w, i32_w]
            rfl
           refine pure_ (i := 3) (N := some 43) (v := ?_) (a' := ?_) (bl 17 15) rfl rfl (any_of HT_.out (by kernel_rfl)) (fun _ _ _ h => h) (Or.inl ⟨by rfl, ?_⟩) ?_ ?_
           rotate_left
           ·intro w'
            go_simp
            with_reducible rfl
           rotate_left
           ·simp only [Act.put, sA, sZ, sS, i64_w, i32_w]
            rfl
           refine take_ (i := 4) (N := some 44) (v := ?_) (a' := ?_) (bl 17 31) rfl rfl (take_ofW HT_.out HW_.out (by kernel_rfl)) (fun _ _ _ h => h) (Or.inl ⟨by rfl, ?_⟩) hHeld ?_ ?_
           rotate_left
           ·rintro w' ⟨s0, s1, s2, s3, s4, s5, s6, s7⟩
            go_simp
            with_reducible rfl
           rotate_left
           ·simp only [Act.put, sA, sZ, sS, i64_w, i32_w]
            rfl
           refine pure_ (i := 5) (N := some 45) (v := ?_) (a' := ?_) (bl 17 63) rfl rfl (any_of HT_.out (by kernel_rfl)) (fun _ _ _ h => h) (Or.inl ⟨by rfl, ?_⟩) ?_ ?_
           rotate_left
           ·intro w'
            go_simp
            with_reducible rfl
           rotate_left
           ·simp only [Act.put, sA, sZ, sS, i64_w, i32_w]
            rfl
           refine pure_ (i := 6) (N := some 46) (v := ?_) (a' := ?_) (bl 17 127) rfl rfl (any_of HT_.out (by kernel_rfl)) (fun _ _ _ h => h) (Or.inl ⟨by rfl, ?_⟩) ?_ ?_
           rotate_left
           ·intro w'
            go_simp
            with_reducible rfl
           rotate_left
           ·simp only [Act.put, sA, sZ, sS, i64_w, i32_w]
            rfl
           refine pure_ (i := 7) (N := some 47) (v := ?_) (a' := ?_) (bl 17 255) rfl rfl (any_of HT_.out (by kernel_rfl)) (fun _ _ _ h => h) (Or.inl ⟨by rfl, ?_⟩) ?_ ?_
           rotate_left
           ·intro w'
            go_simp
            with_reducible rfl
           rotate_left
           ·simp only [Act.put, sA, sZ, sS, i64_w, i32_w]
            rfl
           refine pure_ (i := 8) (N := some 48) (v := ?_) (a' := ?_) (bl 17 511) rfl rfl (any_of HT_.out (by kernel_rfl)) (fun _ _ _ h => h) (Or.inl ⟨by rfl, ?_⟩) ?_ ?_
           rotate_left
           ·intro w'
            go_simp
            with_reducible rfl
           rotate_left
           ·simp only [Act.put, sA, sZ, sS, i64_w, i32_w]
            rfl
           refine pure_ (i := 9) (N := some 49) (v := ?_) (a' := ?_) (bl 17 1023) rfl rfl (any_of HT_.out (by kernel_rfl)) (fun _ _ _ h => h) (Or.inl ⟨by rfl, ?_⟩) ?_ ?_
           rotate_left
           ·intro w'
            go_simp
            with_reducible rfl
           rotate_left
           ·simp only [Act.put, sA, sZ, sS, i64_w, i32_w]
            rfl
           refine pure_ (i := 10) (N := some 50) (v := ?_) (a' := ?_) (bl 17 2047) rfl rfl (any_of HT_.out (by kernel_rfl)) (fun _ _ _ h => h) (Or.inl ⟨by rfl, ?_⟩) ?_ ?_
           rotate_left
           ·intro w'
            go_simp
            with_reducible rfl
           rotate_left
           ·simp only [Act.put, sA, sZ, sS, i64_w, i32_w]
            rfl
           refine pure_ (i := 12) (N := some 52) (v := ?_) (a' := ?_) (bl 17 6143) rfl rfl (any_of HT_.out (by kernel_rfl)) (fun _ _ _ h => h) (Or.inl ⟨by rfl, ?_⟩) ?_ ?_
           rotate_left
           ·intro w'
            go_simp
            with_reducible rfl
           rotate_left
           ·simp only [Act.put, sA, sZ, sS, i64_w, i32_w]
            rfl
           refine take_ (i := 11) (N := some 51) (v := ?_) (a' := ?_) (bl 17 8191) rfl rfl (take_ofW HT_.out HW_.out (by kernel_rfl)) (fun _ _ _ h => h) (Or.inl ⟨by rfl, ?_⟩) hHeld ?_ ?_
           rotate_left
           ·rintro w' ⟨s0, s1, s2, s3, s4, s5, s6, s7⟩
            go_simp
            with_reducible rfl
           rotate_left
           ·simp only [Act.put, sA, sZ, sS, i64_w, i32_w]
            rfl
           refine take_ (i := 13) (N := some 53) (v := ?_) (a' := ?_) (bl 17 16383) rfl rfl (take_ofW HT_.out HW_.out (by kernel_rfl)) (fun _ _ _ h => h) (Or.inl ⟨by rfl, ?_⟩) hHeld ?_ ?_
           rotate_left
           ·rintro w' ⟨s0, s1, s2, s3, s4, s5, s6, s7⟩
            go_simp
            with_reducible rfl
           rotate_left
           ·simp only [Act.put, sA, sZ, sS, i64_w, i32_w]
            rfl
           refine pure_ (i := 14) (N := some 54) (v := ?_) (a' := ?_) (bl 17 32767) rfl rfl (any_of HT_.out (by kernel_rfl)) (fun _ _ _ h => h) (Or.inl ⟨by rfl, ?_⟩) ?_ ?_
           rotate_left
           ·intro w'
            go_simp
            with_reducible rfl
           rotate_left
           ·simp only [Act.put, sA, sZ, sS, i64_w, i32_w]
            rfl
           refine pure_ (i := 15) (N := some 55) (v := ?_) (a' := ?_) (bl 17 65535) rfl rfl (any_of HT_.out (by kernel_rfl)) (fun _ _ _ h => h) (Or.inl ⟨by rfl, ?_⟩) ?_ ?_
           rotate_left
           ·intro w'
            go_simp
            with_reducible rfl
           rotate_left
           ·simp only [Act.put, sA, sZ, sS, i64_w, i32_w]
            rfl
           refine pure_ (i := 16) (N := some 56) (v := ?_) (a' := ?_) (bl 17 131071) rfl rfl (any_of HT_.out (by kernel_rfl)) (fun _ _ _ h => h) (Or.inl ⟨by rfl, ?_⟩) ?_ ?_
           rotate_left
           ·intro w'
            go_simp
            with_reducible rfl
           rotate_left
           ·simp only [Act.put, sA, sZ, sS, i64_w, i32_w]
            rfl
           refine done_ (done_of HT_.out (by kernel_rfl)) ?_
           try go_wp2
           go_meet
           case rel => exact ⟨_, (decide (((rd_T52 t104 x7_2).place) ≥ (l0_0.length : Int))), (by first | rfl | (simp; done) | (simp [*]; done)), H', ⟨by have := HK1.out; have := HK2.out; first | omega | exact Nat.le_refl _⟩, ⟨by (with_reducible repeat (first | apply Kd.S_alloc | apply Kd.S_drewN | apply Kd.S_drew)); exact HO_4.out⟩, ⟨by (with_reducible repeat (first | apply Ra | apply Rn | apply Rd)); exact HO_6.out⟩, ⟨by (with_reducible repeat (first | refine bN ?_ _ | refine bD ?_ | refine bA ?_ _)); exact BK101.out⟩, ⟨by repeat (first | (with_reducible first | exact HB.out | apply lA | apply lN | apply lD | refine lS ?_ GE101.out) | exact HB.out)⟩⟩
         ·rw [if_neg c16] at H
          exact absurd H (by simp)
        case rest =>
         clear HC15
         try clear c1
         try clear p1
         try clear q1
         try clear hx1
         try clear p2
         try clear c3
         try clear c4
         try clear c10
         try clear p10
         try clear q10
         try clear hx10
         try clear c12
         try clear c12b0
         try clear c14
         try clear c14b0
         try clear c15
         try clear c16
         try clear c16b0
         try clear c17
         try clear c17b0
         try clear hcz10_0
         try clear hcz10_1
         try clear hcz10_2
         try clear hcz10_3
         try clear hcz8_0
         try clear hcz8_1
         try clear hcz8_2
         try clear hcz8_3
         try clear hfz10_0
         try clear hfz10_1
         try clear hfz10_2
         try clear hfz10_3
         try clear hfz8_0
         try clear hfz8_1
         try clear hfz8_2
         try clear hfz8_3
         try clear hx107_0
         try clear hx107_1
         try clear hx108_0
         try clear hx108_1
         try clear p107
         try clear p108
         try clear p2
         try clear q107
         try clear q108
         obtain ⟨kq, x56_14, rfl, HA, HJ14, HO_4, HO_6, BK101, HB⟩ := hcut
         cases kq with
         | zero => exact absurd HA.out (by simp [lambrequinlaw22_InterpLives.j2])
         | succ kj14 =>
          have H := HA.out
          clear HA
          simp only [lambrequinlaw22_InterpLives.j2] at H
          by_cases c20 : x56_14 = true
          ·subst c20
           have H1 : (some false) = some r := by rw [if_pos rfl] at H; exact H
           clear H
           have H := H1
           clear H1
           obtain rfl := Option.some.inj H
           go_wp2
           go_ret
           exact ⟨by first | rfl | (simp [errW_none, errW_some] <;> rfl) | (simp [*, errW_none, errW_some] <;> rfl), by repeat (first | (with_reducible first | exact HB.out | apply lA | apply lN | apply lD | refine lS ?_ GE101.out) | exact HB.out)⟩
          ·replace c20 := Bool.eq_false_iff.mpr c20
           subst c20
           have H1 : (if 0 ≤ x7_2 then (if x7_2 < (t104.length : Int) then (if 0 ≤ ((rd_T52 t104 x7_2).place) then (if ((rd_T52 t104 x7_2).place) < (l0_0.length : Int) then ((cfg_Uses.f ((rd_T30 l0_0 ((rd_T52 t104 x7_2).place)).kind) ((rd_T30 l0_0 ((rd_T52 t104 x7_2).place)).x) ((rd_T30 l0_0 ((rd_T52 t104 x7_2).place)).y) ((rd_T30 l0_0 ((rd_T52 t104 x7_2).place)).z) ((rd_T30 l0_0 ((rd_T52 t104 x7_2).place)).op) ((rd_T30 l0_0 ((rd_T52 t104 x7_2).place)).n) ((rd_T30 l0_0 ((rd_T52 t104 x7_2).place)).a) ((rd_T30 l0_0 ((rd_T52 t104 x7_2).place)).b)).bind fun t112 => (lambrequinlaw22_InterpLives.l2 kj14 t102 t104 x5_1 x6_2 x7_2 t112 0 l0_0 l0_1 l0_2 a0_3 ((rd_T30 l0_0 ((rd_T52 t104 x7_2).place)).kind) ((rd_T30 l0_0 ((rd_T52 t104 x7_2).place)).x) ((rd_T30 l0_0 ((rd_T52 t104 x7_2).place)).y) ((rd_T30 l0_0 ((rd_T52 t104 x7_2).place)).z) ((rd_T30 l0_0 ((rd_T52 t104 x7_2).place)).op) ((rd_T30 l0_0 ((rd_T52 t104 x7_2).place)).n) ((rd_T30 l0_0 ((rd_T52 t104 x7_2).place)).a) ((rd_T30 l0_0 ((rd_T52 t104 x7_2).place)).b))) else (none)) else (none)) else (none)) else (none)) = some r := by rw [if_neg (show ¬ (false = true) by decide)] at H; exact H
           clear H
           have H := H1
           clear H1
           by_cases c21 : 0 ≤ x7_2
           ·rw [if_pos c21] at H
            have c21b0 : decide (0 ≤ x7_2) = true := decide_eq_true c21
            clear c21
            by_cases c22 : x7_2 < (t104.length : Int)
            ·rw [if_pos c22] at H
             have c22b0 : decide (x7_2 < (t104.length : Int)) = true := decide_eq_true c22
             clear c22
             by_cases c23 : 0 ≤ ((rd_T52 t104 x7_2).place)
             ·rw [if_pos c23] at H
              have c23b0 : decide (0 ≤ ((rd_T52 t104 x7_2).place)) = true := decide_eq_true c23
              clear c23
              by_cases c24 : ((rd_T52 t104 x7_2).place) < (l0_0.length : Int)
              ·rw [if_pos c24] at H
               have c24b0 : decide (((rd_T52 t104 x7_2).place) < (l0_0.length : Int)) = true := decide_eq_true c24
               clear c24
               replace H := Option.bind_eq_some_iff.mp H
               obtain ⟨t112, A250, H⟩ := H
               replace H : (lambrequinlaw22_InterpLives.l2 kj14 t102 t104 x5_1 x6_2 x7_2 t112 0 l0_0 l0_1 l0_2 a0_3 ((rd_T30 l0_0 ((rd_T52 t104 x7_2).place)).kind) ((rd_T30 l0_0 ((rd_T52 t104 x7_2).place)).x) ((rd_T30 l0_0 ((rd_T52 t104 x7_2).place)).y) ((rd_T30 l0_0 ((rd_T52 t104 x7_2).place)).z) ((rd_T30 l0_0 ((rd_T52 t104 x7_2).place)).op) ((rd_T30 l0_0 ((rd_T52 t104 x7_2).place)).n) ((rd_T30 l0_0 ((rd_T52 t104 x7_2).place)).a) ((rd_T30 l0_0 ((rd_T52 t104 x7_2).place)).b)) = some r := H
               have A25 := am A250
               clear A250
               have H' := am H
               clear H
               try go_wp2
               replace HO_4 := am (Kd.S_drew HO_4.out)
               replace HO_6 := am (Kd.R_drew HO_6.out)
               replace BK101 := am (blk_drew BK101.out)
               replace HB := am (below_drew1 HB.out)
               have p109 : 0 ≤ (x7_2 : Int) := of_decide_eq_true (by first | (with_reducible assumption) | assumption)
               have q109 : x7_2 < (t104.length : Int) := of_decide_eq_true (by first | (with_reducible assumption) | assumption)
               obtain ⟨ad109, A109_1, c109_1, e109, hx109_0, hx109_1, hl109_1, hi109_1⟩ := at_T52 (Kd.S_reads' HO_4.out).2.2 x7_2 p109 q109
               cases e109
               obtain ⟨ce109, hce109, hMe109, hcc109⟩ := Kd.S_get HO_4.out z52 x7_2 p109 (by first | exact q109 | exact of_decide_eq_true (by first | (with_reducible assumption) | assumption) | (have e_ := (Kd.S_reads' HO_4.out).1; omega))
               obtain ⟨ve109_1, rfl, ge109_1⟩ := k52_openM hMe109
               have hv109_1 := hcc109 1 _ rfl
               rw [add_field _ _ 1 (by omega)] at hv109_1
               replace hv109_1 := Option.some.inj (hv109_1.symm.trans hx109_1)
               rw [hv109_1] at ge109_1
               have HL109_1 := am (show Kd.R k54 54 _ _ _ _ ((rd_T52 t104 x7_2).vars) from ge109_1)
               clear hv109_1 ge109_1
               clear hcc109 hce109
               have HR109_1 := am hi109_1
               have HC109_1 := am hl109_1
               clear hi109_1 hl109_1
               replace p109 := eq_true p109
               replace q109 := eq_true q109
               have p110 : 0 ≤ (((rd_T52 t104 x7_2).place) : Int) := of_decide_eq_true (by first | (with_reducible assumption) | assumption)
               have q110 : ((rd_T52 t104 x7_2).place) < (l0_0.length : Int) := of_decide_eq_true (by first | (with_reducible assumption) | assumption)
               obtain ⟨ad110, e110, hx110_0, hx110_1, hx110_2, hx110_3, hx110_4, hx110_5, hx110_6, hx110_7⟩ := at_T30 HR0_0.out ((rd_T52 t104 x7_2).place) p110 q110
               have hw110_7 := hx110_7
               have hw110_6 := hx110_6
               have hw110_5 := hx110_5
               have hw110_4 := hx110_4
               have hw110_3 := hx110_3
               have hw110_2 := hx110_2
               have hw110_1 := hx110_1
               have hw110_0 := hx110_0
               cases e110
               replace hx110_0 := (HB.out.cell (blt_ hx110_0)).trans hx110_0
               replace hx110_1 := (HB.out.cell (blt_ hx110_1)).trans hx110_1
               replace hx110_2 := (HB.out.cell (blt_ hx110_2)).trans hx110_2
               replace hx110_3 := (HB.out.cell (blt_ hx110_3)).trans hx110_3
               replace hx110_4 := (HB.out.cell (blt_ hx110_4)).trans hx110_4
               replace hx110_5 := (HB.out.cell (blt_ hx110_5)).trans hx110_5
               replace hx110_6 := (HB.out.cell (blt_ hx110_6)).trans hx110_6
               replace hx110_7 := (HB.out.cell (blt_ hx110_7)).trans hx110_7
               replace p110 := eq_true p110
               replace q110 := eq_true q110
               refine start_ (n := 11) (S := fun w' => w'.cell? ⟨gb101, 0, none⟩ = some (.slice (some ad110) l0_0.length c0_0) ∧ w'.cell? ⟨gb101, 1, none⟩ = some (.slice A0_1 l0_1.length c0_1) ∧ w'.cell? ⟨gb101, 2, none⟩ = some (.slice A0_2 l0_2.length c0_2) ∧ w'.cell? ⟨gb101, 3, none⟩ = some (.int .i64 a0_3) ∧ w'.cell? (ad109.add ((x7_2).toNat * 2)) = some (.int .i64 ((rd_T52 t104 x7_2).place)) ∧ w'.cell? ⟨(ad109.add ((x7_2).toNat * 2)).block, (ad109.add ((x7_2).toNat * 2)).off + 1, none⟩ = some (.slice A109_1 ((rd_T52 t104 x7_2).vars).length c109_1) ∧ w'.cell? (ad110.add ((((rd_T52 t104 x7_2).place)).toNat * 8)) = some (.int .i64 ((rd_T30 l0_0 ((rd_T52 t104 x7_2).place)).kind)) ∧ w'.cell? ⟨(ad110.add ((((rd_T52 t104 x7_2).place)).toNat * 8)).block, (ad110.add ((((rd_T52 t104 x7_2).place)).toNat * 8)).off + 1, none⟩ = some (.string ((rd_T30 l0_0 ((rd_T52 t104 x7_2).place)).x)) ∧ w'.cell? ⟨(ad110.add ((((rd_T52 t104 x7_2).place)).toNat * 8)).block, (ad110.add ((((rd_T52 t104 x7_2).place)).toNat * 8)).off + 2, none⟩ = some (.string ((rd_T30 l0_0 ((rd_T52 t104 x7_2).place)).y)) ∧ w'.cell? ⟨(ad110.add ((((rd_T52 t104 x7_2).place)).toNat * 8)).block, (ad110.add ((((rd_T52 t104 x7_2).place)).toNat * 8)).off + 3, none⟩ = some (.string ((rd_T30 l0_0 ((rd_T52 t104 x7_2).place)).z)) ∧ w'.cell? ⟨(ad110.add ((((rd_T52 t104 x7_2).place)).toNat * 8)).block, (ad110.add ((((rd_T52 t104 x7_2).place)).toNat * 8)).off + 4, none⟩ = some (.string ((rd_T30 l0_0 ((rd_T52 t104 x7_2).place)).op)) ∧ w'.cell? ⟨(ad110.add ((((rd_T52 t104 x7_2).place)).toNat * 8)).block, (ad110.add ((((rd_T52 t104 x7_2).place)).toNat * 8)).off + 5, none⟩ = some (.int .i64 ((rd_T30 l0_0 ((rd_T52 t104 x7_2).place)).n)) ∧ w'.cell? ⟨(ad110.add ((((rd_T52 t104 x7_2).place)).toNat * 8)).block, (ad110.add ((((rd_T52 t104 x7_2).place)).toNat * 8)).off + 6, none⟩ = some (.int .i64 ((rd_T30 l0_0 ((rd_T52 t104 x7_2).place)).a)) ∧ w'.cell? ⟨(ad110.add ((((rd_T52 t104 x7_2).place)).toNat * 8)).block, (ad110.add ((((rd_T52 t104 x7_2).place)).toNat * 8)).off + 7, none⟩ = some (.int .i64 ((rd_T30 l0_0 ((rd_T52 t104 x7_2).place)).b))) (ds := []) (bl 11 0) (by kernel_rfl) rfl rfl ⟨(blk_cell BK101.out 0).trans rfl, (blk_cell BK101.out 1).trans rfl, (blk_cell BK101.out 2).trans rfl, (blk_cell BK101.out 3).trans rfl, hx109_0, hx109_1, ((HB.out.cell (blt_ hw110_0)).trans hw110_0), ((HB.out.cell (blt_ hw110_1)).trans hw110_1), ((HB.out.cell (blt_ hw110_2)).trans hw110_2), ((HB.out.cell (blt_ hw110_3)).trans hw110_3), ((HB.out.cell (blt_ hw110_4)).trans hw110_4), ((HB.out.cell (blt_ hw110_5)).trans hw110_5), ((HB.out.cell (blt_ hw110_6)).trans hw110_6), ((HB.out.cell (blt_ hw110_7)).trans hw110_7)⟩ (fun hHeld => ?_); refine with_tabW lambrequinlaw22_InterpLives.tab14 lambrequinlaw22_InterpLives.bits14 (fun HT_ HW_ => ?_)
               generalize wc.drew = w26 at HO_4 HO_6 BK101 HB HL109_1 HR109_1 hx109_0 hx109_1 hx110_0 hx110_1 hx110_2 hx110_3 hx110_4 hx110_5 hx110_6 hx110_7 hHeld ⊢
               refine pure_ (i := 0) (N := some 57) (v := ?_) (a' := ?_) (bl 11 1) rfl rfl (any_of HT_.out (by kernel_rfl)) (fun _ _ _ h => h) (Or.inl ⟨by rfl, ?_⟩) ?_ ?_
               rotate_left
               ·intro w'
                go_simp
                with_reducible rfl
               rotate_left
               ·simp only [Act.put, sA, sZ, sS, i64_w, i32_w]
                rfl
               refine pure_ (i := 2) (N := some 59) (v := ?_) (a' := ?_) (bl 11 5) rfl rfl (any_of HT_.out (by kernel_rfl)) (fun _ _ _ h => h) (Or.inl ⟨by rfl, ?_⟩) ?_ ?_
               rotate_left
               ·intro w'
                go_simp
                with_reducible rfl
               rotate_left
               ·simp only [Act.put, sA, sZ, sS, i64_w, i32_w]
                rfl
               refine pure_ (i := 3) (N := some 60) (v := ?_) (a' := ?_) (bl 11 13) rfl rfl (any_of HT_.out (by kernel_rfl)) (fun _ _ _ h => h) (Or.inl ⟨by rfl, ?_⟩) ?_ ?_
               rotate_left
               ·intro w'
                go_simp
                with_reducible rfl
               rotate_left
               ·simp only [Act.put, sA, sZ, sS, i64_w, i32_w]
                rfl
               refine pure_ (i := 4) (N := some 61) (v := ?_) (a' := ?_) (bl 11 29) rfl rfl (any_of HT_.out (by kernel_rfl)) (fun _ _ _ h => h) (Or.inl ⟨by rfl, ?_⟩) ?_ ?_
               rotate_left
               ·intro w'
                go_simp
                with_reducible rfl
               rotate_left
               ·simp only [Act.put, sA, sZ, sS, i64_w, i32_w]
                rfl
               refine pure_ (i := 5) (N := some 62) (v := ?_) (a' := ?_) (bl 11 61) rfl rfl (any_of HT_.out (by kernel_rfl)) (fun _ _ _ h => h) (Or.inl ⟨by rfl, ?_⟩) ?_ ?_
               rotate_left
               ·intro w'
                go_simp
                with_reducible rfl
               rotate_left
               ·simp only [Act.put, sA, sZ, sS, i64_w, i32_w]
                rfl
               refine take_ (i := 1) (N := some 58) (v := ?_) (a' := ?_) (bl 11 63) rfl rfl (take_ofW HT_.out HW_.out (by kernel_rfl)) (fun _ _ _ h => h) (Or.inl ⟨by rfl, ?_⟩) hHeld ?_ ?_
               rotate_left
               ·rintro w' ⟨s0, s1, s2, s3, s4, s5, s6, s7, s8, s9, s10, s11, s12, s13⟩
                go_simp
                with_reducible rfl
               rotate_left
               ·simp only [Act.put, sA, sZ, sS, i64_w, i32_w]
                rfl
               refine take_ (i := 6) (N := some 63) (v := ?_) (a' := ?_) (bl 11 127) rfl rfl (take_ofW HT_.out HW_.out (by kernel_rfl)) (fun _ _ _ h => h) (Or.inl ⟨by rfl, ?_⟩) hHeld ?_ ?_
               rotate_left
               ·rintro w' ⟨s0, s1, s2, s3, s4, s5, s6, s7, s8, s9, s10, s11, s12, s13⟩
                go_simp
                with_reducible rfl
               rotate_left
               ·simp only [Act.put, sA, sZ, sS, i64_w, i32_w]
                rfl
               refine pure_ (i := 7) (N := some 64) (v := ?_) (a' := ?_) (bl 11 255) rfl rfl (any_of HT_.out (by kernel_rfl)) (fun _ _ _ h => h) (Or.inl ⟨by rfl, ?_⟩) ?_ ?_
               rotate_left
               ·intro w'
                go_simp
                with_reducible rfl
               rotate_left
               ·simp only [Act.put, sA, sZ, sS, i64_w, i32_w]
                rfl
               refine take_ (i := 8) (N := some 65) (v := ?_) (a' := ?_) (bl 11 511) rfl rfl (take_ofW HT_.out HW_.out (by kernel_rfl)) (fun _ _ _ h => h) (Or.inl ⟨by rfl, ?_⟩) hHeld ?_ ?_
               rotate_left
               ·rintro w' ⟨s0, s1, s2, s3, s4, s5, s6, s7, s8, s9, s10, s11, s12, s13⟩
                go_simp
                with_reducible rfl
               rotate_left
               ·simp only [Act.put, sA, sZ, sS, i64_w, i32_w]
                rfl
               refine one_ (i := 9) (N := some 8) (bl 11 1023) rfl rfl (one_of HT_.out (by kernel_rfl)) (by decide) (fun K hK => ?_)
               refine box_step ?hg (N := 8) ?hd (cs := #[.int .i64 0, .string (⟨#[]⟩ : ByteArray), .string (⟨#[]⟩ : ByteArray), .string (⟨#[]⟩ : ByteArray), .string (⟨#[]⟩ : ByteArray), .int .i64 0, .int .i64 0, .int .i64 0]) (t := 30) ?hr ?_; (case hd => rfl); (case hg => rfl); (case hr => first | (go_simp; done) | (go_simp; rfl))
               intro gb111 hg w27 hbox hb
               have HS4_ := (hb.cell (blt_ (hHeld.2.2.2.2.1))).trans (hHeld.2.2.2.2.1)
               have HS5_ := (hb.cell (blt_ (hHeld.2.2.2.2.2.1))).trans (hHeld.2.2.2.2.2.1)
               replace HO_4 := am (Kd.S_below (by (with_reducible repeat (first | apply Kd.S_alloc | apply Kd.S_drewN | apply Kd.S_drew)); exact HO_4.out) hb)
               replace HO_6 := am (Kd.R_below (by (with_reducible repeat (first | apply Ra | apply Rn | apply Rd)); exact HO_6.out) hb)
               replace HL109_1 := am (Kd.R_below (by (with_reducible repeat (first | apply Ra | apply Rn | apply Rd)); exact HL109_1.out) hb)
               replace HR109_1 := am (Kd.C_below (by first | (with_reducible exact HR109_1.out) | (with_reducible exact Kd.C_drewN HR109_1.out _) | (repeat (first | (with_reducible exact HR109_1.out) | (with_reducible refine Kd.C_alloc ?_ _) | (with_reducible refine Kd.C_drewN ?_ _) | (with_reducible refine Kd.C_drew ?_) | exact HR109_1.out))) hb)
               have BK111 := am (hbox)
               have GW111 := am ((by rw [hg]; exact (below_size (by repeat (first | (with_reducible first | exact HB.out | apply lA | apply lN | apply lD | refine lS ?_ GE101.out) | exact HB.out))) : w.heap.size ≤ gb111))
               have GE111 := am ((by rw [hg]; exact (below_size (by repeat (first | (with_reducible first | exact HB.out | apply lA | apply lN | apply lD | refine lS ?_ GE101.out) | exact HB.out))) : w.heap.size ≤ gb111))
               replace HB := am (below_step (by repeat (first | (with_reducible first | exact HB.out | apply lA | apply lN | apply lD | refine lS ?_ GE101.out) | exact HB.out)) hb)
               have NB101_111 := am ((by rw [hg]; exact Nat.ne_of_lt (blk_lt (g := gb101) (o := .cells #[.slice (some ad110) l0_0.length c0_0, .slice A0_1 l0_1.length c0_1, .slice A0_2 l0_2.length c0_2, .int .i64 a0_3] 43 (0, 0)) (by (with_reducible repeat (first | refine bN ?_ _ | refine bD ?_ | refine bA ?_ _)); exact BK101.out)) : gb101 ≠ gb111))
               have NB111_101 := am ((by rw [hg]; exact Nat.ne_of_gt (blk_lt (g := gb101) (o := .cells #[.slice (some ad110) l0_0.length c0_0, .slice A0_1 l0_1.length c0_1, .slice A0_2 l0_2.length c0_2, .int .i64 a0_3] 43 (0, 0)) (by (with_reducible repeat (first | refine bN ?_ _ | refine bD ?_ | refine bA ?_ _)); exact BK101.out)) : gb111 ≠ gb101))
               replace BK101 := am (blk_below (g := gb101) (o := .cells #[.slice (some ad110) l0_0.length c0_0, .slice A0_1 l0_1.length c0_1, .slice A0_2 l0_2.length c0_2, .int .i64 a0_3] 43 (0, 0)) (by (with_reducible repeat (first | refine bN ?_ _ | refine bD ?_ | refine bA ?_ _)); exact BK101.out) hb)
               clear hb hbox hg
               refine hK.out _ _ ⟨(blk_cell BK101.out 0).trans rfl, (blk_cell BK101.out 1).trans rfl, (blk_cell BK101.out 2).trans rfl, (blk_cell BK101.out 3).trans rfl, HS4_, HS5_, ((HB.out.cell (blt_ hw110_0)).trans hw110_0), ((HB.out.cell (blt_ hw110_1)).trans hw110_1), ((HB.out.cell (blt_ hw110_2)).trans hw110_2), ((HB.out.cell (blt_ hw110_3)).trans hw110_3), ((HB.out.cell (blt_ hw110_4)).trans hw110_4), ((HB.out.cell (blt_ hw110_5)).trans hw110_5), ((HB.out.cell (blt_ hw110_6)).trans hw110_6), ((HB.out.cell (blt_ hw110_7)).trans hw110_7)⟩ (fun hHeld => ?_)
               clear hK K
               refine norm_ (a' := ?_) ?_ ?_
               rotate_left
               ·show Act.put _ (some 8) _ = _
                simp only [Act.put, sA, sZ, sS, i64_w, i32_w]
                rfl
               refine one_ (i := 10) (N := none) (bl 11 2047) rfl rfl (one_of HT_.out (by kernel_rfl)) (by decide) (fun K hK => ?_)
               have hs28 : w27.cell? ⟨gb111, 0, none⟩ = some (.int .i64 0) := (blk_cell BK111.out 0).trans rfl
               have hfs28 := blk_frozen BK111.out 0
               have hns28_0 := NB101_111.out
               have hms28_0 := NB111_101.out
               have hs29 : w27.cell? ⟨gb111, 1, none⟩ = some (.string (⟨#[]⟩ : ByteArray)) := (blk_cell BK111.out 1).trans rfl
               have hfs29 := blk_frozen BK111.out 1
               have hns29_0 := NB101_111.out
               have hms29_0 := NB111_101.out
               have hs30 : w27.cell? ⟨gb111, 2, none⟩ = some (.string (⟨#[]⟩ : ByteArray)) := (blk_cell BK111.out 2).trans rfl
               have hfs30 := blk_frozen BK111.out 2
               have hns30_0 := NB101_111.out
               have hms30_0 := NB111_101.out
               have hs31 : w27.cell? ⟨gb111, 3, none⟩ = some (.string (⟨#[]⟩ : ByteArray)) := (blk_cell BK111.out 3).trans rfl
               have hfs31 := blk_frozen BK111.out 3
               have hns31_0 := NB101_111.out
               have hms31_0 := NB111_101.out
               have hs32 : w27.cell? ⟨gb111, 4, none⟩ = some (.string (⟨#[]⟩ : ByteArray)) := (blk_cell BK111.out 4).trans rfl
               have hfs32 := blk_frozen BK111.out 4
               have hns32_0 := NB101_111.out
               have hms32_0 := NB111_101.out
               have hs33 : w27.cell? ⟨gb111, 5, none⟩ = some (.int .i64 0) := (blk_cell BK111.out 5).trans rfl
               have hfs33 := blk_frozen BK111.out 5
               have hns33_0 := NB101_111.out
               have hms33_0 := NB111_101.out
               have hs34 : w27.cell? ⟨gb111, 6, none⟩ = some (.int .i64 0) := (blk_cell BK111.out 6).trans rfl
               have hfs34 := blk_frozen BK111.out 6
               have hns34_0 := NB101_111.out
               have hms34_0 := NB111_101.out
               have hs35 : w27.cell? ⟨gb111, 7, none⟩ = some (.int .i64 0) := (blk_cell BK111.out 7).trans rfl
               have hfs35 := blk_frozen BK111.out 7
               have hns35_0 := NB101_111.out
               have hms35_0 := NB111_101.out
               refine skip_ (w1 := ?_) (by rfl) rfl ?_ ?_
               rotate_left
               ·go_simp
                rfl
               refine hK.out _ _ ⟨(by repeat (first | (with_reducible exact (hHeld.1)) | refine (cell_far (p := ⟨gb111, _, none⟩) NB101_111.out _).trans ?_ | exact (hHeld.1))), (by repeat (first | (with_reducible exact (hHeld.2.1)) | refine (cell_far (p := ⟨gb111, _, none⟩) NB101_111.out _).trans ?_ | exact (hHeld.2.1))), (by repeat (first | (with_reducible exact (hHeld.2.2.1)) | refine (cell_far (p := ⟨gb111, _, none⟩) NB101_111.out _).trans ?_ | exact (hHeld.2.2.1))), (by repeat (first | (with_reducible exact (hHeld.2.2.2.1)) | refine (cell_far (p := ⟨gb111, _, none⟩) NB101_111.out _).trans ?_ | exact (hHeld.2.2.2.1))), (by repeat (first | (with_reducible exact (hHeld.2.2.2.2.1)) | refine (cell_far (p := ⟨gb111, _, none⟩) (by first | exact Kd.own_blk (Kd.S_ne HO_4.out BK111.out (by decide)) | (rw [add_block]; exact Kd.own_blk (Kd.S_ne HO_4.out BK111.out (by decide))) | (show (Addr.add _ _).block ≠ _; rw [add_block]; exact Kd.own_blk (Kd.S_ne HO_4.out BK111.out (by decide))) | (dsimp only; exact Kd.own_blk (Kd.S_ne HO_4.out BK111.out (by decide)))) _).trans ?_ | exact (hHeld.2.2.2.2.1))), (by repeat (first | (with_reducible exact (hHeld.2.2.2.2.2.1)) | refine (cell_far (p := ⟨gb111, _, none⟩) (by first | exact Kd.own_blk (Kd.S_ne HO_4.out BK111.out (by decide)) | (rw [add_block]; exact Kd.own_blk (Kd.S_ne HO_4.out BK111.out (by decide))) | (show (Addr.add _ _).block ≠ _; rw [add_block]; exact Kd.own_blk (Kd.S_ne HO_4.out BK111.out (by decide))) | (dsimp only; exact Kd.own_blk (Kd.S_ne HO_4.out BK111.out (by decide)))) _).trans ?_ | exact (hHeld.2.2.2.2.2.1))), (by repeat (first | (with_reducible exact (hHeld.2.2.2.2.2.2.1)) | refine (cell_far (p := ⟨gb111, _, none⟩) (by first | exact Nat.ne_of_lt (Nat.lt_of_lt_of_le (by have := blt_ hw110_0; first | rwa [add_block] at this | exact this) GW111.out) | (rw [add_block]; exact Nat.ne_of_lt (Nat.lt_of_lt_of_le (by have := blt_ hw110_0; first | rwa [add_block] at this | exact this) GW111.out)) | (show (Addr.add _ _).block ≠ _; rw [add_block]; exact Nat.ne_of_lt (Nat.lt_of_lt_of_le (by have := blt_ hw110_0; first | rwa [add_block] at this | exact this) GW111.out)) | (dsimp only; exact Nat.ne_of_lt (Nat.lt_of_lt_of_le (by have := blt_ hw110_0; first | rwa [add_block] at this | exact this) GW111.out))) _).trans ?_ | exact (hHeld.2.2.2.2.2.2.1))), (by repeat (first | (with_reducible exact (hHeld.2.2.2.2.2.2.2.1)) | refine (cell_far (p := ⟨gb111, _, none⟩) (by first | exact Nat.ne_of_lt (Nat.lt_of_lt_of_le (by have := blt_ hw110_1; first | rwa [add_block] at this | exact this) GW111.out) | (rw [add_block]; exact Nat.ne_of_lt (Nat.lt_of_lt_of_le (by have := blt_ hw110_1; first | rwa [add_block] at this | exact this) GW111.out)) | (show (Addr.add _ _).block ≠ _; rw [add_block]; exact Nat.ne_of_lt (Nat.lt_of_lt_of_le (by have := blt_ hw110_1; first | rwa [add_block] at this | exact this) GW111.out)) | (dsimp only; exact Nat.ne_of_lt (Nat.lt_of_lt_of_le (by have := blt_ hw110_1; first | rwa [add_block] at this | exact this) GW111.out))) _).trans ?_ | exact (hHeld.2.2.2.2.2.2.2.1))), (by repeat (first | (with_reducible exact (hHeld.2.2.2.2.2.2.2.2.1)) | refine (cell_far (p := ⟨gb111, _, none⟩) (by first | exact Nat.ne_of_lt (Nat.lt_of_lt_of_le (by have := blt_ hw110_2; first | rwa [add_block] at this | exact this) GW111.out) | (rw [add_block]; exact Nat.ne_of_lt (Nat.lt_of_lt_of_le (by have := blt_ hw110_2; first | rwa [add_block] at this | exact this) GW111.out)) | (show (Addr.add _ _).block ≠ _; rw [add_block]; exact Nat.ne_of_lt (Nat.lt_of_lt_of_le (by have := blt_ hw110_2; first | rwa [add_block] at this | exact this) GW111.out)) | (dsimp only; exact Nat.ne_of_lt (Nat.lt_of_lt_of_le (by have := blt_ hw110_2; first | rwa [add_block] at this | exact this) GW111.out))) _).trans ?_ | exact (hHeld.2.2.2.2.2.2.2.2.1))), (by repeat (first | (with_reducible exact (hHeld.2.2.2.2.2.2.2.2.2.1)) | refine (cell_far (p := ⟨gb111, _, none⟩) (by first | exact Nat.ne_of_lt (Nat.lt_of_lt_of_le (by have := blt_ hw110_3; first | rwa [add_block] at this | exact this) GW111.out) | (rw [add_block]; exact Nat.ne_of_lt (Nat.lt_of_lt_of_le (by have := blt_ hw110_3; first | rwa [add_block] at this | exact this) GW111.out)) | (show (Addr.add _ _).block ≠ _; rw [add_block]; exact Nat.ne_of_lt (Nat.lt_of_lt_of_le (by have := blt_ hw110_3; first | rwa [add_block] at this | exact this) GW111.out)) | (dsimp only; exact Nat.ne_of_lt (Nat.lt_of_lt_of_le (by have := blt_ hw110_3; first | rwa [add_block] at this | exact this) GW111.out))) _).trans ?_ | exact (hHeld.2.2.2.2.2.2.2.2.2.1))), (by repeat (first | (with_reducible exact (hHeld.2.2.2.2.2.2.2.2.2.2.1)) | refine (cell_far (p := ⟨gb111, _, none⟩) (by first | exact Nat.ne_of_lt (Nat.lt_of_lt_of_le (by have := blt_ hw110_4; first | rwa [add_block] at this | exact this) GW111.out) | (rw [add_block]; exact Nat.ne_of_lt (Nat.lt_of_lt_of_le (by have := blt_ hw110_4; first | rwa [add_block] at this | exact this) GW111.out)) | (show (Addr.add _ _).block ≠ _; rw [add_block]; exact Nat.ne_of_lt (Nat.lt_of_lt_of_le (by have := blt_ hw110_4; first | rwa [add_block] at this | exact this) GW111.out)) | (dsimp only; exact Nat.ne_of_lt (Nat.lt_of_lt_of_le (by have := blt_ hw110_4; first | rwa [add_block] at this | exact this) GW111.out))) _).trans ?_ | exact (hHeld.2.2.2.2.2.2.2.2.2.2.1))), (by repeat (first | (with_reducible exact (hHeld.2.2.2.2.2.2.2.2.2.2.2.1)) | refine (cell_far (p := ⟨gb111, _, none⟩) (by first | exact Nat.ne_of_lt (Nat.lt_of_lt_of_le (by have := blt_ hw110_5; first | rwa [add_block] at this | exact this) GW111.out) | (rw [add_block]; exact Nat.ne_of_lt (Nat.lt_of_lt_of_le (by have := blt_ hw110_5; first | rwa [add_block] at this | exact this) GW111.out)) | (show (Addr.add _ _).block ≠ _; rw [add_block]; exact Nat.ne_of_lt (Nat.lt_of_lt_of_le (by have := blt_ hw110_5; first | rwa [add_block] at this | exact this) GW111.out)) | (dsimp only; exact Nat.ne_of_lt (Nat.lt_of_lt_of_le (by have := blt_ hw110_5; first | rwa [add_block] at this | exact this) GW111.out))) _).trans ?_ | exact (hHeld.2.2.2.2.2.2.2.2.2.2.2.1))), (by repeat (first | (with_reducible exact (hHeld.2.2.2.2.2.2.2.2.2.2.2.2.1)) | refine (cell_far (p := ⟨gb111, _, none⟩) (by first | exact Nat.ne_of_lt (Nat.lt_of_lt_of_le (by have := blt_ hw110_6; first | rwa [add_block] at this | exact this) GW111.out) | (rw [add_block]; exact Nat.ne_of_lt (Nat.lt_of_lt_of_le (by have := blt_ hw110_6; first | rwa [add_block] at this | exact this) GW111.out)) | (show (Addr.add _ _).block ≠ _; rw [add_block]; exact Nat.ne_of_lt (Nat.lt_of_lt_of_le (by have := blt_ hw110_6; first | rwa [add_block] at this | exact this) GW111.out)) | (dsimp only; exact Nat.ne_of_lt (Nat.lt_of_lt_of_le (by have := blt_ hw110_6; first | rwa [add_block] at this | exact this) GW111.out))) _).trans ?_ | exact (hHeld.2.2.2.2.2.2.2.2.2.2.2.2.1))), (by repeat (first | (with_reducible exact (hHeld.2.2.2.2.2.2.2.2.2.2.2.2.2)) | refine (cell_far (p := ⟨gb111, _, none⟩) (by first | exact Nat.ne_of_lt (Nat.lt_of_lt_of_le (by have := blt_ hw110_7; first | rwa [add_block] at this | exact this) GW111.out) | (rw [add_block]; exact Nat.ne_of_lt (Nat.lt_of_lt_of_le (by have := blt_ hw110_7; first | rwa [add_block] at this | exact this) GW111.out)) | (show (Addr.add _ _).block ≠ _; rw [add_block]; exact Nat.ne_of_lt (Nat.lt_of_lt_of_le (by have := blt_ hw110_7; first | rwa [add_block] at this | exact this) GW111.out)) | (dsimp only; exact Nat.ne_of_lt (Nat.lt_of_lt_of_le (by have := blt_ hw110_7; first | rwa [add_block] at this | exact this) GW111.out))) _).trans ?_ | exact (hHeld.2.2.2.2.2.2.2.2.2.2.2.2.2)))⟩ (fun hHeld => ?_)
               clear hK K
               refine done_ (done_of HT_.out (by kernel_rfl)) ?_
               have hnb36 := NB111_101.out
               have hnc36 := NB101_111.out
               have hcz37_0 : w27.cell? ⟨gb111, 0, none⟩ = some (.int .i64 0) := (blk_cell BK111.out 0).trans rfl
               have hcz37_1 : w27.cell? ⟨gb111, 1, none⟩ = some (.string (⟨#[]⟩ : ByteArray)) := (blk_cell BK111.out 1).trans rfl
               have hcz37_2 : w27.cell? ⟨gb111, 2, none⟩ = some (.string (⟨#[]⟩ : ByteArray)) := (blk_cell BK111.out 2).trans rfl
               have hcz37_3 : w27.cell? ⟨gb111, 3, none⟩ = some (.string (⟨#[]⟩ : ByteArray)) := (blk_cell BK111.out 3).trans rfl
               have hcz37_4 : w27.cell? ⟨gb111, 4, none⟩ = some (.string (⟨#[]⟩ : ByteArray)) := (blk_cell BK111.out 4).trans rfl
               have hcz37_5 : w27.cell? ⟨gb111, 5, none⟩ = some (.int .i64 0) := (blk_cell BK111.out 5).trans rfl
               have hcz37_6 : w27.cell? ⟨gb111, 6, none⟩ = some (.int .i64 0) := (blk_cell BK111.out 6).trans rfl
               have hcz37_7 : w27.cell? ⟨gb111, 7, none⟩ = some (.int .i64 0) := (blk_cell BK111.out 7).trans rfl
               have hfz37_0 := blk_frozen BK111.out 0
               have hfz37_1 := blk_frozen BK111.out 1
               have hfz37_2 := blk_frozen BK111.out 2
               have hfz37_3 := blk_frozen BK111.out 3
               have hfz37_4 := blk_frozen BK111.out 4
               have hfz37_5 := blk_frozen BK111.out 5
               have hfz37_6 := blk_frozen BK111.out 6
               have hfz37_7 := blk_frozen BK111.out 7
               try go_wp2_with (first | ((with_reducible refine gate_callee (f := 22) rfl ?_); refine goesL_ (some 67) rfl rfl Try.func22 (by kernel_rfl) rfl #[.agg #[.int .i64 ((rd_T30 l0_0 ((rd_T52 t104 x7_2).place)).kind), .string ((rd_T30 l0_0 ((rd_T52 t104 x7_2).place)).x), .string ((rd_T30 l0_0 ((rd_T52 t104 x7_2).place)).y), .string ((rd_T30 l0_0 ((rd_T52 t104 x7_2).place)).z), .string ((rd_T30 l0_0 ((rd_T52 t104 x7_2).place)).op), .int .i64 ((rd_T30 l0_0 ((rd_T52 t104 x7_2).place)).n), .int .i64 ((rd_T30 l0_0 ((rd_T52 t104 x7_2).place)).a), .int .i64 ((rd_T30 l0_0 ((rd_T52 t104 x7_2).place)).b)]] rfl (by (try simp only [List.map_toArray, List.map_cons, List.map_nil]); first | done | rfl | (simp only [List.length_drop, List.length_take]; rfl)) ?_; (with_reducible refine (cfg_Uses.calls ((rd_T30 l0_0 ((rd_T52 t104 x7_2).place)).kind) ((rd_T30 l0_0 ((rd_T52 t104 x7_2).place)).x) ((rd_T30 l0_0 ((rd_T52 t104 x7_2).place)).y) ((rd_T30 l0_0 ((rd_T52 t104 x7_2).place)).z) ((rd_T30 l0_0 ((rd_T52 t104 x7_2).place)).op) ((rd_T30 l0_0 ((rd_T52 t104 x7_2).place)).n) ((rd_T30 l0_0 ((rd_T52 t104 x7_2).place)).a) ((rd_T30 l0_0 ((rd_T52 t104 x7_2).place)).b) t112 _ A25.out).mono ?_); rintro e w38 ⟨v113, rfl, ho0, hb⟩; refine ⟨_, rfl, ?_⟩; replace HO_4 := am (Kd.S_below (by (with_reducible repeat (first | apply Kd.S_alloc | apply Kd.S_drewN | apply Kd.S_drew)); exact (Kd.S_mono (Kd.S_far (p := ⟨gb111, 7, none⟩) (Kd.S_far (p := ⟨gb111, 6, none⟩) (Kd.S_far (p := ⟨gb111, 5, none⟩) (Kd.S_far (p := ⟨gb111, 4, none⟩) (Kd.S_far (p := ⟨gb111, 3, none⟩) (Kd.S_far (p := ⟨gb111, 2, none⟩) (Kd.S_far (p := ⟨gb111, 1, none⟩) (Kd.S_far (p := ⟨gb111, 0, none⟩) (Kd.S_types HO_4.out BK111.out (by decide)) (fun _ hk => hk.2) _) (fun _ hk => hk.2) _) (fun _ hk => hk.2) _) (fun _ hk => hk.2) _) (fun _ hk => hk.2) _) (fun _ hk => hk.2) _) (fun _ hk => hk.2) _) (fun _ hk => hk.2) _) (fun _ h_ => h_.1))) hb); have HO114 := am (Kd.R_lower (Kd.R_new' ho0 (Kd.R_lt (by (with_reducible repeat (first | apply Ra | apply Rn | apply Rd)); exact (Kd.R_mono (Kd.R_far (p := ⟨gb111, 7, none⟩) (Kd.R_far (p := ⟨gb111, 6, none⟩) (Kd.R_far (p := ⟨gb111, 5, none⟩) (Kd.R_far (p := ⟨gb111, 4, none⟩) (Kd.R_far (p := ⟨gb111, 3, none⟩) (Kd.R_far (p := ⟨gb111, 2, none⟩) (Kd.R_far (p := ⟨gb111, 1, none⟩) (Kd.R_far (p := ⟨gb111, 0, none⟩) (Kd.R_types HO_6.out BK111.out (by decide)) (fun _ hk => hk.2) _) (fun _ hk => hk.2) _) (fun _ hk => hk.2) _) (fun _ hk => hk.2) _) (fun _ hk => hk.2) _) (fun _ hk => hk.2) _) (fun _ hk => hk.2) _) (fun _ hk => hk.2) _) (fun _ h_ => h_.1))))) (below_size (by repeat (first | (with_reducible first | exact HB.out | apply lA | apply lN | apply lD | refine lS ?_ GE101.out | refine lS ?_ GE111.out) | exact HB.out)))); replace HO_6 := am (Kd.R_elder' (by (with_reducible repeat (first | apply Ra | apply Rn | apply Rd)); exact (Kd.R_mono (Kd.R_far (p := ⟨gb111, 7, none⟩) (Kd.R_far (p := ⟨gb111, 6, none⟩) (Kd.R_far (p := ⟨gb111, 5, none⟩) (Kd.R_far (p := ⟨gb111, 4, none⟩) (Kd.R_far (p := ⟨gb111, 3, none⟩) (Kd.R_far (p := ⟨gb111, 2, none⟩) (Kd.R_far (p := ⟨gb111, 1, none⟩) (Kd.R_far (p := ⟨gb111, 0, none⟩) (Kd.R_types HO_6.out BK111.out (by decide)) (fun _ hk => hk.2) _) (fun _ hk => hk.2) _) (fun _ hk => hk.2) _) (fun _ hk => hk.2) _) (fun _ hk => hk.2) _) (fun _ hk => hk.2) _) (fun _ hk => hk.2) _) (fun _ hk => hk.2) _) (fun _ h_ => h_.1))) (Kd.R_base ho0) hb); replace BK101 := am (blk_below (g := gb101) (o := .cells #[.slice (some ad110) l0_0.length c0_0, .slice A0_1 l0_1.length c0_1, .slice A0_2 l0_2.length c0_2, .int .i64 a0_3] 43 (0, 0)) (by repeat (first | (with_reducible first | exact BK101.out | refine bN ?_ _ | refine bD ?_ | refine bA ?_ _) | refine blk_far ?_ NB101_111.out _ | exact BK101.out)) hb); replace HR109_1 := am (Kd.C_below ((Kd.R_reads' (by (with_reducible repeat (first | apply Ra | apply Rn | apply Rd)); exact (Kd.R_mono (Kd.R_far (p := ⟨gb111, 7, none⟩) (Kd.R_far (p := ⟨gb111, 6, none⟩) (Kd.R_far (p := ⟨gb111, 5, none⟩) (Kd.R_far (p := ⟨gb111, 4, none⟩) (Kd.R_far (p := ⟨gb111, 3, none⟩) (Kd.R_far (p := ⟨gb111, 2, none⟩) (Kd.R_far (p := ⟨gb111, 1, none⟩) (Kd.R_far (p := ⟨gb111, 0, none⟩) (Kd.R_types HL109_1.out BK111.out (by decide)) (fun _ hk => hk.2) _) (fun _ hk => hk.2) _) (fun _ hk => hk.2) _) (fun _ hk => hk.2) _) (fun _ hk => hk.2) _) (fun _ hk => hk.2) _) (fun _ hk => hk.2) _) (fun _ hk => hk.2) _) (fun _ h_ => h_.1)))).2.2) hb); replace HL109_1 := am (Kd.R_below (by (with_reducible repeat (first | apply Ra | apply Rn | apply Rd)); exact (Kd.R_mono (Kd.R_far (p := ⟨gb111, 7, none⟩) (Kd.R_far (p := ⟨gb111, 6, none⟩) (Kd.R_far (p := ⟨gb111, 5, none⟩) (Kd.R_far (p := ⟨gb111, 4, none⟩) (Kd.R_far (p := ⟨gb111, 3, none⟩) (Kd.R_far (p := ⟨gb111, 2, none⟩) (Kd.R_far (p := ⟨gb111, 1, none⟩) (Kd.R_far (p := ⟨gb111, 0, none⟩) (Kd.R_types HL109_1.out BK111.out (by decide)) (fun _ hk => hk.2) _) (fun _ hk => hk.2) _) (fun _ hk => hk.2) _) (fun _ hk => hk.2) _) (fun _ hk => hk.2) _) (fun _ hk => hk.2) _) (fun _ hk => hk.2) _) (fun _ hk => hk.2) _) (fun _ h_ => h_.1))) hb); replace BK111 := am (blk_below (g := gb111) (o := .cells #[.int .i64 ((rd_T30 l0_0 ((rd_T52 t104 x7_2).place)).kind), .string ((rd_T30 l0_0 ((rd_T52 t104 x7_2).place)).x), .string ((rd_T30 l0_0 ((rd_T52 t104 x7_2).place)).y), .string ((rd_T30 l0_0 ((rd_T52 t104 x7_2).place)).z), .string ((rd_T30 l0_0 ((rd_T52 t104 x7_2).place)).op), .int .i64 ((rd_T30 l0_0 ((rd_T52 t104 x7_2).place)).n), .int .i64 ((rd_T30 l0_0 ((rd_T52 t104 x7_2).place)).a), .int .i64 ((rd_T30 l0_0 ((rd_T52 t104 x7_2).place)).b)] 30 (0, 0)) (by (with_reducible repeat (first | refine bN ?_ _ | refine bD ?_ | refine bA ?_ _)); refine blk_put (cs := #[.int .i64 ((rd_T30 l0_0 ((rd_T52 t104 x7_2).place)).kind), .string ((rd_T30 l0_0 ((rd_T52 t104 x7_2).place)).x), .string ((rd_T30 l0_0 ((rd_T52 t104 x7_2).place)).y), .string ((rd_T30 l0_0 ((rd_T52 t104 x7_2).place)).z), .string ((rd_T30 l0_0 ((rd_T52 t104 x7_2).place)).op), .int .i64 ((rd_T30 l0_0 ((rd_T52 t104 x7_2).place)).n), .int .i64 ((rd_T30 l0_0 ((rd_T52 t104 x7_2).place)).a), .int .i64 0]) ?_ 7 _ rfl; (with_reducible repeat (first | refine bN ?_ _ | refine bD ?_ | refine bA ?_ _)); refine blk_put (cs := #[.int .i64 ((rd_T30 l0_0 ((rd_T52 t104 x7_2).place)).kind), .string ((rd_T30 l0_0 ((rd_T52 t104 x7_2).place)).x), .string ((rd_T30 l0_0 ((rd_T52 t104 x7_2).place)).y), .string ((rd_T30 l0_0 ((rd_T52 t104 x7_2).place)).z), .string ((rd_T30 l0_0 ((rd_T52 t104 x7_2).place)).op), .int .i64 ((rd_T30 l0_0 ((rd_T52 t104 x7_2).place)).n), .int .i64 0, .int .i64 0]) ?_ 6 _ rfl; (with_reducible repeat (first | refine bN ?_ _ | refine bD ?_ | refine bA ?_ _)); refine blk_put (cs := #[.int .i64 ((rd_T30 l0_0 ((rd_T52 t104 x7_2).place)).kind), .string ((rd_T30 l0_0 ((rd_T52 t104 x7_2).place)).x), .string ((rd_T30 l0_0 ((rd_T52 t104 x7_2).place)).y), .string ((rd_T30 l0_0 ((rd_T52 t104 x7_2).place)).z), .string ((rd_T30 l0_0 ((rd_T52 t104 x7_2).place)).op), .int .i64 0, .int .i64 0, .int .i64 0]) ?_ 5 _ rfl; (with_reducible repeat (first | refine bN ?_ _ | refine bD ?_ | refine bA ?_ _)); refine blk_put (cs := #[.int .i64 ((rd_T30 l0_0 ((rd_T52 t104 x7_2).place)).kind), .string ((rd_T30 l0_0 ((rd_T52 t104 x7_2).place)).x), .string ((rd_T30 l0_0 ((rd_T52 t104 x7_2).place)).y), .string ((rd_T30 l0_0 ((rd_T52 t104 x7_2).place)).z), .string (⟨#[]⟩ : ByteArray), .int .i64 0, .int .i64 0, .int .i64 0]) ?_ 4 _ rfl; (with_reducible repeat (first | refine bN ?_ _ | refine bD ?_ | refine bA ?_ _)); refine blk_put (cs := #[.int .i64 ((rd_T30 l0_0 ((rd_T52 t104 x7_2).place)).kind), .string ((rd_T30 l0_0 ((rd_T52 t104 x7_2).place)).x), .string ((rd_T30 l0_0 ((rd_T52 t104 x7_2).place)).y), .string (⟨#[]⟩ : ByteArray), .string (⟨#[]⟩ : ByteArray), .int .i64 0, .int .i64 0, .int .i64 0]) ?_ 3 _ rfl; (with_reducible repeat (first | refine bN ?_ _ | refine bD ?_ | refine bA ?_ _)); refine blk_put (cs := #[.int .i64 ((rd_T30 l0_0 ((rd_T52 t104 x7_2).place)).kind), .string ((rd_T30 l0_0 ((rd_T52 t104 x7_2).place)).x), .string (⟨#[]⟩ : ByteArray), .string (⟨#[]⟩ : ByteArray), .string (⟨#[]⟩ : ByteArray), .int .i64 0, .int .i64 0, .int .i64 0]) ?_ 2 _ rfl; (with_reducible repeat (first | refine bN ?_ _ | refine bD ?_ | refine bA ?_ _)); refine blk_put (cs := #[.int .i64 ((rd_T30 l0_0 ((rd_T52 t104 x7_2).place)).kind), .string (⟨#[]⟩ : ByteArray), .string (⟨#[]⟩ : ByteArray), .string (⟨#[]⟩ : ByteArray), .string (⟨#[]⟩ : ByteArray), .int .i64 0, .int .i64 0, .int .i64 0]) ?_ 1 _ rfl; (with_reducible repeat (first | refine bN ?_ _ | refine bD ?_ | refine bA ?_ _)); refine blk_put (cs := #[.int .i64 0, .string (⟨#[]⟩ : ByteArray), .string (⟨#[]⟩ : ByteArray), .string (⟨#[]⟩ : ByteArray), .string (⟨#[]⟩ : ByteArray), .int .i64 0, .int .i64 0, .int .i64 0]) ?_ 0 _ rfl; (with_reducible repeat (first | refine bN ?_ _ | refine bD ?_ | refine bA ?_ _)); exact BK111.out) hb); replace HB := am (below_step (by repeat (first | (with_reducible first | exact HB.out | apply lA | apply lN | apply lD | refine lS ?_ GE101.out | refine lS ?_ GE111.out) | exact HB.out)) hb); (try clear hb); (try clear hb2); (try clear hk); (try clear hi); (try clear ho0)))
               go_loopg [10] kj14 (fun kq v10 w' => ∃ (x10_4 : Int), v10 = .int .i64 x10_4 ∧ Aside0 (lambrequinlaw22_InterpLives.l2 kq t102 t104 x5_1 x6_2 x7_2 t112 x10_4 l0_0 l0_1 l0_2 a0_3 ((rd_T30 l0_0 ((rd_T52 t104 x7_2).place)).kind) ((rd_T30 l0_0 ((rd_T52 t104 x7_2).place)).x) ((rd_T30 l0_0 ((rd_T52 t104 x7_2).place)).y) ((rd_T30 l0_0 ((rd_T52 t104 x7_2).place)).z) ((rd_T30 l0_0 ((rd_T52 t104 x7_2).place)).op) ((rd_T30 l0_0 ((rd_T52 t104 x7_2).place)).n) ((rd_T30 l0_0 ((rd_T52 t104 x7_2).place)).a) ((rd_T30 l0_0 ((rd_T52 t104 x7_2).place)).b) = some r) ∧ Aside0 (kq ≤ kj14) ∧ Aside0 (Kd.S k52 52 w' w.heap.size (fun _ => True) (.slice (some ad109) t104.length co13) t104) ∧ Aside0 (Kd.R Kd.string 9 w' w.heap.size (fun k_ => some k_ ≠ (v113 : Value).ownBlock) u6 x6_2) ∧ Aside0 (Kd.R Kd.string 9 w' w.heap.size (fun k_ => some k_ ≠ (u6 : Value).ownBlock) v113 t112) ∧ Aside0 (w'.heap[gb101]? = some (.cells #[(.slice (some ad110) l0_0.length c0_0), (.slice A0_1 l0_1.length c0_1), (.slice A0_2 l0_2.length c0_2), .int .i64 a0_3] 43 (0, 0))) ∧ Aside0 (w'.heap[gb111]? = some (.cells #[.int .i64 ((rd_T30 l0_0 ((rd_T52 t104 x7_2).place)).kind), .string ((rd_T30 l0_0 ((rd_T52 t104 x7_2).place)).x), .string ((rd_T30 l0_0 ((rd_T52 t104 x7_2).place)).y), .string ((rd_T30 l0_0 ((rd_T52 t104 x7_2).place)).z), .string ((rd_T30 l0_0 ((rd_T52 t104 x7_2).place)).op), .int .i64 ((rd_T30 l0_0 ((rd_T52 t104 x7_2).place)).n), .int .i64 ((rd_T30 l0_0 ((rd_T52 t104 x7_2).place)).a), .int .i64 ((rd_T30 l0_0 ((rd_T52 t104 x7_2).place)).b)] 30 (0, 0))) ∧ Aside0 (Kd.C k54 w' A109_1 ((rd_T52 t104 x7_2).vars).length ((rd_T52 t104 x7_2).vars)) ∧ Aside0 (Below w.heap.size w w'))
               case atStart => exact ⟨(0), (by first | rfl | (simp; done) | (simp [*]; done)), H', ⟨Nat.le_refl _⟩, ⟨by (with_reducible repeat (first | apply Kd.S_alloc | apply Kd.S_drewN | apply Kd.S_drew)); exact HO_4.out⟩, ⟨by (with_reducible repeat (first | apply Ra | apply Rn | apply Rd)); exact Kd.R_mono HO_6.out (fun _ hk => hk.2)⟩, ⟨by (with_reducible repeat (first | apply Ra | apply Rn | apply Rd)); exact Kd.R_mono HO114.out (fun _ hk => hk.2)⟩, ⟨by (with_reducible repeat (first | refine bN ?_ _ | refine bD ?_ | refine bA ?_ _)); exact BK101.out⟩, ⟨by (with_reducible repeat (first | refine bN ?_ _ | refine bD ?_ | refine bA ?_ _)); exact BK111.out⟩, ⟨by repeat (first | (with_reducible exact HR109_1.out) | (with_reducible refine Kd.C_alloc ?_ _) | (with_reducible refine Kd.C_drewN ?_ _) | (with_reducible refine Kd.C_drew ?_) | exact HR109_1.out)⟩, ⟨by repeat (first | (with_reducible first | exact HB.out | apply lA | apply lN | apply lD | refine lS ?_ GE101.out | refine lS ?_ GE111.out) | exact HB.out)⟩⟩
               case round =>
                clear H'
                try clear c1
                try clear p1
                try clear q1
                try clear hx1
                try clear c2
                try clear p2
                try clear c3
                try clear c4
                try clear c10
                try clear p10
                try clear q10
                try clear hx10
                try clear p11
                try clear q11
                try clear hx11
                try clear c12
                try clear c12b0
                try clear c14
                try clear c14b0
                try clear c15
                try clear c16
                try clear c16b0
                try clear c17
                try clear c17b0
                try clear c20
                try clear c21
                try clear c21b0
                try clear c22
                try clear c22b0
                try clear c23
                try clear c23b0
                try clear c24
                try clear c24b0
                try clear c36
                try clear hcz10_0
                try clear hcz10_1
                try clear hcz10_2
                try clear hcz10_3
                try clear hcz37_0
                try clear hcz37_1
                try clear hcz37_2
                try clear hcz37_3
                try clear hcz37_4
                try clear hcz37_5
                try clear hcz37_6
                try clear hcz37_7
                try clear hcz8_0
                try clear hcz8_1
                try clear hcz8_2
                try clear hcz8_3
                try clear hfz10_0
                try clear hfz10_1
                try clear hfz10_2
                try clear hfz10_3
                try clear hfz37_0
                try clear hfz37_1
                try clear hfz37_2
                try clear hfz37_3
                try clear hfz37_4
                try clear hfz37_5
                try clear hfz37_6
                try clear hfz37_7
                try clear hfz8_0
                try clear hfz8_1
                try clear hfz8_2
                try clear hfz8_3
                try clear hx107_0
                try clear hx107_1
                try clear hx108_0
                try clear hx108_1
                try clear hx109_0
                try clear hx109_1
                try clear hx110_0
                try clear hx110_1
                try clear hx110_2
                try clear hx110_3
                try clear hx110_4
                try clear hx110_5
                try clear hx110_6
                try clear hx110_7
                try clear p1
                try clear p10
                try clear p107
                try clear p108
                try clear p109
                try clear p110
                try clear p2
                try clear q1
                try clear q10
                try clear q107
                try clear q108
                try clear q109
                try clear q110
                obtain ⟨x10_4, rfl, HA, HK4, HO_4, HO_6, HO_9, BK101, BK111, HR109_1, HB⟩ := hrel
                cases gk with
                | zero => exact absurd HA.out (by simp [lambrequinlaw22_InterpLives.l2])
                | succ k4 =>
                 have H := HA.out
                 clear HA
                 simp only [lambrequinlaw22_InterpLives.l2] at H
                 by_cases c39 : x10_4 < (t112.length : Int)
                 ·rw [if_pos c39] at H
                  have c39b0 : decide (x10_4 < (t112.length : Int)) = true := decide_eq_true c39
                  clear c39
                  by_cases c40 : 0 ≤ x10_4
                  ·rw [if_pos c40] at H
                   have c40b0 : decide (0 ≤ x10_4) = true := decide_eq_true c40
                   clear c40
                   replace H := Option.bind_eq_some_iff.mp H
                   obtain ⟨t121, A410, H⟩ := H
                   replace H : (if t121 = true then (lambrequinlaw22_InterpLives.l2 k4 t102 t104 x5_1 x6_2 x7_2 t112 (wrap64 (x10_4 + 1)) l0_0 l0_1 l0_2 a0_3 ((rd_T30 l0_0 ((rd_T52 t104 x7_2).place)).kind) ((rd_T30 l0_0 ((rd_T52 t104 x7_2).place)).x) ((rd_T30 l0_0 ((rd_T52 t104 x7_2).place)).y) ((rd_T30 l0_0 ((rd_T52 t104 x7_2).place)).z) ((rd_T30 l0_0 ((rd_T52 t104 x7_2).place)).op) ((rd_T30 l0_0 ((rd_T52 t104 x7_2).place)).n) ((rd_T30 l0_0 ((rd_T52 t104 x7_2).place)).a) ((rd_T30 l0_0 ((rd_T52 t104 x7_2).place)).b)) else (if 0 ≤ x5_1 then (if x5_1 < (t104.length : Int) then ((cfg_Lives.f k4 l0_0 ((rd_T52 t104 x5_1).place) (rdOf ByteArray.empty t112 x10_4)).bind fun t124 => (if t124 = true then (lambrequinlaw22_InterpLives.l2 k4 t102 t104 x5_1 x6_2 x7_2 t112 (wrap64 (x10_4 + 1)) l0_0 l0_1 l0_2 a0_3 ((rd_T30 l0_0 ((rd_T52 t104 x7_2).place)).kind) ((rd_T30 l0_0 ((rd_T52 t104 x7_2).place)).x) ((rd_T30 l0_0 ((rd_T52 t104 x7_2).place)).y) ((rd_T30 l0_0 ((rd_T52 t104 x7_2).place)).z) ((rd_T30 l0_0 ((rd_T52 t104 x7_2).place)).op) ((rd_T30 l0_0 ((rd_T52 t104 x7_2).place)).n) ((rd_T30 l0_0 ((rd_T52 t104 x7_2).place)).a) ((rd_T30 l0_0 ((rd_T52 t104 x7_2).place)).b)) else (some false))) else (none)) else (none))) = some r := H
                   have A41 := am A410
                   clear A410
                   by_cases c42 : t121 = true
                   ·subst c42
                    have H1 : (lambrequinlaw22_InterpLives.l2 k4 t102 t104 x5_1 x6_2 x7_2 t112 (wrap64 (x10_4 + 1)) l0_0 l0_1 l0_2 a0_3 ((rd_T30 l0_0 ((rd_T52 t104 x7_2).place)).kind) ((rd_T30 l0_0 ((rd_T52 t104 x7_2).place)).x) ((rd_T30 l0_0 ((rd_T52 t104 x7_2).place)).y) ((rd_T30 l0_0 ((rd_T52 t104 x7_2).place)).z) ((rd_T30 l0_0 ((rd_T52 t104 x7_2).place)).op) ((rd_T30 l0_0 ((rd_T52 t104 x7_2).place)).n) ((rd_T30 l0_0 ((rd_T52 t104 x7_2).place)).a) ((rd_T30 l0_0 ((rd_T52 t104 x7_2).place)).b)) = some r := by rw [if_pos rfl] at H; exact H
                    clear H
                    have H := H1
                    clear H1
                    have H' := am H
                    clear H
                    obtain ⟨Ao43, co43, eo43⟩ := Kd.R_slice HO_9.out
                    subst eo43
                    try go_wp2
                    replace HO_4 := am (Kd.S_drew HO_4.out)
                    replace HO_6 := am (Kd.R_drew HO_6.out)
                    replace HO_9 := am (Kd.R_drew HO_9.out)
                    replace BK101 := am (blk_drew BK101.out)
                    replace BK111 := am (blk_drew BK111.out)
                    replace HR109_1 := am (Kd.C_drew HR109_1.out)
                    replace HB := am (below_drew1 HB.out)
                    have p120 : 0 ≤ (x10_4 : Int) := of_decide_eq_true (by first | (with_reducible assumption) | assumption)
                    have q120 : x10_4 < (t112.length : Int) := of_decide_eq_true (by first | (with_reducible assumption) | assumption)
                    obtain ⟨ad120, e120, hx120_0⟩ := Kd.at_string (Kd.R_reads' HO_9.out).2.2 x10_4 p120 q120
                    cases e120
                    replace p120 := eq_true p120
                    replace q120 := eq_true q120
                    obtain ⟨Ao45, co45, eo45⟩ := Kd.R_slice HO_6.out
                    (first | subst eo45 | (injection eo45 with f1_ f2_ f3_; have f4_ := f1_.symm; have f5_ := f3_.symm; clear f1_ f2_ f3_; subst f4_; subst f5_))
                    refine start_ (n := 22) (S := fun w' => w'.cell? (ad120.add (x10_4).toNat) = some (.string (rdOf ByteArray.empty t112 x10_4))) (ds := []) (bl 22 0) (by kernel_rfl) rfl rfl (hx120_0) (fun hHeld => ?_); refine with_tabW lambrequinlaw22_InterpLives.tab19 lambrequinlaw22_InterpLives.bits19 (fun HT_ HW_ => ?_)
                    generalize wr.drew = w44 at HO_4 HO_6 HO_9 BK101 BK111 HR109_1 HB hx120_0 hHeld ⊢
                    refine pure_ (i := 0) (N := some 74) (v := ?_) (a' := ?_) (bl 22 1) rfl rfl (any_of HT_.out (by kernel_rfl)) (fun _ _ _ h => h) (Or.inl ⟨by rfl, ?_⟩) ?_ ?_
                    rotate_left
                    ·intro w'
                     go_simp
                     with_reducible rfl
                    rotate_left
                    ·simp only [Act.put, sA, sZ, sS, i64_w, i32_w]
                     rfl
                    refine pure_ (i := 1) (N := some 75) (v := ?_) (a' := ?_) (bl 22 3) rfl rfl (any_of HT_.out (by kernel_rfl)) (fun _ _ _ h => h) (Or.inl ⟨by rfl, ?_⟩) ?_ ?_
                    rotate_left
                    ·intro w'
                     go_simp
                     with_reducible rfl
                    rotate_left
                    ·simp only [Act.put, sA, sZ, sS, i64_w, i32_w]
                     rfl
                    refine pure_ (i := 2) (N := some 76) (v := ?_) (a' := ?_) (bl 22 7) rfl rfl (any_of HT_.out (by kernel_rfl)) (fun _ _ _ h => h) (Or.inl ⟨by rfl, ?_⟩) ?_ ?_
                    rotate_left
                    ·intro w'
                     go_simp
                     with_reducible rfl
                    rotate_left
                    ·simp only [Act.put, sA, sZ, sS, i64_w, i32_w]
                     rfl
                    refine pure_ (i := 3) (N := some 77) (v := ?_) (a' := ?_) (bl 22 15) rfl rfl (any_of HT_.out (by kernel_rfl)) (fun _ _ _ h => h) (Or.inl ⟨by rfl, ?_⟩) ?_ ?_
                    rotate_left
                    ·intro w'
                     go_simp
                     with_reducible rfl
                    rotate_left
                    ·simp only [Act.put, sA, sZ, sS, i64_w, i32_w]
                     rfl
                    refine take_ (i := 4) (N := some 78) (v := ?_) (a' := ?_) (bl 22 31) rfl rfl (take_ofW HT_.out HW_.out (by kernel_rfl)) (fun _ _ _ h => h) (Or.inl ⟨by rfl, ?_⟩) hHeld ?_ ?_
                    rotate_left
                    ·intro w' s0
                     go_simp
                     with_reducible rfl
                    rotate_left
                    ·simp only [Act.put, sA, sZ, sS, i64_w, i32_w]
                     rfl
                    refine one_ (i := 5) (N := some 79) (bl 22 63) rfl rfl (one_of HT_.out (by kernel_rfl)) (by decide) (fun K hK => ?_)
                    refine goes_ Try.func21 (by kernel_rfl) rfl #[.slice Ao45 x6_2.length co45, .string (rdOf ByteArray.empty t112 x10_4)] (by rfl) rfl rfl (by (try simp only [List.map_toArray, List.map_cons, List.map_nil]); first | done | rfl | (simp only [List.length_drop, List.length_take]; rfl)) ?_
                    with_reducible refine (lambrequinref09_In.calls k4 _ _ x6_2 (rdOf ByteArray.empty t112 x10_4) true _ ?side1 ?side2 A41.out).mono ?_
                    (case side1 => repeat (first | exact (Kd.R_reads' HO_6.out).2.2 | (with_reducible refine Kd.C_alloc ?_ _) | (with_reducible refine Kd.C_drewN ?_ _) | (with_reducible refine Kd.C_drew ?_)))
                    (case side2 => exact (Kd.R_reads' HO_6.out).2.1)
                    rintro e w' ⟨rfl, ⟨nd, rfl⟩⟩
                    refine ⟨_, rfl, ?_⟩
                    refine hK.out _ _ (hHeld) (fun hHeld => ?_)
                    clear hK K
                    refine norm_ (a' := ?_) ?_ ?_
                    rotate_left
                    ·show Act.put _ (some 79) _ = _
                     simp only [Act.put, sA, sZ, sS, i64_w, i32_w]
                     rfl
                    refine pure_ (i := 6) (N := some 80) (v := ?_) (a' := ?_) (bl 22 127) rfl rfl (any_of HT_.out (by kernel_rfl)) (fun _ _ _ h => h) (Or.inl ⟨by rfl, ?_⟩) ?_ ?_
                    rotate_left
                    ·intro w'
                     go_simp
                     with_reducible rfl
                    rotate_left
                    ·simp only [Act.put, sA, sZ, sS, i64_w, i32_w]
                     rfl
                    refine pure_ (i := 7) (N := some 81) (v := ?_) (a' := ?_) (bl 22 255) rfl rfl (any_of HT_.out (by kernel_rfl)) (fun _ _ _ h => h) (Or.inl ⟨by rfl, ?_⟩) ?_ ?_
                    rotate_left
                    ·intro w'
                     go_simp
                     with_reducible rfl
                    rotate_left
                    ·simp only [Act.put, sA, sZ, sS, i64_w, i32_w]
                     rfl
                    refine pure_ (i := 8) (N := some 82) (v := undef) (a' := ?_) (bl 22 511) rfl rfl (any_of HT_.out (by kernel_rfl)) (fun _ _ _ h => h) (Or.inr ⟨by rfl, rfl⟩) ?_ ?_
                    rotate_left
                    ·simp only [Act.put, sA, sZ, sS, i64_w, i32_w]
                     rfl
                    refine pure_ (i := 9) (N := some 83) (v := undef) (a' := ?_) (bl 22 1023) rfl rfl (any_of HT_.out (by kernel_rfl)) (fun _ _ _ h => h) (Or.inr ⟨by rfl, rfl⟩) ?_ ?_
                    rotate_left
                    ·simp only [Act.put, sA, sZ, sS, i64_w, i32_w]
                     rfl
                    refine pure_ (i := 10) (N := some 84) (v := undef) (a' := ?_) (bl 22 2047) rfl rfl (any_of HT_.out (by kernel_rfl)) (fun _ _ _ h => h) (Or.inr ⟨by rfl, rfl⟩) ?_ ?_
                    rotate_left
                    ·simp only [Act.put, sA, sZ, sS, i64_w, i32_w]
                     rfl
                    refine pure_ (i := 11) (N := some 85) (v := undef) (a' := ?_) (bl 22 4095) rfl rfl (any_of HT_.out (by kernel_rfl)) (fun _ _ _ h => h) (Or.inr ⟨by rfl, rfl⟩) ?_ ?_
                    rotate_left
                    ·simp only [Act.put, sA, sZ, sS, i64_w, i32_w]
                     rfl
                    refine pure_ (i := 12) (N := some 86) (v := undef) (a' := ?_) (bl 22 8191) rfl rfl (any_of HT_.out (by kernel_rfl)) (fun _ _ _ h => h) (Or.inr ⟨by rfl, rfl⟩) ?_ ?_
                    rotate_left
                    ·simp only [Act.put, sA, sZ, sS, i64_w, i32_w]
                     rfl
                    refine pure_ (i := 13) (N := some 87) (v := undef) (a' := ?_) (bl 22 16383) rfl rfl (any_of HT_.out (by kernel_rfl)) (fun _ _ _ h => h) (Or.inr ⟨by rfl, rfl⟩) ?_ ?_
                    rotate_left
                    ·simp only [Act.put, sA, sZ, sS, i64_w, i32_w]
                     rfl
                    refine pure_ (i := 14) (N := some 88) (v := undef) (a' := ?_) (bl 22 32767) rfl rfl (any_of HT_.out (by kernel_rfl)) (fun _ _ _ h => h) (Or.inr ⟨by rfl, rfl⟩) ?_ ?_
                    rotate_left
                    ·simp only [Act.put, sA, sZ, sS, i64_w, i32_w]
                     rfl
                    refine pure_ (i := 15) (N := some 89) (v := undef) (a' := ?_) (bl 22 65535) rfl rfl (any_of HT_.out (by kernel_rfl)) (fun _ _ _ h => h) (Or.inr ⟨by rfl, rfl⟩) ?_ ?_
                    rotate_left
                    ·simp only [Act.put, sA, sZ, sS, i64_w, i32_w]
                     rfl
                    refine pure_ (i := 16) (N := some 90) (v := undef) (a' := ?_) (bl 22 131071) rfl rfl (any_of HT_.out (by kernel_rfl)) (fun _ _ _ h => h) (Or.inr ⟨by rfl, rfl⟩) ?_ ?_
                    rotate_left
                    ·simp only [Act.put, sA, sZ, sS, i64_w, i32_w]
                     rfl
                    refine pure_ (i := 17) (N := some 91) (v := undef) (a' := ?_) (bl 22 262143) rfl rfl (any_of HT_.out (by kernel_rfl)) (fun _ _ _ h => h) (Or.inr ⟨by rfl, rfl⟩) ?_ ?_
                    rotate_left
                    ·simp only [Act.put, sA, sZ, sS, i64_w, i32_w]
                     rfl
                    refine pure_ (i := 18) (N := some 92) (v := undef) (a' := ?_) (bl 22 524287) rfl rfl (any_of HT_.out (by kernel_rfl)) (fun _ _ _ h => h) (Or.inr ⟨by rfl, rfl⟩) ?_ ?_
                    rotate_left
                    ·simp only [Act.put, sA, sZ, sS, i64_w, i32_w]
                     rfl
                    refine pure_ (i := 19) (N := some 93) (v := undef) (a' := ?_) (bl 22 1048575) rfl rfl (any_of HT_.out (by kernel_rfl)) (fun _ _ _ h => h) (Or.inr ⟨by rfl, rfl⟩) ?_ ?_
                    rotate_left
                    ·simp only [Act.put, sA, sZ, sS, i64_w, i32_w]
                     rfl
                    refine pure_ (i := 20) (N := some 94) (v := undef) (a' := ?_) (bl 22 2097151) rfl rfl (any_of HT_.out (by kernel_rfl)) (fun _ _ _ h => h) (Or.inr ⟨by rfl, rfl⟩) ?_ ?_
                    rotate_left
                    ·simp only [Act.put, sA, sZ, sS, i64_w, i32_w]
                     rfl
                    refine pure_ (i := 21) (N := some 95) (v := ?_) (a' := ?_) (bl 22 4194303) rfl rfl (any_of HT_.out (by kernel_rfl)) (fun _ _ _ h => h) (Or.inl ⟨by rfl, ?_⟩) ?_ ?_
                    rotate_left
                    ·intro w'
                     go_simp
                     with_reducible rfl
                    rotate_left
                    ·simp only [Act.put, sA, sZ, sS, i64_w, i32_w]
                     rfl
                    refine done_ (done_of HT_.out (by kernel_rfl)) ?_
                    try go_wp2
                    go_roundg k4
                    case measure => have := HK1.out; have := HK2.out; have := HJ14.out; have := HK4.out; omega
                    case rel => exact ⟨(wrap64 (x10_4 + 1)), (by first | rfl | (simp; done) | (simp [*]; done)), H', ⟨by have := HK1.out; have := HK2.out; have := HJ14.out; have := HK4.out; omega⟩, ⟨by (with_reducible repeat (first | apply Kd.S_alloc | apply Kd.S_drewN | apply Kd.S_drew)); exact HO_4.out⟩, ⟨by (with_reducible repeat (first | apply Ra | apply Rn | apply Rd)); exact HO_6.out⟩, ⟨by (with_reducible repeat (first | apply Ra | apply Rn | apply Rd)); exact HO_9.out⟩, ⟨by (with_reducible repeat (first | refine bN ?_ _ | refine bD ?_ | refine bA ?_ _)); exact BK101.out⟩, ⟨by (with_reducible repeat (first | refine bN ?_ _ | refine bD ?_ | refine bA ?_ _)); exact BK111.out⟩, ⟨by repeat (first | (with_reducible exact HR109_1.out) | (with_reducible refine Kd.C_alloc ?_ _) | (with_reducible refine Kd.C_drewN ?_ _) | (with_reducible refine Kd.C_drew ?_) | exact HR109_1.out)⟩, ⟨by repeat (first | (with_reducible first | exact HB.out | apply lA | apply lN | apply lD | refine lS ?_ GE101.out | refine lS ?_ GE111.out) | exact HB.out)⟩⟩
                   ·replace c42 := Bool.eq_false_iff.mpr c42
                    subst c42
                    have H1 : (if 0 ≤ x5_1 then (if x5_1 < (t104.length : Int) then ((cfg_Lives.f k4 l0_0 ((rd_T52 t104 x5_1).place) (rdOf ByteArray.empty t112 x10_4)).bind fun t124 => (if t124 = true then (lambrequinlaw22_InterpLives.l2 k4 t102 t104 x5_1 x6_2 x7_2 t112 (wrap64 (x10_4 + 1)) l0_0 l0_1 l0_2 a0_3 ((rd_T30 l0_0 ((rd_T52 t104 x7_2).place)).kind) ((rd_T30 l0_0 ((rd_T52 t104 x7_2).place)).x) ((rd_T30 l0_0 ((rd_T52 t104 x7_2).place)).y) ((rd_T30 l0_0 ((rd_T52 t104 x7_2).place)).z) ((rd_T30 l0_0 ((rd_T52 t104 x7_2).place)).op) ((rd_T30 l0_0 ((rd_T52 t104 x7_2).place)).n) ((rd_T30 l0_0 ((rd_T52 t104 x7_2).place)).a) ((rd_T30 l0_0 ((rd_T52 t104 x7_2).place)).b)) else (some false))) else (none)) else (none)) = some r := by rw [if_neg (show ¬ (false = true) by decide)] at H; exact H
                    clear H
                    have H := H1
                    clear H1
                    by_cases c46 : 0 ≤ x5_1
                    ·rw [if_pos c46] at H
                     have c46b0 : decide (0 ≤ x5_1) = true := decide_eq_true c46
                     clear c46
                     by_cases c47 : x5_1 < (t104.length : Int)
                     ·rw [if_pos c47] at H
                      have c47b0 : decide (x5_1 < (t104.length : Int)) = true := decide_eq_true c47
                      clear c47
                      replace H := Option.bind_eq_some_iff.mp H
                      obtain ⟨t124, A480, H⟩ := H
                      replace H : (if t124 = true then (lambrequinlaw22_InterpLives.l2 k4 t102 t104 x5_1 x6_2 x7_2 t112 (wrap64 (x10_4 + 1)) l0_0 l0_1 l0_2 a0_3 ((rd_T30 l0_0 ((rd_T52 t104 x7_2).place)).kind) ((rd_T30 l0_0 ((rd_T52 t104 x7_2).place)).x) ((rd_T30 l0_0 ((rd_T52 t104 x7_2).place)).y) ((rd_T30 l0_0 ((rd_T52 t104 x7_2).place)).z) ((rd_T30 l0_0 ((rd_T52 t104 x7_2).place)).op) ((rd_T30 l0_0 ((rd_T52 t104 x7_2).place)).n) ((rd_T30 l0_0 ((rd_T52 t104 x7_2).place)).a) ((rd_T30 l0_0 ((rd_T52 t104 x7_2).place)).b)) else (some false)) = some r := H
                      have A48 := am A480
                      clear A480
                      by_cases c49 : t124 = true
                      ·subst c49
                       have H1 : (lambrequinlaw22_InterpLives.l2 k4 t102 t104 x5_1 x6_2 x7_2 t112 (wrap64 (x10_4 + 1)) l0_0 l0_1 l0_2 a0_3 ((rd_T30 l0_0 ((rd_T52 t104 x7_2).place)).kind) ((rd_T30 l0_0 ((rd_T52 t104 x7_2).place)).x) ((rd_T30 l0_0 ((rd_T52 t104 x7_2).place)).y) ((rd_T30 l0_0 ((rd_T52 t104 x7_2).place)).z) ((rd_T30 l0_0 ((rd_T52 t104 x7_2).place)).op) ((rd_T30 l0_0 ((rd_T52 t104 x7_2).place)).n) ((rd_T30 l0_0 ((rd_T52 t104 x7_2).place)).a) ((rd_T30 l0_0 ((rd_T52 t104 x7_2).place)).b)) = some r := by rw [if_pos rfl] at H; exact H
                       clear H
                       have H := H1
                       clear H1
                       have H' := am H
                       clear H
                       obtain ⟨Ao50, co50, eo50⟩ := Kd.R_slice HO_9.out
                       subst eo50
                       try go_wp2
                       replace HO_4 := am (Kd.S_drew HO_4.out)
                       replace HO_6 := am (Kd.R_drew HO_6.out)
                       replace HO_9 := am (Kd.R_drew HO_9.out)
                       replace BK101 := am (blk_drew BK101.out)
                       replace BK111 := am (blk_drew BK111.out)
                       replace HR109_1 := am (Kd.C_drew HR109_1.out)
                       replace HB := am (below_drew1 HB.out)
                       have p120 : 0 ≤ (x10_4 : Int) := of_decide_eq_true (by first | (with_reducible assumption) | assumption)
                       have q120 : x10_4 < (t112.length : Int) := of_decide_eq_true (by first | (with_reducible assumption) | assumption)
                       obtain ⟨ad120, e120, hx120_0⟩ := Kd.at_string (Kd.R_reads' HO_9.out).2.2 x10_4 p120 q120
                       cases e120
                       replace p120 := eq_true p120
                       replace q120 := eq_true q120
                       obtain ⟨Ao52, co52, eo52⟩ := Kd.R_slice HO_6.out
                       (first | subst eo52 | (injection eo52 with f1_ f2_ f3_; have f4_ := f1_.symm; have f5_ := f3_.symm; clear f1_ f2_ f3_; subst f4_; subst f5_))
                       have p122 : 0 ≤ (x5_1 : Int) := of_decide_eq_true (by first | (with_reducible assumption) | assumption)
                       have q122 : x5_1 < (t104.length : Int) := of_decide_eq_true (by first | (with_reducible assumption) | assumption)
                       obtain ⟨ad122, A122_1, c122_1, e122, hx122_0, hx122_1, hl122_1, hi122_1⟩ := at_T52 (Kd.S_reads' HO_4.out).2.2 x5_1 p122 q122
                       obtain rfl : ad109 = ad122 := (by injection e122)
                       obtain ⟨ce122, hce122, hMe122, hcc122⟩ := Kd.S_get HO_4.out z52 x5_1 p122 (by first | exact q122 | exact of_decide_eq_true (by first | (with_reducible assumption) | assumption) | (have e_ := (Kd.S_reads' HO_4.out).1; omega))
                       obtain ⟨ve122_1, rfl, ge122_1⟩ := k52_openM hMe122
                       have hv122_1 := hcc122 1 _ rfl
                       rw [add_field _ _ 1 (by omega)] at hv122_1
                       replace hv122_1 := Option.some.inj (hv122_1.symm.trans hx122_1)
                       rw [hv122_1] at ge122_1
                       have HL122_1 := am (show Kd.R k54 54 _ _ _ _ ((rd_T52 t104 x5_1).vars) from ge122_1)
                       clear hv122_1 ge122_1
                       clear hcc122 hce122
                       have HR122_1 := am hi122_1
                       have HC122_1 := am hl122_1
                       clear hi122_1 hl122_1
                       replace p122 := eq_true p122
                       replace q122 := eq_true q122
                       have p123 : 0 ≤ (x10_4 : Int) := of_decide_eq_true (by first | (with_reducible assumption) | assumption)
                       have q123 : x10_4 < (t112.length : Int) := of_decide_eq_true (by first | (with_reducible assumption) | assumption)
                       obtain ⟨ad123, e123, hx123_0⟩ := Kd.at_string (Kd.R_reads' HO_9.out).2.2 x10_4 p123 q123
                       obtain rfl : ad120 = ad123 := (by injection e123)
                       replace p123 := eq_true p123
                       replace q123 := eq_true q123
                       refine start_ (n := 22) (S := fun w' => w'.cell? ⟨gb101, 0, none⟩ = some (.slice (some ad110) l0_0.length c0_0) ∧ w'.cell? ⟨gb101, 1, none⟩ = some (.slice A0_1 l0_1.length c0_1) ∧ w'.cell? ⟨gb101, 2, none⟩ = some (.slice A0_2 l0_2.length c0_2) ∧ w'.cell? ⟨gb101, 3, none⟩ = some (.int .i64 a0_3) ∧ w'.cell? (ad120.add (x10_4).toNat) = some (.string (rdOf ByteArray.empty t112 x10_4)) ∧ w'.cell? (ad109.add ((x5_1).toNat * 2)) = some (.int .i64 ((rd_T52 t104 x5_1).place)) ∧ w'.cell? ⟨(ad109.add ((x5_1).toNat * 2)).block, (ad109.add ((x5_1).toNat * 2)).off + 1, none⟩ = some (.slice A122_1 ((rd_T52 t104 x5_1).vars).length c122_1) ∧ w'.cell? (ad120.add (x10_4).toNat) = some (.string (rdOf ByteArray.empty t112 x10_4))) (ds := []) (bl 22 0) (by kernel_rfl) rfl rfl ⟨(blk_cell BK101.out 0).trans rfl, (blk_cell BK101.out 1).trans rfl, (blk_cell BK101.out 2).trans rfl, (blk_cell BK101.out 3).trans rfl, hx120_0, hx122_0, hx122_1, hx123_0⟩ (fun hHeld => ?_); refine with_tabW lambrequinlaw22_InterpLives.tab19 lambrequinlaw22_InterpLives.bits19 (fun HT_ HW_ => ?_)
                       generalize wr.drew = w51 at HO_4 HO_6 HO_9 BK101 BK111 HR109_1 HB HL122_1 HR122_1 hx120_0 hx122_0 hx122_1 hx123_0 hHeld ⊢
                       refine pure_ (i := 0) (N := some 74) (v := ?_) (a' := ?_) (bl 22 1) rfl rfl (any_of HT_.out (by kernel_rfl)) (fun _ _ _ h => h) (Or.inl ⟨by rfl, ?_⟩) ?_ ?_
                       rotate_left
                       ·intro w'
                        go_simp
                        with_reducible rfl
                       rotate_left
                       ·simp only [Act.put, sA, sZ, sS, i64_w, i32_w]
                        rfl
                       refine pure_ (i := 1) (N := some 75) (v := ?_) (a' := ?_) (bl 22 3) rfl rfl (any_of HT_.out (by kernel_rfl)) (fun _ _ _ h => h) (Or.inl ⟨by rfl, ?_⟩) ?_ ?_
                       rotate_left
                       ·intro w'
                        go_simp
                        with_reducible rfl
                       rotate_left
                       ·simp only [Act.put, sA, sZ, sS, i64_w, i32_w]
                        rfl
                       refine pure_ (i := 2) (N := some 76) (v := ?_) (a' := ?_) (bl 22 7) rfl rfl (any_of HT_.out (by kernel_rfl)) (fun _ _ _ h => h) (Or.inl ⟨by rfl, ?_⟩) ?_ ?_
                       rotate_left
                       ·intro w'
                        go_simp
                        with_reducible rfl
                       rotate_left
                       ·simp only [Act.put, sA, sZ, sS, i64_w, i32_w]
                        rfl
                       refine pure_ (i := 3) (N := some 77) (v := ?_) (a' := ?_) (bl 22 15) rfl rfl (any_of HT_.out (by kernel_rfl)) (fun _ _ _ h => h) (Or.inl ⟨by rfl, ?_⟩) ?_ ?_
                       rotate_left
                       ·intro w'
                        go_simp
                        with_reducible rfl
                       rotate_left
                       ·simp only [Act.put, sA, sZ, sS, i64_w, i32_w]
                        rfl
                       refine take_ (i := 4) (N := some 78) (v := ?_) (a' := ?_) (bl 22 31) rfl rfl (take_ofW HT_.out HW_.out (by kernel_rfl)) (fun _ _ _ h => h) (Or.inl ⟨by rfl, ?_⟩) hHeld ?_ ?_
                       rotate_left
                       ·rintro w' ⟨s0, s1, s2, s3, s4, s5, s6, s7⟩
                        go_simp
                        with_reducible rfl
                       rotate_left
                       ·simp only [Act.put, sA, sZ, sS, i64_w, i32_w]
                        rfl
                       refine one_ (i := 5) (N := some 79) (bl 22 63) rfl rfl (one_of HT_.out (by kernel_rfl)) (by decide) (fun K hK => ?_)
                       refine goes_ Try.func21 (by kernel_rfl) rfl #[.slice Ao52 x6_2.length co52, .string (rdOf ByteArray.empty t112 x10_4)] (by rfl) rfl rfl (by (try simp only [List.map_toArray, List.map_cons, List.map_nil]); first | done | rfl | (simp only [List.length_drop, List.length_take]; rfl)) ?_
                       with_reducible refine (lambrequinref09_In.calls k4 _ _ x6_2 (rdOf ByteArray.empty t112 x10_4) false _ ?side1 ?side2 A41.out).mono ?_
                       (case side1 => repeat (first | exact (Kd.R_reads' HO_6.out).2.2 | (with_reducible refine Kd.C_alloc ?_ _) | (with_reducible refine Kd.C_drewN ?_ _) | (with_reducible refine Kd.C_drew ?_)))
                       (case side2 => exact (Kd.R_reads' HO_6.out).2.1)
                       rintro e w' ⟨rfl, ⟨nd, rfl⟩⟩
                       refine ⟨_, rfl, ?_⟩
                       refine hK.out _ _ ⟨(blk_cell BK101.out 0).trans rfl, (blk_cell BK101.out 1).trans rfl, (blk_cell BK101.out 2).trans rfl, (blk_cell BK101.out 3).trans rfl, hHeld.2.2.2.2.1, hHeld.2.2.2.2.2.1, hHeld.2.2.2.2.2.2.1, hHeld.2.2.2.2.2.2.2⟩ (fun hHeld => ?_)
                       clear hK K
                       refine norm_ (a' := ?_) ?_ ?_
                       rotate_left
                       ·show Act.put _ (some 79) _ = _
                        simp only [Act.put, sA, sZ, sS, i64_w, i32_w]
                        rfl
                       refine pure_ (i := 6) (N := some 80) (v := ?_) (a' := ?_) (bl 22 127) rfl rfl (any_of HT_.out (by kernel_rfl)) (fun _ _ _ h => h) (Or.inl ⟨by rfl, ?_⟩) ?_ ?_
                       rotate_left
                       ·intro w'
                        go_simp
                        with_reducible rfl
                       rotate_left
                       ·simp only [Act.put, sA, sZ, sS, i64_w, i32_w]
                        rfl
                       refine pure_ (i := 7) (N := some 81) (v := ?_) (a' := ?_) (bl 22 255) rfl rfl (any_of HT_.out (by kernel_rfl)) (fun _ _ _ h => h) (Or.inl ⟨by rfl, ?_⟩) ?_ ?_
                       rotate_left
                       ·intro w'
                        go_simp
                        with_reducible rfl
                       rotate_left
                       ·simp only [Act.put, sA, sZ, sS, i64_w, i32_w]
                        rfl
                       refine pure_ (i := 8) (N := some 82) (v := ?_) (a' := ?_) (bl 22 511) rfl rfl (any_of HT_.out (by kernel_rfl)) (fun _ _ _ h => h) (Or.inl ⟨by rfl, ?_⟩) ?_ ?_
                       rotate_left
                       ·intro w'
                        go_simp
                        with_reducible rfl
                       rotate_left
                       ·simp only [Act.put, sA, sZ, sS, i64_w, i32_w]
                        rfl
                       refine pure_ (i := 10) (N := some 84) (v := ?_) (a' := ?_) (bl 22 1535) rfl rfl (any_of HT_.out (by kernel_rfl)) (fun _ _ _ h => h) (Or.inl ⟨by rfl, ?_⟩) ?_ ?_
                       rotate_left
                       ·intro w'
                        go_simp
                        with_reducible rfl
                       rotate_left
                       ·simp only [Act.put, sA, sZ, sS, i64_w, i32_w]
                        rfl
                       refine pure_ (i := 11) (N := some 85) (v := ?_) (a' := ?_) (bl 22 3583) rfl rfl (any_of HT_.out (by kernel_rfl)) (fun _ _ _ h => h) (Or.inl ⟨by rfl, ?_⟩) ?_ ?_
                       rotate_left
                       ·intro w'
                        go_simp
                        with_reducible rfl
                       rotate_left
                       ·simp only [Act.put, sA, sZ, sS, i64_w, i32_w]
                        rfl
                       refine pure_ (i := 12) (N := some 86) (v := ?_) (a' := ?_) (bl 22 7679) rfl rfl (any_of HT_.out (by kernel_rfl)) (fun _ _ _ h => h) (Or.inl ⟨by rfl, ?_⟩) ?_ ?_
                       rotate_left
                       ·intro w'
                        go_simp
                        with_reducible rfl
                       rotate_left
                       ·simp only [Act.put, sA, sZ, sS, i64_w, i32_w]
                        rfl
                       refine pure_ (i := 13) (N := some 87) (v := ?_) (a' := ?_) (bl 22 15871) rfl rfl (any_of HT_.out (by kernel_rfl)) (fun _ _ _ h => h) (Or.inl ⟨by rfl, ?_⟩) ?_ ?_
                       rotate_left
                       ·intro w'
                        go_simp
                        with_reducible rfl
                       rotate_left
                       ·simp only [Act.put, sA, sZ, sS, i64_w, i32_w]
                        rfl
                       refine pure_ (i := 15) (N := some 89) (v := ?_) (a' := ?_) (bl 22 48639) rfl rfl (any_of HT_.out (by kernel_rfl)) (fun _ _ _ h => h) (Or.inl ⟨by rfl, ?_⟩) ?_ ?_
                       rotate_left
                       ·intro w'
                        go_simp
                        with_reducible rfl
                       rotate_left
                       ·simp only [Act.put, sA, sZ, sS, i64_w, i32_w]
                        rfl
                       refine pure_ (i := 16) (N := some 90) (v := ?_) (a' := ?_) (bl 22 114175) rfl rfl (any_of HT_.out (by kernel_rfl)) (fun _ _ _ h => h) (Or.inl ⟨by rfl, ?_⟩) ?_ ?_
                       rotate_left
                       ·intro w'
                        go_simp
                        with_reducible rfl
                       rotate_left
                       ·simp only [Act.put, sA, sZ, sS, i64_w, i32_w]
                        rfl
                       refine pure_ (i := 17) (N := some 91) (v := ?_) (a' := ?_) (bl 22 245247) rfl rfl (any_of HT_.out (by kernel_rfl)) (fun _ _ _ h => h) (Or.inl ⟨by rfl, ?_⟩) ?_ ?_
                       rotate_left
                       ·intro w'
                        go_simp
                        with_reducible rfl
                       rotate_left
                       ·simp only [Act.put, sA, sZ, sS, i64_w, i32_w]
                        rfl
                       refine take_ (i := 9) (N := some 83) (v := ?_) (a' := ?_) (bl 22 245759) rfl rfl (take_ofW HT_.out HW_.out (by kernel_rfl)) (fun _ _ _ h => h) (Or.inl ⟨by rfl, ?_⟩) hHeld ?_ ?_
                       rotate_left
                       ·rintro w' ⟨s0, s1, s2, s3, s4, s5, s6, s7⟩
                        go_simp
                        with_reducible rfl
                       rotate_left
                       ·simp only [Act.put, sA, sZ, sS, i64_w, i32_w]
                        rfl
                       refine take_ (i := 14) (N := some 88) (v := ?_) (a' := ?_) (bl 22 262143) rfl rfl (take_ofW HT_.out HW_.out (by kernel_rfl)) (fun _ _ _ h => h) (Or.inl ⟨by rfl, ?_⟩) hHeld ?_ ?_
                       rotate_left
                       ·rintro w' ⟨s0, s1, s2, s3, s4, s5, s6, s7⟩
                        go_simp
                        with_reducible rfl
                       rotate_left
                       ·simp only [Act.put, sA, sZ, sS, i64_w, i32_w]
                        rfl
                       refine take_ (i := 18) (N := some 92) (v := ?_) (a' := ?_) (bl 22 524287) rfl rfl (take_ofW HT_.out HW_.out (by kernel_rfl)) (fun _ _ _ h => h) (Or.inl ⟨by rfl, ?_⟩) hHeld ?_ ?_
                       rotate_left
                       ·rintro w' ⟨s0, s1, s2, s3, s4, s5, s6, s7⟩
                        go_simp
                        with_reducible rfl
                       rotate_left
                       ·simp only [Act.put, sA, sZ, sS, i64_w, i32_w]
                        rfl
                       refine one_ (i := 19) (N := some 93) (bl 22 1048575) rfl rfl (one_of HT_.out (by kernel_rfl)) (by decide) (fun K hK => ?_)
                       refine goes_ Try.func18 (by kernel_rfl) rfl #[.slice (some ad110) l0_0.length c0_0, .int .i64 ((rd_T52 t104 x5_1).place), .string (rdOf ByteArray.empty t112 x10_4)] (by rfl) rfl rfl (by (try simp only [List.map_toArray, List.map_cons, List.map_nil]); first | done | rfl | (simp only [List.length_drop, List.length_take]; rfl)) ?_
                       with_reducible refine (cfg_Lives.calls k4 _ _ l0_0 ((rd_T52 t104 x5_1).place) (rdOf ByteArray.empty t112 x10_4) true _ ?side1 ?side2 A48.out).mono ?_
                       (case side1 => repeat (first | exact (Kd.C_below HR0_0.out (by repeat (first | (with_reducible first | exact HB.out | apply lA | apply lN | apply lD | refine lS ?_ GE101.out | refine lS ?_ GE111.out) | exact HB.out))) | (with_reducible refine Kd.C_alloc ?_ _) | (with_reducible refine Kd.C_drewN ?_ _) | (with_reducible refine Kd.C_drew ?_)))
                       (case side2 => exact HC0_0.out)
                       rintro e w53 ⟨rfl, hb⟩
                       have HS4_ := (hb.cell (blt_ (hHeld.2.2.2.2.1))).trans (hHeld.2.2.2.2.1)
                       have HS5_ := (hb.cell (blt_ (hHeld.2.2.2.2.2.1))).trans (hHeld.2.2.2.2.2.1)
                       have HS6_ := (hb.cell (blt_ (hHeld.2.2.2.2.2.2.1))).trans (hHeld.2.2.2.2.2.2.1)
                       have HS7_ := (hb.cell (blt_ (hHeld.2.2.2.2.2.2.2))).trans (hHeld.2.2.2.2.2.2.2)
                       refine ⟨_, rfl, ?_⟩
                       replace HO_4 := am (Kd.S_below (by (with_reducible repeat (first | apply Kd.S_alloc | apply Kd.S_drewN | apply Kd.S_drew)); exact HO_4.out) hb)
                       replace HO_6 := am (Kd.R_below (by (with_reducible repeat (first | apply Ra | apply Rn | apply Rd)); exact HO_6.out) hb)
                       replace HO_9 := am (Kd.R_below (by (with_reducible repeat (first | apply Ra | apply Rn | apply Rd)); exact HO_9.out) hb)
                       replace HL122_1 := am (Kd.R_below (by (with_reducible repeat (first | apply Ra | apply Rn | apply Rd)); exact HL122_1.out) hb)
                       replace BK101 := am (blk_below (g := gb101) (o := .cells #[.slice (some ad110) l0_0.length c0_0, .slice A0_1 l0_1.length c0_1, .slice A0_2 l0_2.length c0_2, .int .i64 a0_3] 43 (0, 0)) (by (with_reducible repeat (first | refine bN ?_ _ | refine bD ?_ | refine bA ?_ _)); exact BK101.out) hb)
                       replace BK111 := am (blk_below (g := gb111) (o := .cells #[.int .i64 ((rd_T30 l0_0 ((rd_T52 t104 x7_2).place)).kind), .string ((rd_T30 l0_0 ((rd_T52 t104 x7_2).place)).x), .string ((rd_T30 l0_0 ((rd_T52 t104 x7_2).place)).y), .string ((rd_T30 l0_0 ((rd_T52 t104 x7_2).place)).z), .string ((rd_T30 l0_0 ((rd_T52 t104 x7_2).place)).op), .int .i64 ((rd_T30 l0_0 ((rd_T52 t104 x7_2).place)).n), .int .i64 ((rd_T30 l0_0 ((rd_T52 t104 x7_2).place)).a), .int .i64 ((rd_T30 l0_0 ((rd_T52 t104 x7_2).place)).b)] 30 (0, 0)) (by (with_reducible repeat (first | refine bN ?_ _ | refine bD ?_ | refine bA ?_ _)); exact BK111.out) hb)
                       replace HR109_1 := am (Kd.C_below (by first | (with_reducible exact HR109_1.out) | (with_reducible exact Kd.C_drewN HR109_1.out _) | (repeat (first | (with_reducible exact HR109_1.out) | (with_reducible refine Kd.C_alloc ?_ _) | (with_reducible refine Kd.C_drewN ?_ _) | (with_reducible refine Kd.C_drew ?_) | exact HR109_1.out))) hb)
                       replace HR122_1 := am (Kd.C_below (by first | (with_reducible exact HR122_1.out) | (with_reducible exact Kd.C_drewN HR122_1.out _) | (repeat (first | (with_reducible exact HR122_1.out) | (with_reducible refine Kd.C_alloc ?_ _) | (with_reducible refine Kd.C_drewN ?_ _) | (with_reducible refine Kd.C_drew ?_) | exact HR122_1.out))) hb)
                       replace HB := am (below_step (by repeat (first | (with_reducible first | exact HB.out | apply lA | apply lN | apply lD | refine lS ?_ GE101.out | refine lS ?_ GE111.out) | exact HB.out)) hb)
                       (try clear hb)
                       (try clear hb2)
                       (try clear hk)
                       (try clear hi)
                       refine hK.out _ _ ⟨(blk_cell BK101.out 0).trans rfl, (blk_cell BK101.out 1).trans rfl, (blk_cell BK101.out 2).trans rfl, (blk_cell BK101.out 3).trans rfl, HS4_, HS5_, HS6_, HS7_⟩ (fun hHeld => ?_)
                       clear hK K
                       refine norm_ (a' := ?_) ?_ ?_
                       rotate_left
                       ·show Act.put _ (some 93) _ = _
                        simp only [Act.put, sA, sZ, sS, i64_w, i32_w]
                        rfl
                       refine pure_ (i := 20) (N := some 94) (v := ?_) (a' := ?_) (bl 22 2097151) rfl rfl (any_of HT_.out (by kernel_rfl)) (fun _ _ _ h => h) (Or.inl ⟨by rfl, ?_⟩) ?_ ?_
                       rotate_left
                       ·intro w'
                        go_simp
                        with_reducible rfl
                       rotate_left
                       ·simp only [Act.put, sA, sZ, sS, i64_w, i32_w]
                        rfl
                       refine pure_ (i := 21) (N := some 95) (v := ?_) (a' := ?_) (bl 22 4194303) rfl rfl (any_of HT_.out (by kernel_rfl)) (fun _ _ _ h => h) (Or.inl ⟨by rfl, ?_⟩) ?_ ?_
                       rotate_left
                       ·intro w'
                        go_simp
                        with_reducible rfl
                       rotate_left
                       ·simp only [Act.put, sA, sZ, sS, i64_w, i32_w]
                        rfl
                       refine done_ (done_of HT_.out (by kernel_rfl)) ?_
                       try go_wp2
                       go_roundg k4
                       case measure => have := HK1.out; have := HK2.out; have := HJ14.out; have := HK4.out; omega
                       case rel => exact ⟨(wrap64 (x10_4 + 1)), (by first | rfl | (simp; done) | (simp [*]; done)), H', ⟨by have := HK1.out; have := HK2.out; have := HJ14.out; have := HK4.out; omega⟩, ⟨by (with_reducible repeat (first | apply Kd.S_alloc | apply Kd.S_drewN | apply Kd.S_drew)); exact HO_4.out⟩, ⟨by (with_reducible repeat (first | apply Ra | apply Rn | apply Rd)); exact HO_6.out⟩, ⟨by (with_reducible repeat (first | apply Ra | apply Rn | apply Rd)); exact HO_9.out⟩, ⟨by (with_reducible repeat (first | refine bN ?_ _ | refine bD ?_ | refine bA ?_ _)); exact BK101.out⟩, ⟨by (with_reducible repeat (first | refine bN ?_ _ | refine bD ?_ | refine bA ?_ _)); exact BK111.out⟩, ⟨by repeat (first | (with_reducible exact HR109_1.out) | (with_reducible refine Kd.C_alloc ?_ _) | (with_reducible refine Kd.C_drewN ?_ _) | (with_reducible refine Kd.C_drew ?_) | exact HR109_1.out)⟩, ⟨by repeat (first | (with_reducible first | exact HB.out | apply lA | apply lN | apply lD | refine lS ?_ GE101.out | refine lS ?_ GE111.out) | exact HB.out)⟩⟩
                      ·replace c49 := Bool.eq_false_iff.mpr c49
                       subst c49
                       have H1 : (some false) = some r := by rw [if_neg (show ¬ (false = true) by decide)] at H; exact H
                       clear H
                       have H := H1
                       clear H1
                       obtain rfl := Option.some.inj H
                       obtain ⟨Ao54, co54, eo54⟩ := Kd.R_slice HO_9.out
                       subst eo54
                       try go_wp2
                       replace HO_4 := am (Kd.S_drew HO_4.out)
                       replace HO_6 := am (Kd.R_drew HO_6.out)
                       replace HO_9 := am (Kd.R_drew HO_9.out)
                       replace BK101 := am (blk_drew BK101.out)
                       replace BK111 := am (blk_drew BK111.out)
                       replace HR109_1 := am (Kd.C_drew HR109_1.out)
                       replace HB := am (below_drew1 HB.out)
                       have p120 : 0 ≤ (x10_4 : Int) := of_decide_eq_true (by first | (with_reducible assumption) | assumption)
                       have q120 : x10_4 < (t112.length : Int) := of_decide_eq_true (by first | (with_reducible assumption) | assumption)
                       obtain ⟨ad120, e120, hx120_0⟩ := Kd.at_string (Kd.R_reads' HO_9.out).2.2 x10_4 p120 q120
                       cases e120
                       replace p120 := eq_true p120
                       replace q120 := eq_true q120
                       obtain ⟨Ao56, co56, eo56⟩ := Kd.R_slice HO_6.out
                       (first | subst eo56 | (injection eo56 with f1_ f2_ f3_; have f4_ := f1_.symm; have f5_ := f3_.symm; clear f1_ f2_ f3_; subst f4_; subst f5_))
                       have p122 : 0 ≤ (x5_1 : Int) := of_decide_eq_true (by first | (with_reducible assumption) | assumption)
                       have q122 : x5_1 < (t104.length : Int) := of_decide_eq_true (by first | (with_reducible assumption) | assumption)
                       obtain ⟨ad122, A122_1, c122_1, e122, hx122_0, hx122_1, hl122_1, hi122_1⟩ := at_T52 (Kd.S_reads' HO_4.out).2.2 x5_1 p122 q122
                       obtain rfl : ad109 = ad122 := (by injection e122)
                       obtain ⟨ce122, hce122, hMe122, hcc122⟩ := Kd.S_get HO_4.out z52 x5_1 p122 (by first | exact q122 | exact of_decide_eq_true (by first | (with_reducible assumption) | assumption) | (have e_ := (Kd.S_reads' HO_4.out).1; omega))
                       obtain ⟨ve122_1, rfl, ge122_1⟩ := k52_openM hMe122
                       have hv122_1 := hcc122 1 _ rfl
                       rw [add_field _ _ 1 (by omega)] at hv122_1
                       replace hv122_1 := Option.some.inj (hv122_1.symm.trans hx122_1)
                       rw [hv122_1] at ge122_1
                       have HL122_1 := am (show Kd.R k54 54 _ _ _ _ ((rd_T52 t104 x5_1).vars) from ge122_1)
                       clear hv122_1 ge122_1
                       clear hcc122 hce122
                       have HR122_1 := am hi122_1
                       have HC122_1 := am hl122_1
                       clear hi122_1 hl122_1
                       replace p122 := eq_true p122
                       replace q122 := eq_true q122
                       have p123 : 0 ≤ (x10_4 : Int) := of_decide_eq_true (by first | (with_reducible assumption) | assumption)
                       have q123 : x10_4 < (t112.length : Int) := of_decide_eq_true (by first | (with_reducible assumption) | assumption)
                       obtain ⟨ad123, e123, hx123_0⟩ := Kd.at_string (Kd.R_reads' HO_9.out).2.2 x10_4 p123 q123
                       obtain rfl : ad120 = ad123 := (by injection e123)
                       replace p123 := eq_true p123
                       replace q123 := eq_true q123
                       refine start_ (n := 22) (S := fun w' => w'.cell? ⟨gb101, 0, none⟩ = some (.slice (some ad110) l0_0.length c0_0) ∧ w'.cell? ⟨gb101, 1, none⟩ = some (.slice A0_1 l0_1.length c0_1) ∧ w'.cell? ⟨gb101, 2, none⟩ = some (.slice A0_2 l0_2.length c0_2) ∧ w'.cell? ⟨gb101, 3, none⟩ = some (.int .i64 a0_3) ∧ w'.cell? (ad120.add (x10_4).toNat) = some (.string (rdOf ByteArray.empty t112 x10_4)) ∧ w'.cell? (ad109.add ((x5_1).toNat * 2)) = some (.int .i64 ((rd_T52 t104 x5_1).place)) ∧ w'.cell? ⟨(ad109.add ((x5_1).toNat * 2)).block, (ad109.add ((x5_1).toNat * 2)).off + 1, none⟩ = some (.slice A122_1 ((rd_T52 t104 x5_1).vars).length c122_1) ∧ w'.cell? (ad120.add (x10_4).toNat) = some (.string (rdOf ByteArray.empty t112 x10_4))) (ds := []) (bl 22 0) (by kernel_rfl) rfl rfl ⟨(blk_cell BK101.out 0).trans rfl, (blk_cell BK101.out 1).trans rfl, (blk_cell BK101.out 2).trans rfl, (blk_cell BK101.out 3).trans rfl, hx120_0, hx122_0, hx122_1, hx123_0⟩ (fun hHeld => ?_); refine with_tabW lambrequinlaw22_InterpLives.tab19 lambrequinlaw22_InterpLives.bits19 (fun HT_ HW_ => ?_)
                       generalize wr.drew = w55 at HO_4 HO_6 HO_9 BK101 BK111 HR109_1 HB HL122_1 HR122_1 hx120_0 hx122_0 hx122_1 hx123_0 hHeld ⊢
                       refine pure_ (i := 0) (N := some 74) (v := ?_) (a' := ?_) (bl 22 1) rfl rfl (any_of HT_.out (by kernel_rfl)) (fun _ _ _ h => h) (Or.inl ⟨by rfl, ?_⟩) ?_ ?_
                       rotate_left
                       ·intro w'
                        go_simp
                        with_reducible rfl
                       rotate_left
                       ·simp only [Act.put, sA, sZ, sS, i64_w, i32_w]
                        rfl
                       refine pure_ (i := 1) (N := some 75) (v := ?_) (a' := ?_) (bl 22 3) rfl rfl (any_of HT_.out (by kernel_rfl)) (fun _ _ _ h => h) (Or.inl ⟨by rfl, ?_⟩) ?_ ?_
                       rotate_left
                       ·intro w'
                        go_simp
                        with_reducible rfl
                       rotate_left
                       ·simp only [Act.put, sA, sZ, sS, i64_w, i32_w]
                        rfl
                       refine pure_ (i := 2) (N := some 76) (v := ?_) (a' := ?_) (bl 22 7) rfl rfl (any_of HT_.out (by kernel_rfl)) (fun _ _ _ h => h) (Or.inl ⟨by rfl, ?_⟩) ?_ ?_
                       rotate_left
                       ·intro w'
                        go_simp
                        with_reducible rfl
                       rotate_left
                       ·simp only [Act.put, sA, sZ, sS, i64_w, i32_w]
                        rfl
                       refine pure_ (i := 3) (N := some 77) (v := ?_) (a' := ?_) (bl 22 15) rfl rfl (any_of HT_.out (by kernel_rfl)) (fun _ _ _ h => h) (Or.inl ⟨by rfl, ?_⟩) ?_ ?_
                       rotate_left
                       ·intro w'
                        go_simp
                        with_reducible rfl
                       rotate_left
                       ·simp only [Act.put, sA, sZ, sS, i64_w, i32_w]
                        rfl
                       refine take_ (i := 4) (N := some 78) (v := ?_) (a' := ?_) (bl 22 31) rfl rfl (take_ofW HT_.out HW_.out (by kernel_rfl)) (fun _ _ _ h => h) (Or.inl ⟨by rfl, ?_⟩) hHeld ?_ ?_
                       rotate_left
                       ·rintro w' ⟨s0, s1, s2, s3, s4, s5, s6, s7⟩
                        go_simp
                        with_reducible rfl
                       rotate_left
                       ·simp only [Act.put, sA, sZ, sS, i64_w, i32_w]
                        rfl
                       refine one_ (i := 5) (N := some 79) (bl 22 63) rfl rfl (one_of HT_.out (by kernel_rfl)) (by decide) (fun K hK => ?_)
                       refine goes_ Try.func21 (by kernel_rfl) rfl #[.slice Ao56 x6_2.length co56, .string (rdOf ByteArray.empty t112 x10_4)] (by rfl) rfl rfl (by (try simp only [List.map_toArray, List.map_cons, List.map_nil]); first | done | rfl | (simp only [List.length_drop, List.length_take]; rfl)) ?_
                       with_reducible refine (lambrequinref09_In.calls k4 _ _ x6_2 (rdOf ByteArray.empty t112 x10_4) false _ ?side1 ?side2 A41.out).mono ?_
                       (case side1 => repeat (first | exact (Kd.R_reads' HO_6.out).2.2 | (with_reducible refine Kd.C_alloc ?_ _) | (with_reducible refine Kd.C_drewN ?_ _) | (with_reducible refine Kd.C_drew ?_)))
                       (case side2 => exact (Kd.R_reads' HO_6.out).2.1)
                       rintro e w' ⟨rfl, ⟨nd, rfl⟩⟩
                       refine ⟨_, rfl, ?_⟩
                       refine hK.out _ _ ⟨(blk_cell BK101.out 0).trans rfl, (blk_cell BK101.out 1).trans rfl, (blk_cell BK101.out 2).trans rfl, (blk_cell BK101.out 3).trans rfl, hHeld.2.2.2.2.1, hHeld.2.2.2.2.2.1, hHeld.2.2.2.2.2.2.1, hHeld.2.2.2.2.2.2.2⟩ (fun hHeld => ?_)
                       clear hK K
                       refine norm_ (a' := ?_) ?_ ?_
                       rotate_left
                       ·show Act.put _ (some 79) _ = _
                        simp only [Act.put, sA, sZ, sS, i64_w, i32_w]
                        rfl
                       refine pure_ (i := 6) (N := some 80) (v := ?_) (a' := ?_) (bl 22 127) rfl rfl (any_of HT_.out (by kernel_rfl)) (fun _ _ _ h => h) (Or.inl ⟨by rfl, ?_⟩) ?_ ?_
                       rotate_left
                       ·intro w'
                        go_simp
                        with_reducible rfl
                       rotate_left
                       ·simp only [Act.put, sA, sZ, sS, i64_w, i32_w]
                        rfl
                       refine pure_ (i := 7) (N := some 81) (v := ?_) (a' := ?_) (bl 22 255) rfl rfl (any_of HT_.out (by kernel_rfl)) (fun _ _ _ h => h) (Or.inl ⟨by rfl, ?_⟩) ?_ ?_
                       rotate_left
                       ·intro w'
                        go_simp
                        with_reducible rfl
                       rotate_left
                       ·simp only [Act.put, sA, sZ, sS, i64_w, i32_w]
                        rfl
                       refine pure_ (i := 8) (N := some 82) (v := ?_) (a' := ?_) (bl 22 511) rfl rfl (any_of HT_.out (by kernel_rfl)) (fun _ _ _ h => h) (Or.inl ⟨by rfl, ?_⟩) ?_ ?_
                       rotate_left
                       ·intro w'
                        go_simp
                        with_reducible rfl
                       rotate_left
                       ·simp only [Act.put, sA, sZ, sS, i64_w, i32_w]
                        rfl
                       refine pure_ (i := 10) (N := some 84) (v := ?_) (a' := ?_) (bl 22 1535) rfl rfl (any_of HT_.out (by kernel_rfl)) (fun _ _ _ h => h) (Or.inl ⟨by rfl, ?_⟩) ?_ ?_
                       rotate_left
                       ·intro w'
                        go_simp
                        with_reducible rfl
                       rotate_left
                       ·simp only [Act.put, sA, sZ, sS, i64_w, i32_w]
                        rfl
                       refine pure_ (i := 11) (N := some 85) (v := ?_) (a' := ?_) (bl 22 3583) rfl rfl (any_of HT_.out (by kernel_rfl)) (fun _ _ _ h => h) (Or.inl ⟨by rfl, ?_⟩) ?_ ?_
                       rotate_left
                       ·intro w'
                        go_simp
                        with_reducible rfl
                       rotate_left
                       ·simp only [Act.put, sA, sZ, sS, i64_w, i32_w]
                        rfl
                       refine pure_ (i := 12) (N := some 86) (v := ?_) (a' := ?_) (bl 22 7679) rfl rfl (any_of HT_.out (by kernel_rfl)) (fun _ _ _ h => h) (Or.inl ⟨by rfl, ?_⟩) ?_ ?_
                       rotate_left
                       ·intro w'
                        go_simp
                        with_reducible rfl
                       rotate_left
                       ·simp only [Act.put, sA, sZ, sS, i64_w, i32_w]
                        rfl
                       refine pure_ (i := 13) (N := some 87) (v := ?_) (a' := ?_) (bl 22 15871) rfl rfl (any_of HT_.out (by kernel_rfl)) (fun _ _ _ h => h) (Or.inl ⟨by rfl, ?_⟩) ?_ ?_
                       rotate_left
                       ·intro w'
                        go_simp
                        with_reducible rfl
                       rotate_left
                       ·simp only [Act.put, sA, sZ, sS, i64_w, i32_w]
                        rfl
                       refine pure_ (i := 15) (N := some 89) (v := ?_) (a' := ?_) (bl 22 48639) rfl rfl (any_of HT_.out (by kernel_rfl)) (fun _ _ _ h => h) (Or.inl ⟨by rfl, ?_⟩) ?_ ?_
                       rotate_left
                       ·intro w'
                        go_simp
                        with_reducible rfl
                       rotate_left
                       ·simp only [Act.put, sA, sZ, sS, i64_w, i32_w]
                        rfl
                       refine pure_ (i := 16) (N := some 90) (v := ?_) (a' := ?_) (bl 22 114175) rfl rfl (any_of HT_.out (by kernel_rfl)) (fun _ _ _ h => h) (Or.inl ⟨by rfl, ?_⟩) ?_ ?_
                       rotate_left
                       ·intro w'
                        go_simp
                        with_reducible rfl
                       rotate_left
                       ·simp only [Act.put, sA, sZ, sS, i64_w, i32_w]
                        rfl
                       refine pure_ (i := 17) (N := some 91) (v := ?_) (a' := ?_) (bl 22 245247) rfl rfl (any_of HT_.out (by kernel_rfl)) (fun _ _ _ h => h) (Or.inl ⟨by rfl, ?_⟩) ?_ ?_
                       rotate_left
                       ·intro w'
                        go_simp
                        with_reducible rfl
                       rotate_left
                       ·simp only [Act.put, sA, sZ, sS, i64_w, i32_w]
                        rfl
                       refine take_ (i := 9) (N := some 83) (v := ?_) (a' := ?_) (bl 22 245759) rfl rfl (take_ofW HT_.out HW_.out (by kernel_rfl)) (fun _ _ _ h => h) (Or.inl ⟨by rfl, ?_⟩) hHeld ?_ ?_
                       rotate_left
                       ·rintro w' ⟨s0, s1, s2, s3, s4, s5, s6, s7⟩
                        go_simp
                        with_reducible rfl
                       rotate_left
                       ·simp only [Act.put, sA, sZ, sS, i64_w, i32_w]
                        rfl
                       refine take_ (i := 14) (N := some 88) (v := ?_) (a' := ?_) (bl 22 262143) rfl rfl (take_ofW HT_.out HW_.out (by kernel_rfl)) (fun _ _ _ h => h) (Or.inl ⟨by rfl, ?_⟩) hHeld ?_ ?_
                       rotate_left
                       ·rintro w' ⟨s0, s1, s2, s3, s4, s5, s6, s7⟩
                        go_simp
                        with_reducible rfl
                       rotate_left
                       ·simp only [Act.put, sA, sZ, sS, i64_w, i32_w]
                        rfl
                       refine take_ (i := 18) (N := some 92) (v := ?_) (a' := ?_) (bl 22 524287) rfl rfl (take_ofW HT_.out HW_.out (by kernel_rfl)) (fun _ _ _ h => h) (Or.inl ⟨by rfl, ?_⟩) hHeld ?_ ?_
                       rotate_left
                       ·rintro w' ⟨s0, s1, s2, s3, s4, s5, s6, s7⟩
                        go_simp
                        with_reducible rfl
                       rotate_left
                       ·simp only [Act.put, sA, sZ, sS, i64_w, i32_w]
                        rfl
                       refine one_ (i := 19) (N := some 93) (bl 22 1048575) rfl rfl (one_of HT_.out (by kernel_rfl)) (by decide) (fun K hK => ?_)
                       refine goes_ Try.func18 (by kernel_rfl) rfl #[.slice (some ad110) l0_0.length c0_0, .int .i64 ((rd_T52 t104 x5_1).place), .string (rdOf ByteArray.empty t112 x10_4)] (by rfl) rfl rfl (by (try simp only [List.map_toArray, List.map_cons, List.map_nil]); first | done | rfl | (simp only [List.length_drop, List.length_take]; rfl)) ?_
                       with_reducible refine (cfg_Lives.calls k4 _ _ l0_0 ((rd_T52 t104 x5_1).place) (rdOf ByteArray.empty t112 x10_4) false _ ?side1 ?side2 A48.out).mono ?_
                       (case side1 => repeat (first | exact (Kd.C_below HR0_0.out (by repeat (first | (with_reducible first | exact HB.out | apply lA | apply lN | apply lD | refine lS ?_ GE101.out | refine lS ?_ GE111.out) | exact HB.out))) | (with_reducible refine Kd.C_alloc ?_ _) | (with_reducible refine Kd.C_drewN ?_ _) | (with_reducible refine Kd.C_drew ?_)))
                       (case side2 => exact HC0_0.out)
                       rintro e w57 ⟨rfl, hb⟩
                       have HS4_ := (hb.cell (blt_ (hHeld.2.2.2.2.1))).trans (hHeld.2.2.2.2.1)
                       have HS5_ := (hb.cell (blt_ (hHeld.2.2.2.2.2.1))).trans (hHeld.2.2.2.2.2.1)
                       have HS6_ := (hb.cell (blt_ (hHeld.2.2.2.2.2.2.1))).trans (hHeld.2.2.2.2.2.2.1)
                       have HS7_ := (hb.cell (blt_ (hHeld.2.2.2.2.2.2.2))).trans (hHeld.2.2.2.2.2.2.2)
                       refine ⟨_, rfl, ?_⟩
                       replace HO_4 := am (Kd.S_below (by (with_reducible repeat (first | apply Kd.S_alloc | apply Kd.S_drewN | apply Kd.S_drew)); exact HO_4.out) hb)
                       replace HO_6 := am (Kd.R_below (by (with_reducible repeat (first | apply Ra | apply Rn | apply Rd)); exact HO_6.out) hb)
                       replace HO_9 := am (Kd.R_below (by (with_reducible repeat (first | apply Ra | apply Rn | apply Rd)); exact HO_9.out) hb)
                       replace HL122_1 := am (Kd.R_below (by (with_reducible repeat (first | apply Ra | apply Rn | apply Rd)); exact HL122_1.out) hb)
                       replace BK101 := am (blk_below (g := gb101) (o := .cells #[.slice (some ad110) l0_0.length c0_0, .slice A0_1 l0_1.length c0_1, .slice A0_2 l0_2.length c0_2, .int .i64 a0_3] 43 (0, 0)) (by (with_reducible repeat (first | refine bN ?_ _ | refine bD ?_ | refine bA ?_ _)); exact BK101.out) hb)
                       replace BK111 := am (blk_below (g := gb111) (o := .cells #[.int .i64 ((rd_T30 l0_0 ((rd_T52 t104 x7_2).place)).kind), .string ((rd_T30 l0_0 ((rd_T52 t104 x7_2).place)).x), .string ((rd_T30 l0_0 ((rd_T52 t104 x7_2).place)).y), .string ((rd_T30 l0_0 ((rd_T52 t104 x7_2).place)).z), .string ((rd_T30 l0_0 ((rd_T52 t104 x7_2).place)).op), .int .i64 ((rd_T30 l0_0 ((rd_T52 t104 x7_2).place)).n), .int .i64 ((rd_T30 l0_0 ((rd_T52 t104 x7_2).place)).a), .int .i64 ((rd_T30 l0_0 ((rd_T52 t104 x7_2).place)).b)] 30 (0, 0)) (by (with_reducible repeat (first | refine bN ?_ _ | refine bD ?_ | refine bA ?_ _)); exact BK111.out) hb)
                       replace HR109_1 := am (Kd.C_below (by first | (with_reducible exact HR109_1.out) | (with_reducible exact Kd.C_drewN HR109_1.out _) | (repeat (first | (with_reducible exact HR109_1.out) | (with_reducible refine Kd.C_alloc ?_ _) | (with_reducible refine Kd.C_drewN ?_ _) | (with_reducible refine Kd.C_drew ?_) | exact HR109_1.out))) hb)
                       replace HR122_1 := am (Kd.C_below (by first | (with_reducible exact HR122_1.out) | (with_reducible exact Kd.C_drewN HR122_1.out _) | (repeat (first | (with_reducible exact HR122_1.out) | (with_reducible refine Kd.C_alloc ?_ _) | (with_reducible refine Kd.C_drewN ?_ _) | (with_reducible refine Kd.C_drew ?_) | exact HR122_1.out))) hb)
                       replace HB := am (below_step (by repeat (first | (with_reducible first | exact HB.out | apply lA | apply lN | apply lD | refine lS ?_ GE101.out | refine lS ?_ GE111.out) | exact HB.out)) hb)
                       (try clear hb)
                       (try clear hb2)
                       (try clear hk)
                       (try clear hi)
                       refine hK.out _ _ ⟨(blk_cell BK101.out 0).trans rfl, (blk_cell BK101.out 1).trans rfl, (blk_cell BK101.out 2).trans rfl, (blk_cell BK101.out 3).trans rfl, HS4_, HS5_, HS6_, HS7_⟩ (fun hHeld => ?_)
                       clear hK K
                       refine norm_ (a' := ?_) ?_ ?_
                       rotate_left
                       ·show Act.put _ (some 93) _ = _
                        simp only [Act.put, sA, sZ, sS, i64_w, i32_w]
                        rfl
                       refine pure_ (i := 20) (N := some 94) (v := ?_) (a' := ?_) (bl 22 2097151) rfl rfl (any_of HT_.out (by kernel_rfl)) (fun _ _ _ h => h) (Or.inl ⟨by rfl, ?_⟩) ?_ ?_
                       rotate_left
                       ·intro w'
                        go_simp
                        with_reducible rfl
                       rotate_left
                       ·simp only [Act.put, sA, sZ, sS, i64_w, i32_w]
                        rfl
                       refine pure_ (i := 21) (N := some 95) (v := ?_) (a' := ?_) (bl 22 4194303) rfl rfl (any_of HT_.out (by kernel_rfl)) (fun _ _ _ h => h) (Or.inl ⟨by rfl, ?_⟩) ?_ ?_
                       rotate_left
                       ·intro w'
                        go_simp
                        with_reducible rfl
                       rotate_left
                       ·simp only [Act.put, sA, sZ, sS, i64_w, i32_w]
                        rfl
                       refine done_ (done_of HT_.out (by kernel_rfl)) ?_
                       try go_wp2
                       go_ret
                       exact ⟨by first | rfl | (simp [errW_none, errW_some] <;> rfl) | (simp [*, errW_none, errW_some] <;> rfl), by repeat (first | (with_reducible first | exact HB.out | apply lA | apply lN | apply lD | refine lS ?_ GE101.out | refine lS ?_ GE111.out) | exact HB.out)⟩
                     ·rw [if_neg c47] at H
                      exact absurd H (by simp)
                    ·rw [if_neg c46] at H
                     exact absurd H (by simp)
                  ·rw [if_neg c40] at H
                   exact absurd H (by simp)
                 ·rw [if_neg c39] at H
                  have c39b0 : decide (x10_4 < (t112.length : Int)) = false := decide_eq_false c39
                  clear c39
                  replace H := Option.bind_eq_some_iff.mp H
                  obtain ⟨⟨t115, t116⟩, A580, H⟩ := H
                  replace H : (if t116 = true then (if x6_2.length < 8796093022208 then (lambrequinlaw22_InterpLives.l1 k4 t102 t104 x5_1 (x6_2 ++ [t115]) (wrap64 (x7_2 + 1)) l0_0 l0_1 l0_2 a0_3) else (none)) else (lambrequinlaw22_InterpLives.l1 k4 t102 t104 x5_1 x6_2 (wrap64 (x7_2 + 1)) l0_0 l0_1 l0_2 a0_3)) = some r := H
                  have A58 := am A580
                  clear A580
                  by_cases c59 : t116 = true
                  ·subst c59
                   have H1 : (if x6_2.length < 8796093022208 then (lambrequinlaw22_InterpLives.l1 k4 t102 t104 x5_1 (x6_2 ++ [t115]) (wrap64 (x7_2 + 1)) l0_0 l0_1 l0_2 a0_3) else (none)) = some r := by rw [if_pos rfl] at H; exact H
                   clear H
                   have H := H1
                   clear H1
                   by_cases c60 : x6_2.length < 8796093022208
                   ·rw [if_pos c60] at H
                    have LMc60 := am c60
                    clear c60
                    obtain ⟨y117, hy117⟩ : ∃ y_ : List ByteArray, y_ = (x6_2 ++ [t115]) := ⟨_, rfl⟩
                    replace H : (lambrequinlaw22_InterpLives.l1 k4 t102 t104 x5_1 y117 (wrap64 (x7_2 + 1)) l0_0 l0_1 l0_2 a0_3) = some r := by first | (rw [hy117]; with_reducible exact H) | (have H2_ := (Option.bind_some _ _).symm.trans H; rw [hy117]; with_reducible exact H2_) | (have H2_ := (Option.bind_some _ _).symm.trans H; with_reducible exact H2_) | with_reducible exact H | (rw [hy117]; exact H) | exact H
                    have Ny117 := am hy117
                    clear hy117
                    have H' := am H
                    clear H
                    obtain ⟨Ao61, co61, eo61⟩ := Kd.R_slice HO_9.out
                    subst eo61
                    have hnb62 := NB111_101.out
                    have hnc62 := NB101_111.out
                    have hcz63_0 : wr.cell? ⟨gb111, 0, none⟩ = some (.int .i64 ((rd_T30 l0_0 ((rd_T52 t104 x7_2).place)).kind)) := (blk_cell BK111.out 0).trans rfl
                    have hcz63_1 : wr.cell? ⟨gb111, 1, none⟩ = some (.string ((rd_T30 l0_0 ((rd_T52 t104 x7_2).place)).x)) := (blk_cell BK111.out 1).trans rfl
                    have hcz63_2 : wr.cell? ⟨gb111, 2, none⟩ = some (.string ((rd_T30 l0_0 ((rd_T52 t104 x7_2).place)).y)) := (blk_cell BK111.out 2).trans rfl
                    have hcz63_3 : wr.cell? ⟨gb111, 3, none⟩ = some (.string ((rd_T30 l0_0 ((rd_T52 t104 x7_2).place)).z)) := (blk_cell BK111.out 3).trans rfl
                    have hcz63_4 : wr.cell? ⟨gb111, 4, none⟩ = some (.string ((rd_T30 l0_0 ((rd_T52 t104 x7_2).place)).op)) := (blk_cell BK111.out 4).trans rfl
                    have hcz63_5 : wr.cell? ⟨gb111, 5, none⟩ = some (.int .i64 ((rd_T30 l0_0 ((rd_T52 t104 x7_2).place)).n)) := (blk_cell BK111.out 5).trans rfl
                    have hcz63_6 : wr.cell? ⟨gb111, 6, none⟩ = some (.int .i64 ((rd_T30 l0_0 ((rd_T52 t104 x7_2).place)).a)) := (blk_cell BK111.out 6).trans rfl
                    have hcz63_7 : wr.cell? ⟨gb111, 7, none⟩ = some (.int .i64 ((rd_T30 l0_0 ((rd_T52 t104 x7_2).place)).b)) := (blk_cell BK111.out 7).trans rfl
                    have hfz63_0 := blk_frozen BK111.out 0
                    have hfz63_1 := blk_frozen BK111.out 1
                    have hfz63_2 := blk_frozen BK111.out 2
                    have hfz63_3 := blk_frozen BK111.out 3
                    have hfz63_4 := blk_frozen BK111.out 4
                    have hfz63_5 := blk_frozen BK111.out 5
                    have hfz63_6 := blk_frozen BK111.out 6
                    have hfz63_7 := blk_frozen BK111.out 7
                    go_wp2_with (first | ((with_reducible refine gate_callee (f := 20) rfl ?_); refine goesL_ (some 98) rfl rfl Try.func20 (by kernel_rfl) rfl #[.agg #[.int .i64 ((rd_T30 l0_0 ((rd_T52 t104 x7_2).place)).kind), .string ((rd_T30 l0_0 ((rd_T52 t104 x7_2).place)).x), .string ((rd_T30 l0_0 ((rd_T52 t104 x7_2).place)).y), .string ((rd_T30 l0_0 ((rd_T52 t104 x7_2).place)).z), .string ((rd_T30 l0_0 ((rd_T52 t104 x7_2).place)).op), .int .i64 ((rd_T30 l0_0 ((rd_T52 t104 x7_2).place)).n), .int .i64 ((rd_T30 l0_0 ((rd_T52 t104 x7_2).place)).a), .int .i64 ((rd_T30 l0_0 ((rd_T52 t104 x7_2).place)).b)]] rfl (by (try simp only [List.map_toArray, List.map_cons, List.map_nil]); first | done | rfl | (simp only [List.length_drop, List.length_take]; rfl)) ?_; (with_reducible refine (cfg_Def.calls ((rd_T30 l0_0 ((rd_T52 t104 x7_2).place)).kind) ((rd_T30 l0_0 ((rd_T52 t104 x7_2).place)).x) ((rd_T30 l0_0 ((rd_T52 t104 x7_2).place)).y) ((rd_T30 l0_0 ((rd_T52 t104 x7_2).place)).z) ((rd_T30 l0_0 ((rd_T52 t104 x7_2).place)).op) ((rd_T30 l0_0 ((rd_T52 t104 x7_2).place)).n) ((rd_T30 l0_0 ((rd_T52 t104 x7_2).place)).a) ((rd_T30 l0_0 ((rd_T52 t104 x7_2).place)).b) t115 true _ A58.out).mono ?_); rintro e w64 ⟨rfl, hb⟩; refine ⟨_, rfl, ?_⟩; replace HO_4 := am (Kd.S_below (by (with_reducible repeat (first | apply Kd.S_alloc | apply Kd.S_drewN | apply Kd.S_drew)); exact HO_4.out) hb); replace HO_6 := am (Kd.R_below (by (with_reducible repeat (first | apply Ra | apply Rn | apply Rd)); exact HO_6.out) hb); replace HO_9 := am (Kd.R_below (by (with_reducible repeat (first | apply Ra | apply Rn | apply Rd)); exact HO_9.out) hb); replace BK101 := am (blk_below (g := gb101) (o := .cells #[.slice (some ad110) l0_0.length c0_0, .slice A0_1 l0_1.length c0_1, .slice A0_2 l0_2.length c0_2, .int .i64 a0_3] 43 (0, 0)) (by (with_reducible repeat (first | refine bN ?_ _ | refine bD ?_ | refine bA ?_ _)); exact BK101.out) hb); replace BK111 := am (blk_below (g := gb111) (o := .cells #[.int .i64 ((rd_T30 l0_0 ((rd_T52 t104 x7_2).place)).kind), .string ((rd_T30 l0_0 ((rd_T52 t104 x7_2).place)).x), .string ((rd_T30 l0_0 ((rd_T52 t104 x7_2).place)).y), .string ((rd_T30 l0_0 ((rd_T52 t104 x7_2).place)).z), .string ((rd_T30 l0_0 ((rd_T52 t104 x7_2).place)).op), .int .i64 ((rd_T30 l0_0 ((rd_T52 t104 x7_2).place)).n), .int .i64 ((rd_T30 l0_0 ((rd_T52 t104 x7_2).place)).a), .int .i64 ((rd_T30 l0_0 ((rd_T52 t104 x7_2).place)).b)] 30 (0, 0)) (by (with_reducible repeat (first | refine bN ?_ _ | refine bD ?_ | refine bA ?_ _)); exact BK111.out) hb); replace HR109_1 := am (Kd.C_below (by repeat (first | (with_reducible exact HR109_1.out) | (with_reducible refine Kd.C_alloc ?_ _) | (with_reducible refine Kd.C_drewN ?_ _) | (with_reducible refine Kd.C_drew ?_) | exact HR109_1.out)) hb); replace HB := am (below_step (by repeat (first | (with_reducible first | exact HB.out | apply lA | apply lN | apply lD | refine lS ?_ GE101.out | refine lS ?_ GE111.out) | exact HB.out)) hb); (try clear hb); (try clear hb2); (try clear hk); (try clear hi)) | ((with_reducible refine gate_builtin (b := .append) (xs := #[.tmp 102, .tmp 104]) rfl ?_); (try (refine gate_guard (by rfl) ?_; dsimp only)); at_builtin; refine Kd.R_append Kd.string (w0 := w) w.heap.size rfl (.tmp 102) (.tmp 104) 32 9 (.string ⟨#[]⟩) 16 rfl Try.underlying32 info9 rfl (by decide) (by omega) u6 x6_2 t115 [.string t115] (fun k_ => some k_ ≠ (.slice Ao61 t112.length co61 : Value).ownBlock) (fun _ => False) rfl rfl ?aP (fun _ hk => hk.elim) ?aF ?aO ?aB ?aS ?aL ?_; (case aP => exact rfl); (case aB => exact (by repeat (first | (with_reducible first | exact HB.out | apply lA | apply lN | apply lD | refine lS ?_ GE101.out | refine lS ?_ GE111.out) | exact HB.out))); (case aF => exact (fun k_ hk => Kd.fresh' (Kd.R_lt (by (with_reducible repeat (first | apply Ra | apply Rn | apply Rd)); exact HO_9.out)) k_ hk)); (case aO => exact (by (with_reducible repeat (first | apply Ra | apply Rn | apply Rd)); exact HO_6.out)); (case aS => exact (below_size (by repeat (first | (with_reducible first | exact HB.out | apply lA | apply lN | apply lD | refine lS ?_ GE101.out | refine lS ?_ GE111.out) | exact HB.out)))); (case aL => have := LMc60.out; omega); intro v118 w65 ho hb hg hat; rw [← Ny117.out] at ho; replace HO_4 := am (Kd.S_over' (by (with_reducible repeat (first | apply Kd.S_alloc | apply Kd.S_drewN | apply Kd.S_drew)); exact HO_4.out) (Kd.R_typed (by (with_reducible repeat (first | apply Ra | apply Rn | apply Rd)); exact HO_6.out)) (by decide) hg); replace HO_9 := am (Kd.R_after (ok := (fun _ => True)) (by (with_reducible repeat (first | apply Ra | apply Rn | apply Rd)); exact Kd.R_mono HO_9.out (fun _ hk => ⟨trivial, hk⟩)) hg hat); replace BK101 := am (blk_grown (g := gb101) (o := .cells #[.slice (some ad110) l0_0.length c0_0, .slice A0_1 l0_1.length c0_1, .slice A0_2 l0_2.length c0_2, .int .i64 a0_3] 43 (0, 0)) (by (with_reducible repeat (first | refine bN ?_ _ | refine bD ?_ | refine bA ?_ _)); exact BK101.out) hg (Kd.R_ne HO_6.out BK101.out (by decide))); replace BK111 := am (blk_grown (g := gb111) (o := .cells #[.int .i64 ((rd_T30 l0_0 ((rd_T52 t104 x7_2).place)).kind), .string ((rd_T30 l0_0 ((rd_T52 t104 x7_2).place)).x), .string ((rd_T30 l0_0 ((rd_T52 t104 x7_2).place)).y), .string ((rd_T30 l0_0 ((rd_T52 t104 x7_2).place)).z), .string ((rd_T30 l0_0 ((rd_T52 t104 x7_2).place)).op), .int .i64 ((rd_T30 l0_0 ((rd_T52 t104 x7_2).place)).n), .int .i64 ((rd_T30 l0_0 ((rd_T52 t104 x7_2).place)).a), .int .i64 ((rd_T30 l0_0 ((rd_T52 t104 x7_2).place)).b)] 30 (0, 0)) (by (with_reducible repeat (first | refine bN ?_ _ | refine bD ?_ | refine bA ?_ _)); exact BK111.out) hg (Kd.R_ne HO_6.out BK111.out (by decide))); replace HB := am (hb); have HO119 := am (ho); clear HO_6; clear ho hb hg hat))
                    go_roundg k4
                    case measure => have := HK1.out; have := HK2.out; have := HJ14.out; have := HK4.out; omega
                    case rel => exact ⟨(y117), (wrap64 (x7_2 + 1)), (by first | rfl | (simp; done) | (simp [*]; done)), H', ⟨by have := HK1.out; have := HK2.out; have := HJ14.out; have := HK4.out; omega⟩, ⟨by (with_reducible repeat (first | apply Kd.S_alloc | apply Kd.S_drewN | apply Kd.S_drew)); exact HO_4.out⟩, ⟨by (with_reducible repeat (first | apply Ra | apply Rn | apply Rd)); exact Kd.R_mono HO119.out (fun _ hk => trivial)⟩, ⟨by (with_reducible repeat (first | refine bN ?_ _ | refine bD ?_ | refine bA ?_ _)); exact BK101.out⟩, ⟨by repeat (first | (with_reducible first | exact HB.out | apply lA | apply lN | apply lD | refine lS ?_ GE101.out | refine lS ?_ GE111.out) | exact HB.out)⟩⟩
                   ·rw [if_neg c60] at H
                    exact absurd H (by simp)
                  ·replace c59 := Bool.eq_false_iff.mpr c59
                   subst c59
                   have H1 : (lambrequinlaw22_InterpLives.l1 k4 t102 t104 x5_1 x6_2 (wrap64 (x7_2 + 1)) l0_0 l0_1 l0_2 a0_3) = some r := by rw [if_neg (show ¬ (false = true) by decide)] at H; exact H
                   clear H
                   have H := H1
                   clear H1
                   have H' := am H
                   clear H
                   obtain ⟨Ao66, co66, eo66⟩ := Kd.R_slice HO_9.out
                   subst eo66
                   have hnb67 := NB111_101.out
                   have hnc67 := NB101_111.out
                   have hcz68_0 : wr.cell? ⟨gb111, 0, none⟩ = some (.int .i64 ((rd_T30 l0_0 ((rd_T52 t104 x7_2).place)).kind)) := (blk_cell BK111.out 0).trans rfl
                   have hcz68_1 : wr.cell? ⟨gb111, 1, none⟩ = some (.string ((rd_T30 l0_0 ((rd_T52 t104 x7_2).place)).x)) := (blk_cell BK111.out 1).trans rfl
                   have hcz68_2 : wr.cell? ⟨gb111, 2, none⟩ = some (.string ((rd_T30 l0_0 ((rd_T52 t104 x7_2).place)).y)) := (blk_cell BK111.out 2).trans rfl
                   have hcz68_3 : wr.cell? ⟨gb111, 3, none⟩ = some (.string ((rd_T30 l0_0 ((rd_T52 t104 x7_2).place)).z)) := (blk_cell BK111.out 3).trans rfl
                   have hcz68_4 : wr.cell? ⟨gb111, 4, none⟩ = some (.string ((rd_T30 l0_0 ((rd_T52 t104 x7_2).place)).op)) := (blk_cell BK111.out 4).trans rfl
                   have hcz68_5 : wr.cell? ⟨gb111, 5, none⟩ = some (.int .i64 ((rd_T30 l0_0 ((rd_T52 t104 x7_2).place)).n)) := (blk_cell BK111.out 5).trans rfl
                   have hcz68_6 : wr.cell? ⟨gb111, 6, none⟩ = some (.int .i64 ((rd_T30 l0_0 ((rd_T52 t104 x7_2).place)).a)) := (blk_cell BK111.out 6).trans rfl
                   have hcz68_7 : wr.cell? ⟨gb111, 7, none⟩ = some (.int .i64 ((rd_T30 l0_0 ((rd_T52 t104 x7_2).place)).b)) := (blk_cell BK111.out 7).trans rfl
                   have hfz68_0 := blk_frozen BK111.out 0
                   have hfz68_1 := blk_frozen BK111.out 1
                   have hfz68_2 := blk_frozen BK111.out 2
                   have hfz68_3 := blk_frozen BK111.out 3
                   have hfz68_4 := blk_frozen BK111.out 4
                   have hfz68_5 := blk_frozen BK111.out 5
                   have hfz68_6 := blk_frozen BK111.out 6
                   have hfz68_7 := blk_frozen BK111.out 7
                   go_wp2_with (first | ((with_reducible refine gate_callee (f := 20) rfl ?_); refine goesL_ (some 98) rfl rfl Try.func20 (by kernel_rfl) rfl #[.agg #[.int .i64 ((rd_T30 l0_0 ((rd_T52 t104 x7_2).place)).kind), .string ((rd_T30 l0_0 ((rd_T52 t104 x7_2).place)).x), .string ((rd_T30 l0_0 ((rd_T52 t104 x7_2).place)).y), .string ((rd_T30 l0_0 ((rd_T52 t104 x7_2).place)).z), .string ((rd_T30 l0_0 ((rd_T52 t104 x7_2).place)).op), .int .i64 ((rd_T30 l0_0 ((rd_T52 t104 x7_2).place)).n), .int .i64 ((rd_T30 l0_0 ((rd_T52 t104 x7_2).place)).a), .int .i64 ((rd_T30 l0_0 ((rd_T52 t104 x7_2).place)).b)]] rfl (by (try simp only [List.map_toArray, List.map_cons, List.map_nil]); first | done | rfl | (simp only [List.length_drop, List.length_take]; rfl)) ?_; (with_reducible refine (cfg_Def.calls ((rd_T30 l0_0 ((rd_T52 t104 x7_2).place)).kind) ((rd_T30 l0_0 ((rd_T52 t104 x7_2).place)).x) ((rd_T30 l0_0 ((rd_T52 t104 x7_2).place)).y) ((rd_T30 l0_0 ((rd_T52 t104 x7_2).place)).z) ((rd_T30 l0_0 ((rd_T52 t104 x7_2).place)).op) ((rd_T30 l0_0 ((rd_T52 t104 x7_2).place)).n) ((rd_T30 l0_0 ((rd_T52 t104 x7_2).place)).a) ((rd_T30 l0_0 ((rd_T52 t104 x7_2).place)).b) t115 false _ A58.out).mono ?_); rintro e w69 ⟨rfl, hb⟩; refine ⟨_, rfl, ?_⟩; replace HO_4 := am (Kd.S_below (by (with_reducible repeat (first | apply Kd.S_alloc | apply Kd.S_drewN | apply Kd.S_drew)); exact HO_4.out) hb); replace HO_6 := am (Kd.R_below (by (with_reducible repeat (first | apply Ra | apply Rn | apply Rd)); exact HO_6.out) hb); replace HO_9 := am (Kd.R_below (by (with_reducible repeat (first | apply Ra | apply Rn | apply Rd)); exact HO_9.out) hb); replace BK101 := am (blk_below (g := gb101) (o := .cells #[.slice (some ad110) l0_0.length c0_0, .slice A0_1 l0_1.length c0_1, .slice A0_2 l0_2.length c0_2, .int .i64 a0_3] 43 (0, 0)) (by (with_reducible repeat (first | refine bN ?_ _ | refine bD ?_ | refine bA ?_ _)); exact BK101.out) hb); replace BK111 := am (blk_below (g := gb111) (o := .cells #[.int .i64 ((rd_T30 l0_0 ((rd_T52 t104 x7_2).place)).kind), .string ((rd_T30 l0_0 ((rd_T52 t104 x7_2).place)).x), .string ((rd_T30 l0_0 ((rd_T52 t104 x7_2).place)).y), .string ((rd_T30 l0_0 ((rd_T52 t104 x7_2).place)).z), .string ((rd_T30 l0_0 ((rd_T52 t104 x7_2).place)).op), .int .i64 ((rd_T30 l0_0 ((rd_T52 t104 x7_2).place)).n), .int .i64 ((rd_T30 l0_0 ((rd_T52 t104 x7_2).place)).a), .int .i64 ((rd_T30 l0_0 ((rd_T52 t104 x7_2).place)).b)] 30 (0, 0)) (by (with_reducible repeat (first | refine bN ?_ _ | refine bD ?_ | refine bA ?_ _)); exact BK111.out) hb); replace HR109_1 := am (Kd.C_below (by repeat (first | (with_reducible exact HR109_1.out) | (with_reducible refine Kd.C_alloc ?_ _) | (with_reducible refine Kd.C_drewN ?_ _) | (with_reducible refine Kd.C_drew ?_) | exact HR109_1.out)) hb); replace HB := am (below_step (by repeat (first | (with_reducible first | exact HB.out | apply lA | apply lN | apply lD | refine lS ?_ GE101.out | refine lS ?_ GE111.out) | exact HB.out)) hb); (try clear hb); (try clear hb2); (try clear hk); (try clear hi)))
                   go_roundg k4
                   case measure => have := HK1.out; have := HK2.out; have := HJ14.out; have := HK4.out; omega
                   case rel => exact ⟨(x6_2), (wrap64 (x7_2 + 1)), (by first | rfl | (simp; done) | (simp [*]; done)), H', ⟨by have := HK1.out; have := HK2.out; have := HJ14.out; have := HK4.out; omega⟩, ⟨by (with_reducible repeat (first | apply Kd.S_alloc | apply Kd.S_drewN | apply Kd.S_drew)); exact HO_4.out⟩, ⟨by (with_reducible repeat (first | apply Ra | apply Rn | apply Rd)); exact Kd.R_mono HO_6.out (fun _ hk => trivial)⟩, ⟨by (with_reducible repeat (first | refine bN ?_ _ | refine bD ?_ | refine bA ?_ _)); exact BK101.out⟩, ⟨by repeat (first | (with_reducible first | exact HB.out | apply lA | apply lN | apply lD | refine lS ?_ GE101.out | refine lS ?_ GE111.out) | exact HB.out)⟩⟩
              ·rw [if_neg c24] at H
               exact absurd H (by simp)
             ·rw [if_neg c23] at H
              exact absurd H (by simp)
            ·rw [if_neg c22] at H
             exact absurd H (by simp)
           ·rw [if_neg c21] at H
            exact absurd H (by simp)
       ·rw [if_neg c14] at H
        have c14b0 : decide (x7_2 < (t104.length : Int)) = false := decide_eq_false c14
        clear c14
        have H' := am H
        clear H
        go_wp2
        go_roundg k2
        case measure => have := HK1.out; have := HK2.out; omega
        case rel => exact ⟨(wrap64 (x5_1 + 1)), (by first | rfl | (simp; done) | (simp [*]; done)), H', ⟨by have := HK1.out; have := HK2.out; omega⟩, ⟨by (with_reducible repeat (first | apply Kd.S_alloc | apply Kd.S_drewN | apply Kd.S_drew)); exact HO_4.out⟩, ⟨by (with_reducible repeat (first | refine bN ?_ _ | refine bD ?_ | refine bA ?_ _)); exact BK101.out⟩, ⟨by repeat (first | (with_reducible first | exact HB.out | apply lA | apply lN | apply lD | refine lS ?_ GE101.out) | exact HB.out)⟩⟩
    ·rw [if_neg c12] at H
     have c12b0 : decide (x5_1 < (t104.length : Int)) = false := decide_eq_false c12
     clear c12
     obtain rfl := Option.some.inj H
     obtain ⟨Ao70, co70, eo70⟩ := Kd.S_slice HO_4.out
     subst eo70
     go_wp2
     go_ret
     exact ⟨by first | rfl | (simp [errW_none, errW_some] <;> rfl) | (simp [*, errW_none, errW_some] <;> rfl), by repeat (first | (with_reducible first | exact HB.out | apply lA | apply lN | apply lD | refine lS ?_ GE101.out) | exact HB.out)⟩
 ·replace c4 := Bool.eq_false_iff.mpr c4
  subst c4
  have H1 : (some t102) = some r := by rw [if_neg (show ¬ (false = true) by decide)] at H; exact H
  clear H
  have H := H1
  clear H1
  obtain rfl := Option.some.inj H
  go_enter Try.func15, Try.ntmps15
  go_wp2_with (first | ((with_reducible refine gate_dst (N := 1) rfl ?_); (try (refine gate_guard (by rfl) ?_; dsimp only)); refine box_event ?hg (N := 1) ?hd (cs := #[.slice A0_0 l0_0.length c0_0, .slice A0_1 l0_1.length c0_1, .slice A0_2 l0_2.length c0_2, .int .i64 a0_3]) (t := 43) ?hr ?_; (case hd => rfl); (case hg => rfl); (case hr => first | (go_simp; done) | (go_simp; rfl)); intro gb101 hg w71 hbox hb; have BK101 := am (hbox); have GW101 := am ((by rw [hg]; exact (below_size (by repeat (first | (with_reducible first | exact HB.out | apply lA | apply lN | apply lD) | exact HB.out))) : w.heap.size ≤ gb101)); have GE101 := am ((by rw [hg]; exact (below_size (by repeat (first | (with_reducible first | exact HB.out | apply lA | apply lN | apply lD) | exact HB.out))) : w.heap.size ≤ gb101)); replace HB := am (below_step (by repeat (first | (with_reducible first | exact HB.out | apply lA | apply lN | apply lD) | exact HB.out)) hb); clear hb hbox hg) | ((with_reducible refine gate_callee (f := 33) rfl ?_); refine goesL_ (some 13) rfl rfl Try.func33 (by kernel_rfl) rfl #[] rfl (by (try simp only [List.map_toArray, List.map_cons, List.map_nil]); first | done | rfl | (simp only [List.length_drop, List.length_take]; rfl)) ?_; (with_reducible refine (lambrequinlaw22_shown.calls  t102 _ A2.out).mono ?_); rintro e w72 ⟨rfl, hb⟩; refine ⟨_, rfl, ?_⟩; replace BK101 := am (blk_below (g := gb101) (o := .cells #[.slice A0_0 l0_0.length c0_0, .slice A0_1 l0_1.length c0_1, .slice A0_2 l0_2.length c0_2, .int .i64 a0_3] 43 (0, 0)) (by (with_reducible repeat (first | refine bN ?_ _ | refine bD ?_ | refine bA ?_ _)); exact BK101.out) hb); replace HB := am (below_step (by repeat (first | (with_reducible first | exact HB.out | apply lA | apply lN | apply lD | refine lS ?_ GE101.out) | exact HB.out)) hb); (try clear hb); (try clear hb2); (try clear hk); (try clear hi); have hcz73_0 : w72.cell? ⟨gb101, 0, none⟩ = some (.slice A0_0 l0_0.length c0_0) := (blk_cell BK101.out 0).trans rfl; have hcz73_1 : w72.cell? ⟨gb101, 1, none⟩ = some (.slice A0_1 l0_1.length c0_1) := (blk_cell BK101.out 1).trans rfl; have hcz73_2 : w72.cell? ⟨gb101, 2, none⟩ = some (.slice A0_2 l0_2.length c0_2) := (blk_cell BK101.out 2).trans rfl; have hcz73_3 : w72.cell? ⟨gb101, 3, none⟩ = some (.int .i64 a0_3) := (blk_cell BK101.out 3).trans rfl; have hfz73_0 := blk_frozen BK101.out 0; have hfz73_1 := blk_frozen BK101.out 1; have hfz73_2 := blk_frozen BK101.out 2; have hfz73_3 := blk_frozen BK101.out 3) | ((with_reducible refine gate_callee (f := 34) rfl ?_); refine goesL_ (some 15) rfl rfl Try.func34 (by kernel_rfl) rfl #[.agg #[.slice A0_0 l0_0.length c0_0, .slice A0_1 l0_1.length c0_1, .slice A0_2 l0_2.length c0_2, .int .i64 a0_3]] rfl (by (try simp only [List.map_toArray, List.map_cons, List.map_nil]); first | done | rfl | (simp only [List.length_drop, List.length_take]; rfl)) ?_; (with_reducible refine (lambrequinlaw22_few.calls _ _ l0_0 _ _ l0_1 _ _ l0_2 a0_3 false _ ?side1 ?side2 ?side3 ?side4 ?side5 ?side6 A3.out).mono ?_); (case side1 => repeat (first | exact (Kd.C_below HR0_0.out HB.out) | (with_reducible refine Kd.C_alloc ?_ _) | (with_reducible refine Kd.C_drewN ?_ _) | (with_reducible refine Kd.C_drew ?_))); (case side2 => exact HC0_0.out); (case side3 => repeat (first | exact (Kd.C_below HR0_1.out HB.out) | (with_reducible refine Kd.C_alloc ?_ _) | (with_reducible refine Kd.C_drewN ?_ _) | (with_reducible refine Kd.C_drew ?_))); (case side4 => exact HC0_1.out); (case side5 => repeat (first | exact (Kd.C_below HR0_2.out HB.out) | (with_reducible refine Kd.C_alloc ?_ _) | (with_reducible refine Kd.C_drewN ?_ _) | (with_reducible refine Kd.C_drew ?_))); (case side6 => exact HC0_2.out); rintro e w74 ⟨rfl, hb⟩; refine ⟨_, rfl, ?_⟩; replace BK101 := am (blk_below (g := gb101) (o := .cells #[.slice A0_0 l0_0.length c0_0, .slice A0_1 l0_1.length c0_1, .slice A0_2 l0_2.length c0_2, .int .i64 a0_3] 43 (0, 0)) (by (with_reducible repeat (first | refine bN ?_ _ | refine bD ?_ | refine bA ?_ _)); exact BK101.out) hb); replace HB := am (below_step (by repeat (first | (with_reducible first | exact HB.out | apply lA | apply lN | apply lD | refine lS ?_ GE101.out) | exact HB.out)) hb); (try clear hb); (try clear hb2); (try clear hk); (try clear hi)))
  go_ret
  exact ⟨by first | rfl | (simp [errW_none, errW_some] <;> rfl) | (simp [*, errW_none, errW_some] <;> rfl), by repeat (first | (with_reducible first | exact HB.out | apply lA | apply lN | apply lD | refine lS ?_ GE101.out) | exact HB.out)⟩
end Go.Proofs.Ytnepgcbgkhikkaa.H
/- InterpLives: what is read later on a trace, before it is written, lives. Conditions: the statement's own. -/
namespace Go.Proofs.Ytnepgcbgkhikkaa.H
open Go.RowKit Go.Proofs.YtnepgcbgkhikkaaW.PrintWords
set_option linter.unusedVariables false
set_option linter.unusedSimpArgs false
set_option linter.unusedSectionVars false
/-- the names of the statements i .. k - 1 that define -/
def GoneS (l : List Stmt) (s : St) (i k : Nat) (gone : List ByteArray) : Prop := gone.length ≤ k ∧ ∀ x, ¬ x ∈ gone → ∀ j, i ≤ j → j < k → defB (at_ l (sN l s j).n) x = false
theorem sN_from (l : List Stmt) (s : St) (i : Nat) : ∀ d, sN l (sN l s i) d = sN l s (i + d)
  | 0 => rfl
  | d + 1 => by rw [sN, sN_from l s i d]; rfl
section
variable (l : List Stmt) (ins : List Int) (ora : List Bool) (most : Int) (s : St) (m : Nat) (hl : l.length ≤ 1000) (hm : m ≤ 1000) (hin : ∀ i, i < m → inS l (sN l s i))
include hl hm hin
theorem lives_at (i k : Nat) (hik : i ≤ k) (hk : k < m) (gone : List ByteArray) (hg : GoneS l s i k gone) (u : ByteArray) (hu : ¬ u ∈ gone) (hus : u ∈ usesS (at_ l (sN l s k).n)) : liveP l (sN l s i).n u := by
  have hi := hin i (by omega)
  refine ⟨hi.1, hi.2, (sN l s k).n, ?_, hus⟩
  have := unwritten (l := l) (s := sN l s i) u (k - i) (fun j hj => by rw [sN_from]; exact hin _ (by omega)) (fun j hj => by rw [sN_from]; exact hg.2 u hu _ (by omega) (by omega))
  rw [sN_from, show i + (k - i) = k by omega] at this
  exact this
theorem Lv_l2 (i k : Nat) (hik : i ≤ k) (hk : k < m) (gone : List ByteArray) (hg : GoneS l s i k gone) (st : Stmt) (he : l[(sN l s k).n.toNat]? = some st) (R : Bool)
    (go : ∀ gone', GoneS l s i (k + 1) gone' → Ev (fun n => lambrequinlaw22_InterpLives.l1 n true (visN l s m) i gone' ((k + 1 : Nat) : Int) l ins ora most) R) : ∀ (r : List ByteArray) (j : Nat), (usesS st).drop j = r →
    Ev (fun n => lambrequinlaw22_InterpLives.l2 n true (visN l s m) i gone k (usesS st) j l ins ora most st.kind st.x st.y st.z st.op st.n st.a st.b) R
  | [], j, h => by
    have hu := usesS_len st
    refine Ev.step (fun k => by rw [lambrequinlaw22_InterpLives.l2]) (Ev.neg (drop_end h) (Ev.pure (Def_eq st) ?_))
    have hI := hin k hk
    have hd : ∀ x, defB (at_ l (sN l s k).n) x = true ↔ defK st ∧ st.x = x := defB_at hI he
    rw [wrap_up (by omega)]
    by_cases c : defK st
    · have e1 : defN st = (st.x, true) := by unfold defN; unfold defK at c; rw [if_pos c]
      rw [e1]
      refine Ev.pos rfl (Ev.pos (by have := hg.1; omega) (go _ ⟨by have := hg.1; simp; omega, fun x hx j' h1 h2 => ?_⟩))
      simp at hx
      rcases Nat.lt_or_ge j' k with h3 | h3
      · exact hg.2 x hx.1 j' h1 h3
      · obtain rfl : j' = k := by omega
        rw [← Bool.not_eq_true, hd]
        exact fun q => hx.2 q.2.symm
    · have e1 : defN st = ((⟨#[]⟩ : ByteArray), false) := by unfold defN; unfold defK at c; rw [if_neg c]
      rw [e1]
      refine Ev.neg (by simp) (go _ ⟨by have := hg.1; omega, fun x hx j' h1 h2 => ?_⟩)
      rcases Nat.lt_or_ge j' k with h3 | h3
      · exact hg.2 x hx j' h1 h3
      · obtain rfl : j' = k := by omega
        rw [← Bool.not_eq_true, hd]
        exact fun q => c q.1
  | u :: r, j, h => by
    have hu := usesS_len st
    obtain ⟨h1, h2, h3, h4, h5⟩ := drop_more h (by omega)
    refine Ev.step (fun k => by rw [lambrequinlaw22_InterpLives.l2]) (Ev.pos h1 (Ev.pos h2 ?_))
    rw [show rdOf ByteArray.empty (usesS st) j = u from h3 _, h5]
    refine Ev.bind (In_ev gone u (by have := hg.1; omega)) ?_
    have ih := Lv_l2 i k hik hk gone hg st he R go r (j + 1) h4
    by_cases c : mem u gone = true
    · exact Ev.pos c ih
    refine Ev.neg c (Ev.pos (by omega) (Ev.pos (by rw [visN_len]; omega) ?_))
    rw [vis_at (show i < m by omega)]
    have hus : u ∈ usesS st := List.mem_of_mem_drop (by rw [h]; exact List.mem_cons_self)
    have hlv : liveP l (sN l s i).n u := lives_at l s m hl hm hin i k hik hk gone hg u (by rw [← mem_iff]; exact c) (by rw [stmt_at2 (hin k hk) he]; exact hus)
    exact Ev.bind (ev_yes (Lives_ev l (sN l s i).n u hl) hlv) (Ev.pos rfl ih)
theorem Lv_l1 (i : Nat) (hi : i < m) (R : Bool) (go : Ev (fun n => lambrequinlaw22_InterpLives.l0 n true (visN l s m) ((i + 1 : Nat) : Int) l ins ora most) R) : ∀ (d k : Nat) (gone : List ByteArray), k + d = m → i ≤ k → GoneS l s i k gone →
    Ev (fun n => lambrequinlaw22_InterpLives.l1 n true (visN l s m) i gone k l ins ora most) R
  | 0, k, gone, hd, hik, hg => by
    refine Ev.step (fun k => by rw [lambrequinlaw22_InterpLives.l1]) (Ev.neg (by rw [visN_len]; omega) ?_)
    rw [wrap_up (by omega)]
    exact go
  | d + 1, k, gone, hd, hik, hg => by
    have hk : k < m := by omega
    refine Ev.step (fun k => by rw [lambrequinlaw22_InterpLives.l1]) (Ev.pos (by rw [visN_len]; omega) (Ev.pos (by omega) ?_))
    rw [vis_at hk]
    have hI := hin k hk
    obtain ⟨st, he, -, -⟩ := inS_at hI
    have e0 : (visS (sN l s k)).place = (sN l s k).n := rfl
    rw [e0]
    obtain ⟨i0, i1⟩ := hI
    refine Ev.neg (by omega) ?_
    rw [decide_eq_false (by omega)]
    refine Ev.step (fun k => by rw [lambrequinlaw22_InterpLives.j2]) (Ev.neg (by simp) (Ev.pos (by omega) (Ev.pos (by rw [visN_len]; omega) ?_)))
    rw [vis_at hk, e0]
    refine Ev.pos i0 (Ev.pos i1 ?_)
    rw [stmt_at ⟨i0, i1⟩ he]
    refine Ev.pure (Uses_eq st) ?_
    exact Lv_l2 l ins ora most s m hl hm hin i k hik hk gone hg st he R (fun gone' hg' => Lv_l1 i hi R go d (k + 1) gone' (by omega) (by omega) hg') (usesS st) 0 rfl
theorem Lv_l0 : ∀ (d i : Nat), i + d = m → Ev (fun n => lambrequinlaw22_InterpLives.l0 n true (visN l s m) i l ins ora most) true
  | 0, i, hd => by
    exact Ev.step (fun k => by rw [lambrequinlaw22_InterpLives.l0]) (Ev.neg (by rw [visN_len]; omega) (Ev.now _))
  | d + 1, i, hd => by
    refine Ev.step (fun k => by rw [lambrequinlaw22_InterpLives.l0]) (Ev.pos (by rw [visN_len]; omega) ?_)
    exact Lv_l1 l ins ora most s m hl hm hin i (by omega) true (Lv_l0 d (i + 1) (by omega)) (m - i) i [] (by omega) (by omega) ⟨by simp, fun x _ j h1 h2 => by omega⟩
end
theorem InterpLives_pure (x0 : Script) (n1 : x0.l.length ≤ 9223372036854775807) (n2 : x0.ins.length ≤ 9223372036854775807) (n3 : x0.ora.length ≤ 9223372036854775807) : ∃ k, lambrequinlaw22_InterpLives.f k x0.l x0.ins x0.ora x0.most = some true := by
  obtain ⟨l, ins, ora, most⟩ := x0
  refine Ev.rounds (g := fun k => lambrequinlaw22_InterpLives.f k l ins ora most) ?_
  unfold lambrequinlaw22_InterpLives.f
  refine Ev.pure shown22 (Ev.pure (few_eq l ins ora most) ?_)
  by_cases hf : l.length ≤ 25 ∧ most ≤ 60
  case neg => exact Ev.neg (by simpa using hf) (Ev.now _)
  refine Ev.pos (by simpa using hf) ?_
  obtain ⟨m, hr, hin, hm, hout⟩ := Run_spec l ins ora most (by omega)
  refine Ev.pure hr ?_
  rw [mostV_small (by omega)] at hm
  exact Lv_l0 l ins ora most (s0 l ins ora) m (by omega) (by omega) hin m 0 (by omega)
theorem InterpLives_walk (w : World) (x0 : Script) (A0_0 : Option Addr) (c0_0 : Nat) (l0_0 : x0.l.length ≤ c0_0) (g0_0 : Kd.C k30 w A0_0 x0.l.length x0.l) (A0_1 : Option Addr) (c0_1 : Nat) (l0_1 : x0.ins.length ≤ c0_1) (g0_1 : Kd.C (Kd.int .i64) w A0_1 x0.ins.length x0.ins) (A0_2 : Option Addr) (c0_2 : Nat) (l0_2 : x0.ora.length ≤ c0_2) (g0_2 : Kd.C Kd.bool w A0_2 x0.ora.length x0.ora) :
    Calls Try.prog 15 #[.agg #[.slice A0_0 x0.l.length c0_0, .slice A0_1 x0.ins.length c0_1, .slice A0_2 x0.ora.length c0_2, .int .i64 x0.most]] w fun e w' => e = .returned (.bool true) ∧ Below w.heap.size w w' := by
  obtain ⟨k, h⟩ := InterpLives_pure x0 g0_0.2.1 g0_1.2.1 g0_2.2.1
  exact (lambrequinlaw22_InterpLives.calls k A0_0 c0_0 x0.l A0_1 c0_1 x0.ins A0_2 c0_2 x0.ora x0.most true w g0_0 l0_0 g0_1 l0_1 g0_2 l0_2 h).mono (fun e w' h' => ⟨h'.1, h'.2⟩)
end Go.Proofs.Ytnepgcbgkhikkaa.H
