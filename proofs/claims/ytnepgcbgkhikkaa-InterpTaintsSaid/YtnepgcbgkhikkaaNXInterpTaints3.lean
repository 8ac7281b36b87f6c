/- RowInterpTaints of the seat's law InterpTaints: the law holds, under the statement's own conditions. -/
import Derived.Test.YtnepgcbgkhikkaaNXInterpTaints
import Derived.Test.YtnepgcbgkhikkaaNXInterpTaints2
import Derived.Test.YtnepgcbgkhikkaaNXInterpTaints1
import Derived.Deep.DeepMust
import Derived.Maps.Own
import Derived.Maps.Views
namespace Go.Proofs.Ytnepgcbgkhikkaa.H
open Go.RowKit Go.Proofs.YtnepgcbgkhikkaaW.PrintWords Go.Proofs.YtnepgcbgkhikkaaW.PrintLast Go.Proofs.YtnepgcbgkhikkaaW.PrintMore
attribute [local go_sem] max2_int min2_int max_two min_two max_three min_three max_four min_four
set_option linter.unusedVariables false
set_option linter.unusedSimpArgs false
def lambrequinlaw20_shown.f (k : Nat)  : Option (Bool) := (some (([(⟨1, (⟨#[120]⟩ : ByteArray), (⟨#[]⟩ : ByteArray), (⟨#[]⟩ : ByteArray), (⟨#[]⟩ : ByteArray), 1, 0, 0⟩ : Stmt), (⟨6, (⟨#[]⟩ : ByteArray), (⟨#[120]⟩ : ByteArray), (⟨#[]⟩ : ByteArray), (⟨#[]⟩ : ByteArray), 0, 0, 0⟩ : Stmt), (⟨9, (⟨#[]⟩ : ByteArray), (⟨#[]⟩ : ByteArray), (⟨#[]⟩ : ByteArray), (⟨#[]⟩ : ByteArray), 0, 0, 0⟩ : Stmt)] : List (Stmt)) : List (Stmt))).bind fun y101 => ((cfg_Reaches.f k y101 1 (⟨#[120]⟩ : ByteArray) 0).bind fun t104 => (if t104 = true then ((cfg_Reaches.f k y101 2 (⟨#[120]⟩ : ByteArray) 0).bind fun t105 => (if t105 = true then ((cfg_Reaches.f k y101 0 (⟨#[120]⟩ : ByteArray) 0).bind fun t106 => (if t106 = true then (some false) else ((cfg_Lives.f k y101 1 (⟨#[120]⟩ : ByteArray)).bind fun t107 => (if t107 = true then ((cfg_Lives.f k y101 0 (⟨#[120]⟩ : ByteArray)).bind fun t108 => (if t108 = true then (some false) else ((cfg_Lives.f k y101 2 (⟨#[120]⟩ : ByteArray)).bind fun t109 => (if t109 = true then (some false) else ((cfg_Next.f y101 1).bind fun t110 => ((lambrequinref10_Ints.f k t110 (([2] : List Int))).bind fun t116 => (some t116))))))) else (some false))))) else (some false))) else (some false)))
theorem lambrequinlaw20_shown.mono : ∀ k, LeO (lambrequinlaw20_shown.f k ) (lambrequinlaw20_shown.f (k + 1) ) := by
 intro  k
 unfold lambrequinlaw20_shown.f
 repeat' first
   | (with_reducible exact cfg_Lives.mono _ _ _ _)
   | (with_reducible exact cfg_Reaches.mono _ _ _ _ _)
   | (with_reducible exact lambrequinref10_Ints.mono _ _ _)
   | (with_reducible exact LeO.refl _)
   | (with_reducible exact LeO.none _)
   | (with_reducible refine LeO.ite ?_ ?_)
   | (with_reducible refine LeO.bind ?_ (fun _ => ?_))
   | exact cfg_Lives.mono _ _ _ _
   | exact cfg_Reaches.mono _ _ _ _ _
   | exact lambrequinref10_Ints.mono _ _ _
   | exact LeO.none _
   | refine LeO.ite ?_ ?_
   | refine LeO.bind ?_ (fun _ => ?_)
set_option maxHeartbeats 8000000 in
set_option maxRecDepth 100000 in
theorem lambrequinlaw20_shown.calls (k : Nat)  (r : Bool) (w : World) (h : lambrequinlaw20_shown.f k  = some r) :
  Calls Try.prog 17 #[] w fun e w' => e = .returned (.bool r) ∧ Below w.heap.size w w' := by
 have hu30 := Try.underlying30
 have HB := am (Below.refl w.heap.size w)
 have H : ((some (([(⟨1, (⟨#[120]⟩ : ByteArray), (⟨#[]⟩ : ByteArray), (⟨#[]⟩ : ByteArray), (⟨#[]⟩ : ByteArray), 1, 0, 0⟩ : Stmt), (⟨6, (⟨#[]⟩ : ByteArray), (⟨#[120]⟩ : ByteArray), (⟨#[]⟩ : ByteArray), (⟨#[]⟩ : ByteArray), 0, 0, 0⟩ : Stmt), (⟨9, (⟨#[]⟩ : ByteArray), (⟨#[]⟩ : ByteArray), (⟨#[]⟩ : ByteArray), (⟨#[]⟩ : ByteArray), 0, 0, 0⟩ : Stmt)] : List (Stmt)) : List (Stmt))).bind fun y101 => ((cfg_Reaches.f k y101 1 (⟨#[120]⟩ : ByteArray) 0).bind fun t104 => (if t104 = true then ((cfg_Reaches.f k y101 2 (⟨#[120]⟩ : ByteArray) 0).bind fun t105 => (if t105 = true then ((cfg_Reaches.f k y101 0 (⟨#[120]⟩ : ByteArray) 0).bind fun t106 => (if t106 = true then (some false) else ((cfg_Lives.f k y101 1 (⟨#[120]⟩ : ByteArray)).bind fun t107 => (if t107 = true then ((cfg_Lives.f k y101 0 (⟨#[120]⟩ : ByteArray)).bind fun t108 => (if t108 = true then (some false) else ((cfg_Lives.f k y101 2 (⟨#[120]⟩ : ByteArray)).bind fun t109 => (if t109 = true then (some false) else ((cfg_Next.f y101 1).bind fun t110 => ((lambrequinref10_Ints.f k t110 (([2] : List Int))).bind fun t116 => (some t116))))))) else (some false))))) else (some false))) else (some false)))) = some r := h
 clear h
 obtain ⟨y101, hy101⟩ : ∃ y_ : List (Stmt), y_ = (([(⟨1, (⟨#[120]⟩ : ByteArray), (⟨#[]⟩ : ByteArray), (⟨#[]⟩ : ByteArray), (⟨#[]⟩ : ByteArray), 1, 0, 0⟩ : Stmt), (⟨6, (⟨#[]⟩ : ByteArray), (⟨#[120]⟩ : ByteArray), (⟨#[]⟩ : ByteArray), (⟨#[]⟩ : ByteArray), 0, 0, 0⟩ : Stmt), (⟨9, (⟨#[]⟩ : ByteArray), (⟨#[]⟩ : ByteArray), (⟨#[]⟩ : ByteArray), (⟨#[]⟩ : ByteArray), 0, 0, 0⟩ : Stmt)] : List (Stmt))) := ⟨_, rfl⟩
 replace H : ((cfg_Reaches.f k y101 1 (⟨#[120]⟩ : ByteArray) 0).bind fun t104 => (if t104 = true then ((cfg_Reaches.f k y101 2 (⟨#[120]⟩ : ByteArray) 0).bind fun t105 => (if t105 = true then ((cfg_Reaches.f k y101 0 (⟨#[120]⟩ : ByteArray) 0).bind fun t106 => (if t106 = true then (some false) else ((cfg_Lives.f k y101 1 (⟨#[120]⟩ : ByteArray)).bind fun t107 => (if t107 = true then ((cfg_Lives.f k y101 0 (⟨#[120]⟩ : ByteArray)).bind fun t108 => (if t108 = true then (some false) else ((cfg_Lives.f k y101 2 (⟨#[120]⟩ : ByteArray)).bind fun t109 => (if t109 = true then (some false) else ((cfg_Next.f y101 1).bind fun t110 => ((lambrequinref10_Ints.f k t110 (([2] : List Int))).bind fun t116 => (some t116))))))) else (some false))))) else (some false))) else (some false))) = some r := by first | (rw [hy101]; with_reducible exact H) | (have H2_ := (Option.bind_some _ _).symm.trans H; rw [hy101]; with_reducible exact H2_) | (have H2_ := (Option.bind_some _ _).symm.trans H; with_reducible exact H2_) | with_reducible exact H | (rw [hy101]; exact H) | exact H
 have Ny101 := am hy101
 clear hy101
 replace H := Option.bind_eq_some_iff.mp H
 obtain ⟨t104, A10, H⟩ := H
 replace H : (if t104 = true then ((cfg_Reaches.f k y101 2 (⟨#[120]⟩ : ByteArray) 0).bind fun t105 => (if t105 = true then ((cfg_Reaches.f k y101 0 (⟨#[120]⟩ : ByteArray) 0).bind fun t106 => (if t106 = true then (some false) else ((cfg_Lives.f k y101 1 (⟨#[120]⟩ : ByteArray)).bind fun t107 => (if t107 = true then ((cfg_Lives.f k y101 0 (⟨#[120]⟩ : ByteArray)).bind fun t108 => (if t108 = true then (some false) else ((cfg_Lives.f k y101 2 (⟨#[120]⟩ : ByteArray)).bind fun t109 => (if t109 = true then (some false) else ((cfg_Next.f y101 1).bind fun t110 => ((lambrequinref10_Ints.f k t110 (([2] : List Int))).bind fun t116 => (some t116))))))) else (some false))))) else (some false))) else (some false)) = some r := H
 have A1 := am A10
 clear A10
 by_cases c2 : t104 = true
 ·subst c2
  have H1 : ((cfg_Reaches.f k y101 2 (⟨#[120]⟩ : ByteArray) 0).bind fun t105 => (if t105 = true then ((cfg_Reaches.f k y101 0 (⟨#[120]⟩ : ByteArray) 0).bind fun t106 => (if t106 = true then (some false) else ((cfg_Lives.f k y101 1 (⟨#[120]⟩ : ByteArray)).bind fun t107 => (if t107 = true then ((cfg_Lives.f k y101 0 (⟨#[120]⟩ : ByteArray)).bind fun t108 => (if t108 = true then (some false) else ((cfg_Lives.f k y101 2 (⟨#[120]⟩ : ByteArray)).bind fun t109 => (if t109 = true then (some false) else ((cfg_Next.f y101 1).bind fun t110 => ((lambrequinref10_Ints.f k t110 (([2] : List Int))).bind fun t116 => (some t116))))))) else (some false))))) else (some false))) = some r := by rw [if_pos rfl] at H; exact H
  clear H
  have H := H1
  clear H1
  replace H := Option.bind_eq_some_iff.mp H
  obtain ⟨t105, A30, H⟩ := H
  replace H : (if t105 = true then ((cfg_Reaches.f k y101 0 (⟨#[120]⟩ : ByteArray) 0).bind fun t106 => (if t106 = true then (some false) else ((cfg_Lives.f k y101 1 (⟨#[120]⟩ : ByteArray)).bind fun t107 => (if t107 = true then ((cfg_Lives.f k y101 0 (⟨#[120]⟩ : ByteArray)).bind fun t108 => (if t108 = true then (some false) else ((cfg_Lives.f k y101 2 (⟨#[120]⟩ : ByteArray)).bind fun t109 => (if t109 = true then (some false) else ((cfg_Next.f y101 1).bind fun t110 => ((lambrequinref10_Ints.f k t110 (([2] : List Int))).bind fun t116 => (some t116))))))) else (some false))))) else (some false)) = some r := H
  have A3 := am A30
  clear A30
  by_cases c4 : t105 = true
  ·subst c4
   have H1 : ((cfg_Reaches.f k y101 0 (⟨#[120]⟩ : ByteArray) 0).bind fun t106 => (if t106 = true then (some false) else ((cfg_Lives.f k y101 1 (⟨#[120]⟩ : ByteArray)).bind fun t107 => (if t107 = true then ((cfg_Lives.f k y101 0 (⟨#[120]⟩ : ByteArray)).bind fun t108 => (if t108 = true then (some false) else ((cfg_Lives.f k y101 2 (⟨#[120]⟩ : ByteArray)).bind fun t109 => (if t109 = true then (some false) else ((cfg_Next.f y101 1).bind fun t110 => ((lambrequinref10_Ints.f k t110 (([2] : List Int))).bind fun t116 => (some t116))))))) else (some false))))) = some r := by rw [if_pos rfl] at H; exact H
   clear H
   have H := H1
   clear H1
   replace H := Option.bind_eq_some_iff.mp H
   obtain ⟨t106, A50, H⟩ := H
   replace H : (if t106 = true then (some false) else ((cfg_Lives.f k y101 1 (⟨#[120]⟩ : ByteArray)).bind fun t107 => (if t107 = true then ((cfg_Lives.f k y101 0 (⟨#[120]⟩ : ByteArray)).bind fun t108 => (if t108 = true then (some false) else ((cfg_Lives.f k y101 2 (⟨#[120]⟩ : ByteArray)).bind fun t109 => (if t109 = true then (some false) else ((cfg_Next.f y101 1).bind fun t110 => ((lambrequinref10_Ints.f k t110 (([2] : List Int))).bind fun t116 => (some t116))))))) else (some false)))) = some r := H
   have A5 := am A50
   clear A50
   by_cases c6 : t106 = true
   ·subst c6
    have H1 : (some false) = some r := by rw [if_pos rfl] at H; exact H
    clear H
    have H := H1
    clear H1
    obtain rfl := Option.some.inj H
    go_enter Try.func17, Try.ntmps17
    go_wp2_with (first | ((with_reducible refine gate_dst (N := 5) rfl ?_); (try (refine gate_guard (by rfl) ?_; dsimp only)); refine Kd.R_lit k30 _ 30 ?hg (N := 5) ?hd (xs := ([(⟨1, (⟨#[120]⟩ : ByteArray), (⟨#[]⟩ : ByteArray), (⟨#[]⟩ : ByteArray), (⟨#[]⟩ : ByteArray), 1, 0, 0⟩ : Stmt), (⟨6, (⟨#[]⟩ : ByteArray), (⟨#[120]⟩ : ByteArray), (⟨#[]⟩ : ByteArray), (⟨#[]⟩ : ByteArray), 0, 0, 0⟩ : Stmt), (⟨9, (⟨#[]⟩ : ByteArray), (⟨#[]⟩ : ByteArray), (⟨#[]⟩ : ByteArray), (⟨#[]⟩ : ByteArray), 0, 0, 0⟩ : Stmt)] : List (Stmt))) (inner := [.int .i64 1, .string (⟨#[120]⟩ : ByteArray), .string (⟨#[]⟩ : ByteArray), .string (⟨#[]⟩ : ByteArray), .string (⟨#[]⟩ : ByteArray), .int .i64 1, .int .i64 0, .int .i64 0, .int .i64 6, .string (⟨#[]⟩ : ByteArray), .string (⟨#[120]⟩ : ByteArray), .string (⟨#[]⟩ : ByteArray), .string (⟨#[]⟩ : ByteArray), .int .i64 0, .int .i64 0, .int .i64 0, .int .i64 9, .string (⟨#[]⟩ : ByteArray), .string (⟨#[]⟩ : ByteArray), .string (⟨#[]⟩ : ByteArray), .string (⟨#[]⟩ : ByteArray), .int .i64 0, .int .i64 0, .int .i64 0]) (ok := fun _ => True) (okp := fun _ => True) ?hr ?hp (fun _ hk => hk) trivial (Below.refl _ _) (Nat.le_refl _) (by simp) ?_; (case hd => rfl); (case hg => rfl); (case hr => first | (go_simp; done) | (go_simp; rfl)); (case hp => exact (Reps.c8 (show Kd.M k30 _ _ _ (⟨1, (⟨#[120]⟩ : ByteArray), (⟨#[]⟩ : ByteArray), (⟨#[]⟩ : ByteArray), (⟨#[]⟩ : ByteArray), 1, 0, 0⟩ : Stmt) [.int .i64 1, .string (⟨#[120]⟩ : ByteArray), .string (⟨#[]⟩ : ByteArray), .string (⟨#[]⟩ : ByteArray), .string (⟨#[]⟩ : ByteArray), .int .i64 1, .int .i64 0, .int .i64 0] from (k30_mkM _ _ _ (⟨1, (⟨#[120]⟩ : ByteArray), (⟨#[]⟩ : ByteArray), (⟨#[]⟩ : ByteArray), (⟨#[]⟩ : ByteArray), 1, 0, 0⟩ : Stmt) )) (Reps.c8 (show Kd.M k30 _ _ _ (⟨6, (⟨#[]⟩ : ByteArray), (⟨#[120]⟩ : ByteArray), (⟨#[]⟩ : ByteArray), (⟨#[]⟩ : ByteArray), 0, 0, 0⟩ : Stmt) [.int .i64 6, .string (⟨#[]⟩ : ByteArray), .string (⟨#[120]⟩ : ByteArray), .string (⟨#[]⟩ : ByteArray), .string (⟨#[]⟩ : ByteArray), .int .i64 0, .int .i64 0, .int .i64 0] from (k30_mkM _ _ _ (⟨6, (⟨#[]⟩ : ByteArray), (⟨#[120]⟩ : ByteArray), (⟨#[]⟩ : ByteArray), (⟨#[]⟩ : ByteArray), 0, 0, 0⟩ : Stmt) )) (Reps.c8 (show Kd.M k30 _ _ _ (⟨9, (⟨#[]⟩ : ByteArray), (⟨#[]⟩ : ByteArray), (⟨#[]⟩ : ByteArray), (⟨#[]⟩ : ByteArray), 0, 0, 0⟩ : Stmt) [.int .i64 9, .string (⟨#[]⟩ : ByteArray), .string (⟨#[]⟩ : ByteArray), .string (⟨#[]⟩ : ByteArray), .string (⟨#[]⟩ : ByteArray), .int .i64 0, .int .i64 0, .int .i64 0] from (k30_mkM _ _ _ (⟨9, (⟨#[]⟩ : ByteArray), (⟨#[]⟩ : ByteArray), (⟨#[]⟩ : ByteArray), (⟨#[]⟩ : ByteArray), 0, 0, 0⟩ : Stmt) )) (Reps.none _ _))))); intro v102 w7 ho8 hb hg_ hnew_; clear hg_ hnew_; (first | rw [← Ny101.out] at ho8 | (simp only [Int.reduceToNat] at ho8; rw [← Ny101.out] at ho8)); have HO103 := am (Kd.R_lower ho8 (below_size (by repeat (first | (with_reducible first | exact HB.out | apply lA | apply lN | apply lD) | exact HB.out)))); replace HB := am (below_step (by repeat (first | (with_reducible first | exact HB.out | apply lA | apply lN | apply lD) | exact HB.out)) hb); clear hb ho8; obtain ⟨Ao9, co9, eo9⟩ := Kd.R_slice HO103.out; subst eo9) | ((with_reducible refine gate_callee (f := 23) rfl ?_); refine goesL_ (some 7) rfl rfl Try.func23 (by kernel_rfl) rfl #[.slice Ao9 y101.length co9, .int .i64 1, .string (⟨#[120]⟩ : ByteArray), .int .i64 0] rfl (by (try simp only [List.map_toArray, List.map_cons, List.map_nil]); first | done | rfl | (simp only [List.length_drop, List.length_take]; rfl)) ?_; (with_reducible refine (cfg_Reaches.calls k _ _ y101 1 (⟨#[120]⟩ : ByteArray) 0 true _ ?side1 ?side2 A1.out).mono ?_); (case side1 => repeat (first | exact (Kd.R_reads' HO103.out).2.2 | (with_reducible refine Kd.C_alloc ?_ _) | (with_reducible refine Kd.C_drewN ?_ _) | (with_reducible refine Kd.C_drew ?_))); (case side2 => exact (Kd.R_reads' HO103.out).2.1); rintro e w10 ⟨rfl, hb⟩; refine ⟨_, rfl, ?_⟩; replace HO103 := am (Kd.R_below (by (with_reducible repeat (first | apply Ra | apply Rn | apply Rd)); exact HO103.out) hb); replace HB := am (below_step (by repeat (first | (with_reducible first | exact HB.out | apply lA | apply lN | apply lD) | exact HB.out)) hb); (try clear hb); (try clear hb2); (try clear hk); (try clear hi)) | (go_at_call 23; (with_reducible refine (cfg_Reaches.calls k _ _ y101 2 (⟨#[120]⟩ : ByteArray) 0 true _ ?side1 ?side2 A3.out).mono ?_); (case side1 => repeat (first | exact (Kd.R_reads' HO103.out).2.2 | (with_reducible refine Kd.C_alloc ?_ _) | (with_reducible refine Kd.C_drewN ?_ _) | (with_reducible refine Kd.C_drew ?_))); (case side2 => exact (Kd.R_reads' HO103.out).2.1); rintro e w11 ⟨rfl, hb⟩; replace HO103 := am (Kd.R_below (by (with_reducible repeat (first | apply Ra | apply Rn | apply Rd)); exact HO103.out) hb); replace HB := am (below_step (by repeat (first | (with_reducible first | exact HB.out | apply lA | apply lN | apply lD) | exact HB.out)) hb); (try clear hb); (try clear hb2); (try clear hk); (try clear hi)) | (go_at_call 23; (with_reducible refine (cfg_Reaches.calls k _ _ y101 0 (⟨#[120]⟩ : ByteArray) 0 true _ ?side1 ?side2 A5.out).mono ?_); (case side1 => repeat (first | exact (Kd.R_reads' HO103.out).2.2 | (with_reducible refine Kd.C_alloc ?_ _) | (with_reducible refine Kd.C_drewN ?_ _) | (with_reducible refine Kd.C_drew ?_))); (case side2 => exact (Kd.R_reads' HO103.out).2.1); rintro e w12 ⟨rfl, hb⟩; replace HO103 := am (Kd.R_below (by (with_reducible repeat (first | apply Ra | apply Rn | apply Rd)); exact HO103.out) hb); replace HB := am (below_step (by repeat (first | (with_reducible first | exact HB.out | apply lA | apply lN | apply lD) | exact HB.out)) hb); (try clear hb); (try clear hb2); (try clear hk); (try clear hi)))
    go_ret
    exact ⟨by first | rfl | (simp [errW_none, errW_some] <;> rfl) | (simp [*, errW_none, errW_some] <;> rfl), by repeat (first | (with_reducible first | exact HB.out | apply lA | apply lN | apply lD) | exact HB.out)⟩
   ·replace c6 := Bool.eq_false_iff.mpr c6
    subst c6
    have H1 : ((cfg_Lives.f k y101 1 (⟨#[120]⟩ : ByteArray)).bind fun t107 => (if t107 = true then ((cfg_Lives.f k y101 0 (⟨#[120]⟩ : ByteArray)).bind fun t108 => (if t108 = true then (some false) else ((cfg_Lives.f k y101 2 (⟨#[120]⟩ : ByteArray)).bind fun t109 => (if t109 = true then (some false) else ((cfg_Next.f y101 1).bind fun t110 => ((lambrequinref10_Ints.f k t110 (([2] : List Int))).bind fun t116 => (some t116))))))) else (some false))) = some r := by rw [if_neg (show ¬ (false = true) by decide)] at H; exact H
    clear H
    have H := H1
    clear H1
    replace H := Option.bind_eq_some_iff.mp H
    obtain ⟨t107, A130, H⟩ := H
    replace H : (if t107 = true then ((cfg_Lives.f k y101 0 (⟨#[120]⟩ : ByteArray)).bind fun t108 => (if t108 = true then (some false) else ((cfg_Lives.f k y101 2 (⟨#[120]⟩ : ByteArray)).bind fun t109 => (if t109 = true then (some false) else ((cfg_Next.f y101 1).bind fun t110 => ((lambrequinref10_Ints.f k t110 (([2] : List Int))).bind fun t116 => (some t116))))))) else (some false)) = some r := H
    have A13 := am A130
    clear A130
    by_cases c14 : t107 = true
    ·subst c14
     have H1 : ((cfg_Lives.f k y101 0 (⟨#[120]⟩ : ByteArray)).bind fun t108 => (if t108 = true then (some false) else ((cfg_Lives.f k y101 2 (⟨#[120]⟩ : ByteArray)).bind fun t109 => (if t109 = true then (some false) else ((cfg_Next.f y101 1).bind fun t110 => ((lambrequinref10_Ints.f k t110 (([2] : List Int))).bind fun t116 => (some t116))))))) = some r := by rw [if_pos rfl] at H; exact H
     clear H
     have H := H1
     clear H1
     replace H := Option.bind_eq_some_iff.mp H
     obtain ⟨t108, A150, H⟩ := H
     replace H : (if t108 = true then (some false) else ((cfg_Lives.f k y101 2 (⟨#[120]⟩ : ByteArray)).bind fun t109 => (if t109 = true then (some false) else ((cfg_Next.f y101 1).bind fun t110 => ((lambrequinref10_Ints.f k t110 (([2] : List Int))).bind fun t116 => (some t116)))))) = some r := H
     have A15 := am A150
     clear A150
     by_cases c16 : t108 = true
     ·subst c16
      have H1 : (some false) = some r := by rw [if_pos rfl] at H; exact H
      clear H
      have H := H1
      clear H1
      obtain rfl := Option.some.inj H
      go_enter Try.func17, Try.ntmps17
      go_wp2_with (first | ((with_reducible refine gate_dst (N := 5) rfl ?_); (try (refine gate_guard (by rfl) ?_; dsimp only)); refine Kd.R_lit k30 _ 30 ?hg (N := 5) ?hd (xs := ([(⟨1, (⟨#[120]⟩ : ByteArray), (⟨#[]⟩ : ByteArray), (⟨#[]⟩ : ByteArray), (⟨#[]⟩ : ByteArray), 1, 0, 0⟩ : Stmt), (⟨6, (⟨#[]⟩ : ByteArray), (⟨#[120]⟩ : ByteArray), (⟨#[]⟩ : ByteArray), (⟨#[]⟩ : ByteArray), 0, 0, 0⟩ : Stmt), (⟨9, (⟨#[]⟩ : ByteArray), (⟨#[]⟩ : ByteArray), (⟨#[]⟩ : ByteArray), (⟨#[]⟩ : ByteArray), 0, 0, 0⟩ : Stmt)] : List (Stmt))) (inner := [.int .i64 1, .string (⟨#[120]⟩ : ByteArray), .string (⟨#[]⟩ : ByteArray), .string (⟨#[]⟩ : ByteArray), .string (⟨#[]⟩ : ByteArray), .int .i64 1, .int .i64 0, .int .i64 0, .int .i64 6, .string (⟨#[]⟩ : ByteArray), .string (⟨#[120]⟩ : ByteArray), .string (⟨#[]⟩ : ByteArray), .string (⟨#[]⟩ : ByteArray), .int .i64 0, .int .i64 0, .int .i64 0, .int .i64 9, .string (⟨#[]⟩ : ByteArray), .string (⟨#[]⟩ : ByteArray), .string (⟨#[]⟩ : ByteArray), .string (⟨#[]⟩ : ByteArray), .int .i64 0, .int .i64 0, .int .i64 0]) (ok := fun _ => True) (okp := fun _ => True) ?hr ?hp (fun _ hk => hk) trivial (Below.refl _ _) (Nat.le_refl _) (by simp) ?_; (case hd => rfl); (case hg => rfl); (case hr => first | (go_simp; done) | (go_simp; rfl)); (case hp => exact (Reps.c8 (show Kd.M k30 _ _ _ (⟨1, (⟨#[120]⟩ : ByteArray), (⟨#[]⟩ : ByteArray), (⟨#[]⟩ : ByteArray), (⟨#[]⟩ : ByteArray), 1, 0, 0⟩ : Stmt) [.int .i64 1, .string (⟨#[120]⟩ : ByteArray), .string (⟨#[]⟩ : ByteArray), .string (⟨#[]⟩ : ByteArray), .string (⟨#[]⟩ : ByteArray), .int .i64 1, .int .i64 0, .int .i64 0] from (k30_mkM _ _ _ (⟨1, (⟨#[120]⟩ : ByteArray), (⟨#[]⟩ : ByteArray), (⟨#[]⟩ : ByteArray), (⟨#[]⟩ : ByteArray), 1, 0, 0⟩ : Stmt) )) (Reps.c8 (show Kd.M k30 _ _ _ (⟨6, (⟨#[]⟩ : ByteArray), (⟨#[120]⟩ : ByteArray), (⟨#[]⟩ : ByteArray), (⟨#[]⟩ : ByteArray), 0, 0, 0⟩ : Stmt) [.int .i64 6, .string (⟨#[]⟩ : ByteArray), .string (⟨#[120]⟩ : ByteArray), .string (⟨#[]⟩ : ByteArray), .string (⟨#[]⟩ : ByteArray), .int .i64 0, .int .i64 0, .int .i64 0] from (k30_mkM _ _ _ (⟨6, (⟨#[]⟩ : ByteArray), (⟨#[120]⟩ : ByteArray), (⟨#[]⟩ : ByteArray), (⟨#[]⟩ : ByteArray), 0, 0, 0⟩ : Stmt) )) (Reps.c8 (show Kd.M k30 _ _ _ (⟨9, (⟨#[]⟩ : ByteArray), (⟨#[]⟩ : ByteArray), (⟨#[]⟩ : ByteArray), (⟨#[]⟩ : ByteArray), 0, 0, 0⟩ : Stmt) [.int .i64 9, .string (⟨#[]⟩ : ByteArray), .string (⟨#[]⟩ : ByteArray), .string (⟨#[]⟩ : ByteArray), .string (⟨#[]⟩ : ByteArray), .int .i64 0, .int .i64 0, .int .i64 0] from (k30_mkM _ _ _ (⟨9, (⟨#[]⟩ : ByteArray), (⟨#[]⟩ : ByteArray), (⟨#[]⟩ : ByteArray), (⟨#[]⟩ : ByteArray), 0, 0, 0⟩ : Stmt) )) (Reps.none _ _))))); intro v102 w17 ho18 hb hg_ hnew_; clear hg_ hnew_; (first | rw [← Ny101.out] at ho18 | (simp only [Int.reduceToNat] at ho18; rw [← Ny101.out] at ho18)); have HO103 := am (Kd.R_lower ho18 (below_size (by repeat (first | (with_reducible first | exact HB.out | apply lA | apply lN | apply lD) | exact HB.out)))); replace HB := am (below_step (by repeat (first | (with_reducible first | exact HB.out | apply lA | apply lN | apply lD) | exact HB.out)) hb); clear hb ho18; obtain ⟨Ao19, co19, eo19⟩ := Kd.R_slice HO103.out; subst eo19) | ((with_reducible refine gate_callee (f := 23) rfl ?_); refine goesL_ (some 7) rfl rfl Try.func23 (by kernel_rfl) rfl #[.slice Ao19 y101.length co19, .int .i64 1, .string (⟨#[120]⟩ : ByteArray), .int .i64 0] rfl (by (try simp only [List.map_toArray, List.map_cons, List.map_nil]); first | done | rfl | (simp only [List.length_drop, List.length_take]; rfl)) ?_; (with_reducible refine (cfg_Reaches.calls k _ _ y101 1 (⟨#[120]⟩ : ByteArray) 0 true _ ?side1 ?side2 A1.out).mono ?_); (case side1 => repeat (first | exact (Kd.R_reads' HO103.out).2.2 | (with_reducible refine Kd.C_alloc ?_ _) | (with_reducible refine Kd.C_drewN ?_ _) | (with_reducible refine Kd.C_drew ?_))); (case side2 => exact (Kd.R_reads' HO103.out).2.1); rintro e w20 ⟨rfl, hb⟩; refine ⟨_, rfl, ?_⟩; replace HO103 := am (Kd.R_below (by (with_reducible repeat (first | apply Ra | apply Rn | apply Rd)); exact HO103.out) hb); replace HB := am (below_step (by repeat (first | (with_reducible first | exact HB.out | apply lA | apply lN | apply lD) | exact HB.out)) hb); (try clear hb); (try clear hb2); (try clear hk); (try clear hi)) | (go_at_call 23; (with_reducible refine (cfg_Reaches.calls k _ _ y101 2 (⟨#[120]⟩ : ByteArray) 0 true _ ?side1 ?side2 A3.out).mono ?_); (case side1 => repeat (first | exact (Kd.R_reads' HO103.out).2.2 | (with_reducible refine Kd.C_alloc ?_ _) | (with_reducible refine Kd.C_drewN ?_ _) | (with_reducible refine Kd.C_drew ?_))); (case side2 => exact (Kd.R_reads' HO103.out).2.1); rintro e w21 ⟨rfl, hb⟩; replace HO103 := am (Kd.R_below (by (with_reducible repeat (first | apply Ra | apply Rn | apply Rd)); exact HO103.out) hb); replace HB := am (below_step (by repeat (first | (with_reducible first | exact HB.out | apply lA | apply lN | apply lD) | exact HB.out)) hb); (try clear hb); (try clear hb2); (try clear hk); (try clear hi)) | (go_at_call 23; (with_reducible refine (cfg_Reaches.calls k _ _ y101 0 (⟨#[120]⟩ : ByteArray) 0 false _ ?side1 ?side2 A5.out).mono ?_); (case side1 => repeat (first | exact (Kd.R_reads' HO103.out).2.2 | (with_reducible refine Kd.C_alloc ?_ _) | (with_reducible refine Kd.C_drewN ?_ _) | (with_reducible refine Kd.C_drew ?_))); (case side2 => exact (Kd.R_reads' HO103.out).2.1); rintro e w22 ⟨rfl, hb⟩; replace HO103 := am (Kd.R_below (by (with_reducible repeat (first | apply Ra | apply Rn | apply Rd)); exact HO103.out) hb); replace HB := am (below_step (by repeat (first | (with_reducible first | exact HB.out | apply lA | apply lN | apply lD) | exact HB.out)) hb); (try clear hb); (try clear hb2); (try clear hk); (try clear hi)) | (go_at_call 18; (with_reducible refine (cfg_Lives.calls k _ _ y101 1 (⟨#[120]⟩ : ByteArray) true _ ?side1 ?side2 A13.out).mono ?_); (case side1 => repeat (first | exact (Kd.R_reads' HO103.out).2.2 | (with_reducible refine Kd.C_alloc ?_ _) | (with_reducible refine Kd.C_drewN ?_ _) | (with_reducible refine Kd.C_drew ?_))); (case side2 => exact (Kd.R_reads' HO103.out).2.1); rintro e w23 ⟨rfl, hb⟩; replace HO103 := am (Kd.R_below (by (with_reducible repeat (first | apply Ra | apply Rn | apply Rd)); exact HO103.out) hb); replace HB := am (below_step (by repeat (first | (with_reducible first | exact HB.out | apply lA | apply lN | apply lD) | exact HB.out)) hb); (try clear hb); (try clear hb2); (try clear hk); (try clear hi)) | (go_at_call 18; (with_reducible refine (cfg_Lives.calls k _ _ y101 0 (⟨#[120]⟩ : ByteArray) true _ ?side1 ?side2 A15.out).mono ?_); (case side1 => repeat (first | exact (Kd.R_reads' HO103.out).2.2 | (with_reducible refine Kd.C_alloc ?_ _) | (with_reducible refine Kd.C_drewN ?_ _) | (with_reducible refine Kd.C_drew ?_))); (case side2 => exact (Kd.R_reads' HO103.out).2.1); rintro e w24 ⟨rfl, hb⟩; replace HO103 := am (Kd.R_below (by (with_reducible repeat (first | apply Ra | apply Rn | apply Rd)); exact HO103.out) hb); replace HB := am (below_step (by repeat (first | (with_reducible first | exact HB.out | apply lA | apply lN | apply lD) | exact HB.out)) hb); (try clear hb); (try clear hb2); (try clear hk); (try clear hi)))
      go_ret
      exact ⟨by first | rfl | (simp [errW_none, errW_some] <;> rfl) | (simp [*, errW_none, errW_some] <;> rfl), by repeat (first | (with_reducible first | exact HB.out | apply lA | apply lN | apply lD) | exact HB.out)⟩
     ·replace c16 := Bool.eq_false_iff.mpr c16
      subst c16
      have H1 : ((cfg_Lives.f k y101 2 (⟨#[120]⟩ : ByteArray)).bind fun t109 => (if t109 = true then (some false) else ((cfg_Next.f y101 1).bind fun t110 => ((lambrequinref10_Ints.f k t110 (([2] : List Int))).bind fun t116 => (some t116))))) = some r := by rw [if_neg (show ¬ (false = true) by decide)] at H; exact H
      clear H
      have H := H1
      clear H1
      replace H := Option.bind_eq_some_iff.mp H
      obtain ⟨t109, A250, H⟩ := H
      replace H : (if t109 = true then (some false) else ((cfg_Next.f y101 1).bind fun t110 => ((lambrequinref10_Ints.f k t110 (([2] : List Int))).bind fun t116 => (some t116)))) = some r := H
      have A25 := am A250
      clear A250
      by_cases c26 : t109 = true
      ·subst c26
       have H1 : (some false) = some r := by rw [if_pos rfl] at H; exact H
       clear H
       have H := H1
       clear H1
       obtain rfl := Option.some.inj H
       go_enter Try.func17, Try.ntmps17
       go_wp2_with (first | ((with_reducible refine gate_dst (N := 5) rfl ?_); (try (refine gate_guard (by rfl) ?_; dsimp only)); refine Kd.R_lit k30 _ 30 ?hg (N := 5) ?hd (xs := ([(⟨1, (⟨#[120]⟩ : ByteArray), (⟨#[]⟩ : ByteArray), (⟨#[]⟩ : ByteArray), (⟨#[]⟩ : ByteArray), 1, 0, 0⟩ : Stmt), (⟨6, (⟨#[]⟩ : ByteArray), (⟨#[120]⟩ : ByteArray), (⟨#[]⟩ : ByteArray), (⟨#[]⟩ : ByteArray), 0, 0, 0⟩ : Stmt), (⟨9, (⟨#[]⟩ : ByteArray), (⟨#[]⟩ : ByteArray), (⟨#[]⟩ : ByteArray), (⟨#[]⟩ : ByteArray), 0, 0, 0⟩ : Stmt)] : List (Stmt))) (inner := [.int .i64 1, .string (⟨#[120]⟩ : ByteArray), .string (⟨#[]⟩ : ByteArray), .string (⟨#[]⟩ : ByteArray), .string (⟨#[]⟩ : ByteArray), .int .i64 1, .int .i64 0, .int .i64 0, .int .i64 6, .string (⟨#[]⟩ : ByteArray), .string (⟨#[120]⟩ : ByteArray), .string (⟨#[]⟩ : ByteArray), .string (⟨#[]⟩ : ByteArray), .int .i64 0, .int .i64 0, .int .i64 0, .int .i64 9, .string (⟨#[]⟩ : ByteArray), .string (⟨#[]⟩ : ByteArray), .string (⟨#[]⟩ : ByteArray), .string (⟨#[]⟩ : ByteArray), .int .i64 0, .int .i64 0, .int .i64 0]) (ok := fun _ => True) (okp := fun _ => True) ?hr ?hp (fun _ hk => hk) trivial (Below.refl _ _) (Nat.le_refl _) (by simp) ?_; (case hd => rfl); (case hg => rfl); (case hr => first | (go_simp; done) | (go_simp; rfl)); (case hp => exact (Reps.c8 (show Kd.M k30 _ _ _ (⟨1, (⟨#[120]⟩ : ByteArray), (⟨#[]⟩ : ByteArray), (⟨#[]⟩ : ByteArray), (⟨#[]⟩ : ByteArray), 1, 0, 0⟩ : Stmt) [.int .i64 1, .string (⟨#[120]⟩ : ByteArray), .string (⟨#[]⟩ : ByteArray), .string (⟨#[]⟩ : ByteArray), .string (⟨#[]⟩ : ByteArray), .int .i64 1, .int .i64 0, .int .i64 0] from (k30_mkM _ _ _ (⟨1, (⟨#[120]⟩ : ByteArray), (⟨#[]⟩ : ByteArray), (⟨#[]⟩ : ByteArray), (⟨#[]⟩ : ByteArray), 1, 0, 0⟩ : Stmt) )) (Reps.c8 (show Kd.M k30 _ _ _ (⟨6, (⟨#[]⟩ : ByteArray), (⟨#[120]⟩ : ByteArray), (⟨#[]⟩ : ByteArray), (⟨#[]⟩ : ByteArray), 0, 0, 0⟩ : Stmt) [.int .i64 6, .string (⟨#[]⟩ : ByteArray), .string (⟨#[120]⟩ : ByteArray), .string (⟨#[]⟩ : ByteArray), .string (⟨#[]⟩ : ByteArray), .int .i64 0, .int .i64 0, .int .i64 0] from (k30_mkM _ _ _ (⟨6, (⟨#[]⟩ : ByteArray), (⟨#[120]⟩ : ByteArray), (⟨#[]⟩ : ByteArray), (⟨#[]⟩ : ByteArray), 0, 0, 0⟩ : Stmt) )) (Reps.c8 (show Kd.M k30 _ _ _ (⟨9, (⟨#[]⟩ : ByteArray), (⟨#[]⟩ : ByteArray), (⟨#[]⟩ : ByteArray), (⟨#[]⟩ : ByteArray), 0, 0, 0⟩ : Stmt) [.int .i64 9, .string (⟨#[]⟩ : ByteArray), .string (⟨#[]⟩ : ByteArray), .string (⟨#[]⟩ : ByteArray), .string (⟨#[]⟩ : ByteArray), .int .i64 0, .int .i64 0, .int .i64 0] from (k30_mkM _ _ _ (⟨9, (⟨#[]⟩ : ByteArray), (⟨#[]⟩ : ByteArray), (⟨#[]⟩ : ByteArray), (⟨#[]⟩ : ByteArray), 0, 0, 0⟩ : Stmt) )) (Reps.none _ _))))); intro v102 w27 ho28 hb hg_ hnew_; clear hg_ hnew_; (first | rw [← Ny101.out] at ho28 | (simp only [Int.reduceToNat] at ho28; rw [← Ny101.out] at ho28)); have HO103 := am (Kd.R_lower ho28 (below_size (by repeat (first | (with_reducible first | exact HB.out | apply lA | apply lN | apply lD) | exact HB.out)))); replace HB := am (below_step (by repeat (first | (with_reducible first | exact HB.out | apply lA | apply lN | apply lD) | exact HB.out)) hb); clear hb ho28; obtain ⟨Ao29, co29, eo29⟩ := Kd.R_slice HO103.out; subst eo29) | ((with_reducible refine gate_callee (f := 23) rfl ?_); refine goesL_ (some 7) rfl rfl Try.func23 (by kernel_rfl) rfl #[.slice Ao29 y101.length co29, .int .i64 1, .string (⟨#[120]⟩ : ByteArray), .int .i64 0] rfl (by (try simp only [List.map_toArray, List.map_cons, List.map_nil]); first | done | rfl | (simp only [List.length_drop, List.length_take]; rfl)) ?_; (with_reducible refine (cfg_Reaches.calls k _ _ y101 1 (⟨#[120]⟩ : ByteArray) 0 true _ ?side1 ?side2 A1.out).mono ?_); (case side1 => repeat (first | exact (Kd.R_reads' HO103.out).2.2 | (with_reducible refine Kd.C_alloc ?_ _) | (with_reducible refine Kd.C_drewN ?_ _) | (with_reducible refine Kd.C_drew ?_))); (case side2 => exact (Kd.R_reads' HO103.out).2.1); rintro e w30 ⟨rfl, hb⟩; refine ⟨_, rfl, ?_⟩; replace HO103 := am (Kd.R_below (by (with_reducible repeat (first | apply Ra | apply Rn | apply Rd)); exact HO103.out) hb); replace HB := am (below_step (by repeat (first | (with_reducible first | exact HB.out | apply lA | apply lN | apply lD) | exact HB.out)) hb); (try clear hb); (try clear hb2); (try clear hk); (try clear hi)) | (go_at_call 23; (with_reducible refine (cfg_Reaches.calls k _ _ y101 2 (⟨#[120]⟩ : ByteArray) 0 true _ ?side1 ?side2 A3.out).mono ?_); (case side1 => repeat (first | exact (Kd.R_reads' HO103.out).2.2 | (with_reducible refine Kd.C_alloc ?_ _) | (with_reducible refine Kd.C_drewN ?_ _) | (with_reducible refine Kd.C_drew ?_))); (case side2 => exact (Kd.R_reads' HO103.out).2.1); rintro e w31 ⟨rfl, hb⟩; replace HO103 := am (Kd.R_below (by (with_reducible repeat (first | apply Ra | apply Rn | apply Rd)); exact HO103.out) hb); replace HB := am (below_step (by repeat (first | (with_reducible first | exact HB.out | apply lA | apply lN | apply lD) | exact HB.out)) hb); (try clear hb); (try clear hb2); (try clear hk); (try clear hi)) | (go_at_call 23; (with_reducible refine (cfg_Reaches.calls k _ _ y101 0 (⟨#[120]⟩ : ByteArray) 0 false _ ?side1 ?side2 A5.out).mono ?_); (case side1 => repeat (first | exact (Kd.R_reads' HO103.out).2.2 | (with_reducible refine Kd.C_alloc ?_ _) | (with_reducible refine Kd.C_drewN ?_ _) | (with_reducible refine Kd.C_drew ?_))); (case side2 => exact (Kd.R_reads' HO103.out).2.1); rintro e w32 ⟨rfl, hb⟩; replace HO103 := am (Kd.R_below (by (with_reducible repeat (first | apply Ra | apply Rn | apply Rd)); exact HO103.out) hb); replace HB := am (below_step (by repeat (first | (with_reducible first | exact HB.out | apply lA | apply lN | apply lD) | exact HB.out)) hb); (try clear hb); (try clear hb2); (try clear hk); (try clear hi)) | (go_at_call 18; (with_reducible refine (cfg_Lives.calls k _ _ y101 1 (⟨#[120]⟩ : ByteArray) true _ ?side1 ?side2 A13.out).mono ?_); (case side1 => repeat (first | exact (Kd.R_reads' HO103.out).2.2 | (with_reducible refine Kd.C_alloc ?_ _) | (with_reducible refine Kd.C_drewN ?_ _) | (with_reducible refine Kd.C_drew ?_))); (case side2 => exact (Kd.R_reads' HO103.out).2.1); rintro e w33 ⟨rfl, hb⟩; replace HO103 := am (Kd.R_below (by (with_reducible repeat (first | apply Ra | apply Rn | apply Rd)); exact HO103.out) hb); replace HB := am (below_step (by repeat (first | (with_reducible first | exact HB.out | apply lA | apply lN | apply lD) | exact HB.out)) hb); (try clear hb); (try clear hb2); (try clear hk); (try clear hi)) | (go_at_call 18; (with_reducible refine (cfg_Lives.calls k _ _ y101 0 (⟨#[120]⟩ : ByteArray) false _ ?side1 ?side2 A15.out).mono ?_); (case side1 => repeat (first | exact (Kd.R_reads' HO103.out).2.2 | (with_reducible refine Kd.C_alloc ?_ _) | (with_reducible refine Kd.C_drewN ?_ _) | (with_reducible refine Kd.C_drew ?_))); (case side2 => exact (Kd.R_reads' HO103.out).2.1); rintro e w34 ⟨rfl, hb⟩; replace HO103 := am (Kd.R_below (by (with_reducible repeat (first | apply Ra | apply Rn | apply Rd)); exact HO103.out) hb); replace HB := am (below_step (by repeat (first | (with_reducible first | exact HB.out | apply lA | apply lN | apply lD) | exact HB.out)) hb); (try clear hb); (try clear hb2); (try clear hk); (try clear hi)) | (go_at_call 18; (with_reducible refine (cfg_Lives.calls k _ _ y101 2 (⟨#[120]⟩ : ByteArray) true _ ?side1 ?side2 A25.out).mono ?_); (case side1 => repeat (first | exact (Kd.R_reads' HO103.out).2.2 | (with_reducible refine Kd.C_alloc ?_ _) | (with_reducible refine Kd.C_drewN ?_ _) | (with_reducible refine Kd.C_drew ?_))); (case side2 => exact (Kd.R_reads' HO103.out).2.1); rintro e w35 ⟨rfl, hb⟩; replace HO103 := am (Kd.R_below (by (with_reducible repeat (first | apply Ra | apply Rn | apply Rd)); exact HO103.out) hb); replace HB := am (below_step (by repeat (first | (with_reducible first | exact HB.out | apply lA | apply lN | apply lD) | exact HB.out)) hb); (try clear hb); (try clear hb2); (try clear hk); (try clear hi)))
       go_ret
       exact ⟨by first | rfl | (simp [errW_none, errW_some] <;> rfl) | (simp [*, errW_none, errW_some] <;> rfl), by repeat (first | (with_reducible first | exact HB.out | apply lA | apply lN | apply lD) | exact HB.out)⟩
      ·replace c26 := Bool.eq_false_iff.mpr c26
       subst c26
       have H1 : ((cfg_Next.f y101 1).bind fun t110 => ((lambrequinref10_Ints.f k t110 (([2] : List Int))).bind fun t116 => (some t116))) = some r := by rw [if_neg (show ¬ (false = true) by decide)] at H; exact H
       clear H
       have H := H1
       clear H1
       replace H := Option.bind_eq_some_iff.mp H
       obtain ⟨t110, A360, H⟩ := H
       replace H : ((lambrequinref10_Ints.f k t110 (([2] : List Int))).bind fun t116 => (some t116)) = some r := H
       have A36 := am A360
       clear A360
       obtain ⟨y113, hy113⟩ : ∃ y_ : List Int, y_ = (([2] : List Int)) := ⟨_, rfl⟩
       replace H : ((lambrequinref10_Ints.f k t110 y113).bind fun t116 => (some t116)) = some r := by first | (rw [hy113]; with_reducible exact H) | (have H2_ := (Option.bind_some _ _).symm.trans H; rw [hy113]; with_reducible exact H2_) | (have H2_ := (Option.bind_some _ _).symm.trans H; with_reducible exact H2_) | with_reducible exact H | (rw [hy113]; exact H) | exact H
       have Ny113 := am hy113
       clear hy113
       replace H := Option.bind_eq_some_iff.mp H
       obtain ⟨t116, A370, H⟩ := H
       replace H : (some t116) = some r := H
       have A37 := am A370
       clear A370
       obtain rfl := Option.some.inj H
       go_enter Try.func17, Try.ntmps17
       go_wp2_with (first | ((with_reducible refine gate_dst (N := 5) rfl ?_); (try (refine gate_guard (by rfl) ?_; dsimp only)); refine Kd.R_lit k30 _ 30 ?hg (N := 5) ?hd (xs := ([(⟨1, (⟨#[120]⟩ : ByteArray), (⟨#[]⟩ : ByteArray), (⟨#[]⟩ : ByteArray), (⟨#[]⟩ : ByteArray), 1, 0, 0⟩ : Stmt), (⟨6, (⟨#[]⟩ : ByteArray), (⟨#[120]⟩ : ByteArray), (⟨#[]⟩ : ByteArray), (⟨#[]⟩ : ByteArray), 0, 0, 0⟩ : Stmt), (⟨9, (⟨#[]⟩ : ByteArray), (⟨#[]⟩ : ByteArray), (⟨#[]⟩ : ByteArray), (⟨#[]⟩ : ByteArray), 0, 0, 0⟩ : Stmt)] : List (Stmt))) (inner := [.int .i64 1, .string (⟨#[120]⟩ : ByteArray), .string (⟨#[]⟩ : ByteArray), .string (⟨#[]⟩ : ByteArray), .string (⟨#[]⟩ : ByteArray), .int .i64 1, .int .i64 0, .int .i64 0, .int .i64 6, .string (⟨#[]⟩ : ByteArray), .string (⟨#[120]⟩ : ByteArray), .string (⟨#[]⟩ : ByteArray), .string (⟨#[]⟩ : ByteArray), .int .i64 0, .int .i64 0, .int .i64 0, .int .i64 9, .string (⟨#[]⟩ : ByteArray), .string (⟨#[]⟩ : ByteArray), .string (⟨#[]⟩ : ByteArray), .string (⟨#[]⟩ : ByteArray), .int .i64 0, .int .i64 0, .int .i64 0]) (ok := fun _ => True) (okp := fun _ => True) ?hr ?hp (fun _ hk => hk) trivial (Below.refl _ _) (Nat.le_refl _) (by simp) ?_; (case hd => rfl); (case hg => rfl); (case hr => first | (go_simp; done) | (go_simp; rfl)); (case hp => exact (Reps.c8 (show Kd.M k30 _ _ _ (⟨1, (⟨#[120]⟩ : ByteArray), (⟨#[]⟩ : ByteArray), (⟨#[]⟩ : ByteArray), (⟨#[]⟩ : ByteArray), 1, 0, 0⟩ : Stmt) [.int .i64 1, .string (⟨#[120]⟩ : ByteArray), .string (⟨#[]⟩ : ByteArray), .string (⟨#[]⟩ : ByteArray), .string (⟨#[]⟩ : ByteArray), .int .i64 1, .int .i64 0, .int .i64 0] from (k30_mkM _ _ _ (⟨1, (⟨#[120]⟩ : ByteArray), (⟨#[]⟩ : ByteArray), (⟨#[]⟩ : ByteArray), (⟨#[]⟩ : ByteArray), 1, 0, 0⟩ : Stmt) )) (Reps.c8 (show Kd.M k30 _ _ _ (⟨6, (⟨#[]⟩ : ByteArray), (⟨#[120]⟩ : ByteArray), (⟨#[]⟩ : ByteArray), (⟨#[]⟩ : ByteArray), 0, 0, 0⟩ : Stmt) [.int .i64 6, .string (⟨#[]⟩ : ByteArray), .string (⟨#[120]⟩ : ByteArray), .string (⟨#[]⟩ : ByteArray), .string (⟨#[]⟩ : ByteArray), .int .i64 0, .int .i64 0, .int .i64 0] from (k30_mkM _ _ _ (⟨6, (⟨#[]⟩ : ByteArray), (⟨#[120]⟩ : ByteArray), (⟨#[]⟩ : ByteArray), (⟨#[]⟩ : ByteArray), 0, 0, 0⟩ : Stmt) )) (Reps.c8 (show Kd.M k30 _ _ _ (⟨9, (⟨#[]⟩ : ByteArray), (⟨#[]⟩ : ByteArray), (⟨#[]⟩ : ByteArray), (⟨#[]⟩ : ByteArray), 0, 0, 0⟩ : Stmt) [.int .i64 9, .string (⟨#[]⟩ : ByteArray), .string (⟨#[]⟩ : ByteArray), .string (⟨#[]⟩ : ByteArray), .string (⟨#[]⟩ : ByteArray), .int .i64 0, .int .i64 0, .int .i64 0] from (k30_mkM _ _ _ (⟨9, (⟨#[]⟩ : ByteArray), (⟨#[]⟩ : ByteArray), (⟨#[]⟩ : ByteArray), (⟨#[]⟩ : ByteArray), 0, 0, 0⟩ : Stmt) )) (Reps.none _ _))))); intro v102 w38 ho39 hb hg_ hnew_; clear hg_ hnew_; (first | rw [← Ny101.out] at ho39 | (simp only [Int.reduceToNat] at ho39; rw [← Ny101.out] at ho39)); have HO103 := am (Kd.R_lower ho39 (below_size (by repeat (first | (with_reducible first | exact HB.out | apply lA | apply lN | apply lD) | exact HB.out)))); replace HB := am (below_step (by repeat (first | (with_reducible first | exact HB.out | apply lA | apply lN | apply lD) | exact HB.out)) hb); clear hb ho39; obtain ⟨Ao40, co40, eo40⟩ := Kd.R_slice HO103.out; subst eo40) | ((with_reducible refine gate_callee (f := 23) rfl ?_); refine goesL_ (some 7) rfl rfl Try.func23 (by kernel_rfl) rfl #[.slice Ao40 y101.length co40, .int .i64 1, .string (⟨#[120]⟩ : ByteArray), .int .i64 0] rfl (by (try simp only [List.map_toArray, List.map_cons, List.map_nil]); first | done | rfl | (simp only [List.length_drop, List.length_take]; rfl)) ?_; (with_reducible refine (cfg_Reaches.calls k _ _ y101 1 (⟨#[120]⟩ : ByteArray) 0 true _ ?side1 ?side2 A1.out).mono ?_); (case side1 => repeat (first | exact (Kd.R_reads' HO103.out).2.2 | (with_reducible refine Kd.C_alloc ?_ _) | (with_reducible refine Kd.C_drewN ?_ _) | (with_reducible refine Kd.C_drew ?_))); (case side2 => exact (Kd.R_reads' HO103.out).2.1); rintro e w41 ⟨rfl, hb⟩; refine ⟨_, rfl, ?_⟩; replace HO103 := am (Kd.R_below (by (with_reducible repeat (first | apply Ra | apply Rn | apply Rd)); exact HO103.out) hb); replace HB := am (below_step (by repeat (first | (with_reducible first | exact HB.out | apply lA | apply lN | apply lD) | exact HB.out)) hb); (try clear hb); (try clear hb2); (try clear hk); (try clear hi)) | (go_at_call 23; (with_reducible refine (cfg_Reaches.calls k _ _ y101 2 (⟨#[120]⟩ : ByteArray) 0 true _ ?side1 ?side2 A3.out).mono ?_); (case side1 => repeat (first | exact (Kd.R_reads' HO103.out).2.2 | (with_reducible refine Kd.C_alloc ?_ _) | (with_reducible refine Kd.C_drewN ?_ _) | (with_reducible refine Kd.C_drew ?_))); (case side2 => exact (Kd.R_reads' HO103.out).2.1); rintro e w42 ⟨rfl, hb⟩; replace HO103 := am (Kd.R_below (by (with_reducible repeat (first | apply Ra | apply Rn | apply Rd)); exact HO103.out) hb); replace HB := am (below_step (by repeat (first | (with_reducible first | exact HB.out | apply lA | apply lN | apply lD) | exact HB.out)) hb); (try clear hb); (try clear hb2); (try clear hk); (try clear hi)) | (go_at_call 23; (with_reducible refine (cfg_Reaches.calls k _ _ y101 0 (⟨#[120]⟩ : ByteArray) 0 false _ ?side1 ?side2 A5.out).mono ?_); (case side1 => repeat (first | exact (Kd.R_reads' HO103.out).2.2 | (with_reducible refine Kd.C_alloc ?_ _) | (with_reducible refine Kd.C_drewN ?_ _) | (with_reducible refine Kd.C_drew ?_))); (case side2 => exact (Kd.R_reads' HO103.out).2.1); rintro e w43 ⟨rfl, hb⟩; replace HO103 := am (Kd.R_below (by (with_reducible repeat (first | apply Ra | apply Rn | apply Rd)); exact HO103.out) hb); replace HB := am (below_step (by repeat (first | (with_reducible first | exact HB.out | apply lA | apply lN | apply lD) | exact HB.out)) hb); (try clear hb); (try clear hb2); (try clear hk); (try clear hi)) | (go_at_call 18; (with_reducible refine (cfg_Lives.calls k _ _ y101 1 (⟨#[120]⟩ : ByteArray) true _ ?side1 ?side2 A13.out).mono ?_); (case side1 => repeat (first | exact (Kd.R_reads' HO103.out).2.2 | (with_reducible refine Kd.C_alloc ?_ _) | (with_reducible refine Kd.C_drewN ?_ _) | (with_reducible refine Kd.C_drew ?_))); (case side2 => exact (Kd.R_reads' HO103.out).2.1); rintro e w44 ⟨rfl, hb⟩; replace HO103 := am (Kd.R_below (by (with_reducible repeat (first | apply Ra | apply Rn | apply Rd)); exact HO103.out) hb); replace HB := am (below_step (by repeat (first | (with_reducible first | exact HB.out | apply lA | apply lN | apply lD) | exact HB.out)) hb); (try clear hb); (try clear hb2); (try clear hk); (try clear hi)) | (go_at_call 18; (with_reducible refine (cfg_Lives.calls k _ _ y101 0 (⟨#[120]⟩ : ByteArray) false _ ?side1 ?side2 A15.out).mono ?_); (case side1 => repeat (first | exact (Kd.R_reads' HO103.out).2.2 | (with_reducible refine Kd.C_alloc ?_ _) | (with_reducible refine Kd.C_drewN ?_ _) | (with_reducible refine Kd.C_drew ?_))); (case side2 => exact (Kd.R_reads' HO103.out).2.1); rintro e w45 ⟨rfl, hb⟩; replace HO103 := am (Kd.R_below (by (with_reducible repeat (first | apply Ra | apply Rn | apply Rd)); exact HO103.out) hb); replace HB := am (below_step (by repeat (first | (with_reducible first | exact HB.out | apply lA | apply lN | apply lD) | exact HB.out)) hb); (try clear hb); (try clear hb2); (try clear hk); (try clear hi)) | (go_at_call 18; (with_reducible refine (cfg_Lives.calls k _ _ y101 2 (⟨#[120]⟩ : ByteArray) false _ ?side1 ?side2 A25.out).mono ?_); (case side1 => repeat (first | exact (Kd.R_reads' HO103.out).2.2 | (with_reducible refine Kd.C_alloc ?_ _) | (with_reducible refine Kd.C_drewN ?_ _) | (with_reducible refine Kd.C_drew ?_))); (case side2 => exact (Kd.R_reads' HO103.out).2.1); rintro e w46 ⟨rfl, hb⟩; replace HO103 := am (Kd.R_below (by (with_reducible repeat (first | apply Ra | apply Rn | apply Rd)); exact HO103.out) hb); replace HB := am (below_step (by repeat (first | (with_reducible first | exact HB.out | apply lA | apply lN | apply lD) | exact HB.out)) hb); (try clear hb); (try clear hb2); (try clear hk); (try clear hi)) | (go_at_call 19; (with_reducible refine (cfg_Next.calls _ _ y101 1 t110 _ ?side1 ?side2 A36.out).mono ?_); (case side1 => repeat (first | exact (Kd.R_reads' HO103.out).2.2 | (with_reducible refine Kd.C_alloc ?_ _) | (with_reducible refine Kd.C_drewN ?_ _) | (with_reducible refine Kd.C_drew ?_))); (case side2 => exact (Kd.R_reads' HO103.out).2.1); rintro e w47 ⟨v111, rfl, ho0, hb⟩; replace HO103 := am (Kd.R_below (by (with_reducible repeat (first | apply Ra | apply Rn | apply Rd)); exact HO103.out) hb); have HO112 := am (Kd.R_lower ho0 (below_size (by repeat (first | (with_reducible first | exact HB.out | apply lA | apply lN | apply lD) | exact HB.out)))); replace HB := am (below_step (by repeat (first | (with_reducible first | exact HB.out | apply lA | apply lN | apply lD) | exact HB.out)) hb); (try clear hb); (try clear hb2); (try clear hk); (try clear hi); (try clear ho0)) | ((with_reducible refine gate_dst (N := 34) rfl ?_); (try (refine gate_guard (by rfl) ?_; dsimp only)); refine Kd.R_lit (Kd.int .i64) _ 3 ?hg (N := 34) ?hd (xs := ([2] : List Int)) (inner := [.int .i64 2]) (ok := fun _ => True) (okp := fun _ => True) ?hr ?hp (fun _ hk => hk) trivial (Below.refl _ _) (Nat.le_refl _) (by simp) ?_; (case hd => rfl); (case hg => rfl); (case hr => first | (go_simp; done) | (go_simp; rfl)); (case hp => exact (Reps.one (show Kd.M (Kd.int .i64) _ _ _ 2 [.int .i64 2] from rfl) (Reps.none _ _))); intro v114 w48 ho49 hb hg_ hnew_; clear hg_ hnew_; (first | rw [← Ny113.out] at ho49 | (simp only [Int.reduceToNat] at ho49; rw [← Ny113.out] at ho49)); replace HO103 := am (Kd.R_below (by (with_reducible repeat (first | apply Ra | apply Rn | apply Rd)); exact HO103.out) hb); have HO115 := am (Kd.R_lower (Kd.R_new' ho49 (Kd.R_lt (by (with_reducible repeat (first | apply Ra | apply Rn | apply Rd)); exact HO112.out))) (below_size (by repeat (first | (with_reducible first | exact HB.out | apply lA | apply lN | apply lD) | exact HB.out)))); replace HO112 := am (Kd.R_elder' (by (with_reducible repeat (first | apply Ra | apply Rn | apply Rd)); exact HO112.out) (Kd.R_base ho49) hb); replace HB := am (below_step (by repeat (first | (with_reducible first | exact HB.out | apply lA | apply lN | apply lD) | exact HB.out)) hb); clear hb ho49; obtain ⟨Ao50, co50, eo50⟩ := Kd.R_slice HO112.out; subst eo50; obtain ⟨Ao51, co51, eo51⟩ := Kd.R_slice HO115.out; subst eo51) | (go_at_call 26; (with_reducible refine (lambrequinref10_Ints.calls k _ _ t110 _ _ y113 t116 _ ?side1 ?side2 ?side3 ?side4 A37.out).mono ?_); (case side1 => repeat (first | exact (Kd.R_reads' HO112.out).2.2 | (with_reducible refine Kd.C_alloc ?_ _) | (with_reducible refine Kd.C_drewN ?_ _) | (with_reducible refine Kd.C_drew ?_))); (case side2 => exact (Kd.R_reads' HO112.out).2.1); (case side3 => repeat (first | exact (Kd.R_reads' HO115.out).2.2 | (with_reducible refine Kd.C_alloc ?_ _) | (with_reducible refine Kd.C_drewN ?_ _) | (with_reducible refine Kd.C_drew ?_))); (case side4 => exact (Kd.R_reads' HO115.out).2.1); rintro e w' ⟨rfl, ⟨nd, rfl⟩⟩))
       go_ret
       exact ⟨by first | rfl | (simp [errW_none, errW_some] <;> rfl) | (simp [*, errW_none, errW_some] <;> rfl), by repeat (first | (with_reducible first | exact HB.out | apply lA | apply lN | apply lD) | exact HB.out)⟩
    ·replace c14 := Bool.eq_false_iff.mpr c14
     subst c14
     have H1 : (some false) = some r := by rw [if_neg (show ¬ (false = true) by decide)] at H; exact H
     clear H
     have H := H1
     clear H1
     obtain rfl := Option.some.inj H
     go_enter Try.func17, Try.ntmps17
     go_wp2_with (first | ((with_reducible refine gate_dst (N := 5) rfl ?_); (try (refine gate_guard (by rfl) ?_; dsimp only)); refine Kd.R_lit k30 _ 30 ?hg (N := 5) ?hd (xs := ([(⟨1, (⟨#[120]⟩ : ByteArray), (⟨#[]⟩ : ByteArray), (⟨#[]⟩ : ByteArray), (⟨#[]⟩ : ByteArray), 1, 0, 0⟩ : Stmt), (⟨6, (⟨#[]⟩ : ByteArray), (⟨#[120]⟩ : ByteArray), (⟨#[]⟩ : ByteArray), (⟨#[]⟩ : ByteArray), 0, 0, 0⟩ : Stmt), (⟨9, (⟨#[]⟩ : ByteArray), (⟨#[]⟩ : ByteArray), (⟨#[]⟩ : ByteArray), (⟨#[]⟩ : ByteArray), 0, 0, 0⟩ : Stmt)] : List (Stmt))) (inner := [.int .i64 1, .string (⟨#[120]⟩ : ByteArray), .string (⟨#[]⟩ : ByteArray), .string (⟨#[]⟩ : ByteArray), .string (⟨#[]⟩ : ByteArray), .int .i64 1, .int .i64 0, .int .i64 0, .int .i64 6, .string (⟨#[]⟩ : ByteArray), .string (⟨#[120]⟩ : ByteArray), .string (⟨#[]⟩ : ByteArray), .string (⟨#[]⟩ : ByteArray), .int .i64 0, .int .i64 0, .int .i64 0, .int .i64 9, .string (⟨#[]⟩ : ByteArray), .string (⟨#[]⟩ : ByteArray), .string (⟨#[]⟩ : ByteArray), .string (⟨#[]⟩ : ByteArray), .int .i64 0, .int .i64 0, .int .i64 0]) (ok := fun _ => True) (okp := fun _ => True) ?hr ?hp (fun _ hk => hk) trivial (Below.refl _ _) (Nat.le_refl _) (by simp) ?_; (case hd => rfl); (case hg => rfl); (case hr => first | (go_simp; done) | (go_simp; rfl)); (case hp => exact (Reps.c8 (show Kd.M k30 _ _ _ (⟨1, (⟨#[120]⟩ : ByteArray), (⟨#[]⟩ : ByteArray), (⟨#[]⟩ : ByteArray), (⟨#[]⟩ : ByteArray), 1, 0, 0⟩ : Stmt) [.int .i64 1, .string (⟨#[120]⟩ : ByteArray), .string (⟨#[]⟩ : ByteArray), .string (⟨#[]⟩ : ByteArray), .string (⟨#[]⟩ : ByteArray), .int .i64 1, .int .i64 0, .int .i64 0] from (k30_mkM _ _ _ (⟨1, (⟨#[120]⟩ : ByteArray), (⟨#[]⟩ : ByteArray), (⟨#[]⟩ : ByteArray), (⟨#[]⟩ : ByteArray), 1, 0, 0⟩ : Stmt) )) (Reps.c8 (show Kd.M k30 _ _ _ (⟨6, (⟨#[]⟩ : ByteArray), (⟨#[120]⟩ : ByteArray), (⟨#[]⟩ : ByteArray), (⟨#[]⟩ : ByteArray), 0, 0, 0⟩ : Stmt) [.int .i64 6, .string (⟨#[]⟩ : ByteArray), .string (⟨#[120]⟩ : ByteArray), .string (⟨#[]⟩ : ByteArray), .string (⟨#[]⟩ : ByteArray), .int .i64 0, .int .i64 0, .int .i64 0] from (k30_mkM _ _ _ (⟨6, (⟨#[]⟩ : ByteArray), (⟨#[120]⟩ : ByteArray), (⟨#[]⟩ : ByteArray), (⟨#[]⟩ : ByteArray), 0, 0, 0⟩ : Stmt) )) (Reps.c8 (show Kd.M k30 _ _ _ (⟨9, (⟨#[]⟩ : ByteArray), (⟨#[]⟩ : ByteArray), (⟨#[]⟩ : ByteArray), (⟨#[]⟩ : ByteArray), 0, 0, 0⟩ : Stmt) [.int .i64 9, .string (⟨#[]⟩ : ByteArray), .string (⟨#[]⟩ : ByteArray), .string (⟨#[]⟩ : ByteArray), .string (⟨#[]⟩ : ByteArray), .int .i64 0, .int .i64 0, .int .i64 0] from (k30_mkM _ _ _ (⟨9, (⟨#[]⟩ : ByteArray), (⟨#[]⟩ : ByteArray), (⟨#[]⟩ : ByteArray), (⟨#[]⟩ : ByteArray), 0, 0, 0⟩ : Stmt) )) (Reps.none _ _))))); intro v102 w52 ho53 hb hg_ hnew_; clear hg_ hnew_; (first | rw [← Ny101.out] at ho53 | (simp only [Int.reduceToNat] at ho53; rw [← Ny101.out] at ho53)); have HO103 := am (Kd.R_lower ho53 (below_size (by repeat (first | (with_reducible first | exact HB.out | apply lA | apply lN | apply lD) | exact HB.out)))); replace HB := am (below_step (by repeat (first | (with_reducible first | exact HB.out | apply lA | apply lN | apply lD) | exact HB.out)) hb); clear hb ho53; obtain ⟨Ao54, co54, eo54⟩ := Kd.R_slice HO103.out; subst eo54) | ((with_reducible refine gate_callee (f := 23) rfl ?_); refine goesL_ (some 7) rfl rfl Try.func23 (by kernel_rfl) rfl #[.slice Ao54 y101.length co54, .int .i64 1, .string (⟨#[120]⟩ : ByteArray), .int .i64 0] rfl (by (try simp only [List.map_toArray, List.map_cons, List.map_nil]); first | done | rfl | (simp only [List.length_drop, List.length_take]; rfl)) ?_; (with_reducible refine (cfg_Reaches.calls k _ _ y101 1 (⟨#[120]⟩ : ByteArray) 0 true _ ?side1 ?side2 A1.out).mono ?_); (case side1 => repeat (first | exact (Kd.R_reads' HO103.out).2.2 | (with_reducible refine Kd.C_alloc ?_ _) | (with_reducible refine Kd.C_drewN ?_ _) | (with_reducible refine Kd.C_drew ?_))); (case side2 => exact (Kd.R_reads' HO103.out).2.1); rintro e w55 ⟨rfl, hb⟩; refine ⟨_, rfl, ?_⟩; replace HO103 := am (Kd.R_below (by (with_reducible repeat (first | apply Ra | apply Rn | apply Rd)); exact HO103.out) hb); replace HB := am (below_step (by repeat (first | (with_reducible first | exact HB.out | apply lA | apply lN | apply lD) | exact HB.out)) hb); (try clear hb); (try clear hb2); (try clear hk); (try clear hi)) | (go_at_call 23; (with_reducible refine (cfg_Reaches.calls k _ _ y101 2 (⟨#[120]⟩ : ByteArray) 0 true _ ?side1 ?side2 A3.out).mono ?_); (case side1 => repeat (first | exact (Kd.R_reads' HO103.out).2.2 | (with_reducible refine Kd.C_alloc ?_ _) | (with_reducible refine Kd.C_drewN ?_ _) | (with_reducible refine Kd.C_drew ?_))); (case side2 => exact (Kd.R_reads' HO103.out).2.1); rintro e w56 ⟨rfl, hb⟩; replace HO103 := am (Kd.R_below (by (with_reducible repeat (first | apply Ra | apply Rn | apply Rd)); exact HO103.out) hb); replace HB := am (below_step (by repeat (first | (with_reducible first | exact HB.out | apply lA | apply lN | apply lD) | exact HB.out)) hb); (try clear hb); (try clear hb2); (try clear hk); (try clear hi)) | (go_at_call 23; (with_reducible refine (cfg_Reaches.calls k _ _ y101 0 (⟨#[120]⟩ : ByteArray) 0 false _ ?side1 ?side2 A5.out).mono ?_); (case side1 => repeat (first | exact (Kd.R_reads' HO103.out).2.2 | (with_reducible refine Kd.C_alloc ?_ _) | (with_reducible refine Kd.C_drewN ?_ _) | (with_reducible refine Kd.C_drew ?_))); (case side2 => exact (Kd.R_reads' HO103.out).2.1); rintro e w57 ⟨rfl, hb⟩; replace HO103 := am (Kd.R_below (by (with_reducible repeat (first | apply Ra | apply Rn | apply Rd)); exact HO103.out) hb); replace HB := am (below_step (by repeat (first | (with_reducible first | exact HB.out | apply lA | apply lN | apply lD) | exact HB.out)) hb); (try clear hb); (try clear hb2); (try clear hk); (try clear hi)) | (go_at_call 18; (with_reducible refine (cfg_Lives.calls k _ _ y101 1 (⟨#[120]⟩ : ByteArray) false _ ?side1 ?side2 A13.out).mono ?_); (case side1 => repeat (first | exact (Kd.R_reads' HO103.out).2.2 | (with_reducible refine Kd.C_alloc ?_ _) | (with_reducible refine Kd.C_drewN ?_ _) | (with_reducible refine Kd.C_drew ?_))); (case side2 => exact (Kd.R_reads' HO103.out).2.1); rintro e w58 ⟨rfl, hb⟩; replace HO103 := am (Kd.R_below (by (with_reducible repeat (first | apply Ra | apply Rn | apply Rd)); exact HO103.out) hb); replace HB := am (below_step (by repeat (first | (with_reducible first | exact HB.out | apply lA | apply lN | apply lD) | exact HB.out)) hb); (try clear hb); (try clear hb2); (try clear hk); (try clear hi)))
     go_ret
     exact ⟨by first | rfl | (simp [errW_none, errW_some] <;> rfl) | (simp [*, errW_none, errW_some] <;> rfl), by repeat (first | (with_reducible first | exact HB.out | apply lA | apply lN | apply lD) | exact HB.out)⟩
  ·replace c4 := Bool.eq_false_iff.mpr c4
   subst c4
   have H1 : (some false) = some r := by rw [if_neg (show ¬ (false = true) by decide)] at H; exact H
   clear H
   have H := H1
   clear H1
   obtain rfl := Option.some.inj H
   go_enter Try.func17, Try.ntmps17
   go_wp2_with (first | ((with_reducible refine gate_dst (N := 5) rfl ?_); (try (refine gate_guard (by rfl) ?_; dsimp only)); refine Kd.R_lit k30 _ 30 ?hg (N := 5) ?hd (xs := ([(⟨1, (⟨#[120]⟩ : ByteArray), (⟨#[]⟩ : ByteArray), (⟨#[]⟩ : ByteArray), (⟨#[]⟩ : ByteArray), 1, 0, 0⟩ : Stmt), (⟨6, (⟨#[]⟩ : ByteArray), (⟨#[120]⟩ : ByteArray), (⟨#[]⟩ : ByteArray), (⟨#[]⟩ : ByteArray), 0, 0, 0⟩ : Stmt), (⟨9, (⟨#[]⟩ : ByteArray), (⟨#[]⟩ : ByteArray), (⟨#[]⟩ : ByteArray), (⟨#[]⟩ : ByteArray), 0, 0, 0⟩ : Stmt)] : List (Stmt))) (inner := [.int .i64 1, .string (⟨#[120]⟩ : ByteArray), .string (⟨#[]⟩ : ByteArray), .string (⟨#[]⟩ : ByteArray), .string (⟨#[]⟩ : ByteArray), .int .i64 1, .int .i64 0, .int .i64 0, .int .i64 6, .string (⟨#[]⟩ : ByteArray), .string (⟨#[120]⟩ : ByteArray), .string (⟨#[]⟩ : ByteArray), .string (⟨#[]⟩ : ByteArray), .int .i64 0, .int .i64 0, .int .i64 0, .int .i64 9, .string (⟨#[]⟩ : ByteArray), .string (⟨#[]⟩ : ByteArray), .string (⟨#[]⟩ : ByteArray), .string (⟨#[]⟩ : ByteArray), .int .i64 0, .int .i64 0, .int .i64 0]) (ok := fun _ => True) (okp := fun _ => True) ?hr ?hp (fun _ hk => hk) trivial (Below.refl _ _) (Nat.le_refl _) (by simp) ?_; (case hd => rfl); (case hg => rfl); (case hr => first | (go_simp; done) | (go_simp; rfl)); (case hp => exact (Reps.c8 (show Kd.M k30 _ _ _ (⟨1, (⟨#[120]⟩ : ByteArray), (⟨#[]⟩ : ByteArray), (⟨#[]⟩ : ByteArray), (⟨#[]⟩ : ByteArray), 1, 0, 0⟩ : Stmt) [.int .i64 1, .string (⟨#[120]⟩ : ByteArray), .string (⟨#[]⟩ : ByteArray), .string (⟨#[]⟩ : ByteArray), .string (⟨#[]⟩ : ByteArray), .int .i64 1, .int .i64 0, .int .i64 0] from (k30_mkM _ _ _ (⟨1, (⟨#[120]⟩ : ByteArray), (⟨#[]⟩ : ByteArray), (⟨#[]⟩ : ByteArray), (⟨#[]⟩ : ByteArray), 1, 0, 0⟩ : Stmt) )) (Reps.c8 (show Kd.M k30 _ _ _ (⟨6, (⟨#[]⟩ : ByteArray), (⟨#[120]⟩ : ByteArray), (⟨#[]⟩ : ByteArray), (⟨#[]⟩ : ByteArray), 0, 0, 0⟩ : Stmt) [.int .i64 6, .string (⟨#[]⟩ : ByteArray), .string (⟨#[120]⟩ : ByteArray), .string (⟨#[]⟩ : ByteArray), .string (⟨#[]⟩ : ByteArray), .int .i64 0, .int .i64 0, .int .i64 0] from (k30_mkM _ _ _ (⟨6, (⟨#[]⟩ : ByteArray), (⟨#[120]⟩ : ByteArray), (⟨#[]⟩ : ByteArray), (⟨#[]⟩ : ByteArray), 0, 0, 0⟩ : Stmt) )) (Reps.c8 (show Kd.M k30 _ _ _ (⟨9, (⟨#[]⟩ : ByteArray), (⟨#[]⟩ : ByteArray), (⟨#[]⟩ : ByteArray), (⟨#[]⟩ : ByteArray), 0, 0, 0⟩ : Stmt) [.int .i64 9, .string (⟨#[]⟩ : ByteArray), .string (⟨#[]⟩ : ByteArray), .string (⟨#[]⟩ : ByteArray), .string (⟨#[]⟩ : ByteArray), .int .i64 0, .int .i64 0, .int .i64 0] from (k30_mkM _ _ _ (⟨9, (⟨#[]⟩ : ByteArray), (⟨#[]⟩ : ByteArray), (⟨#[]⟩ : ByteArray), (⟨#[]⟩ : ByteArray), 0, 0, 0⟩ : Stmt) )) (Reps.none _ _))))); intro v102 w59 ho60 hb hg_ hnew_; clear hg_ hnew_; (first | rw [← Ny101.out] at ho60 | (simp only [Int.reduceToNat] at ho60; rw [← Ny101.out] at ho60)); have HO103 := am (Kd.R_lower ho60 (below_size (by repeat (first | (with_reducible first | exact HB.out | apply lA | apply lN | apply lD) | exact HB.out)))); replace HB := am (below_step (by repeat (first | (with_reducible first | exact HB.out | apply lA | apply lN | apply lD) | exact HB.out)) hb); clear hb ho60; obtain ⟨Ao61, co61, eo61⟩ := Kd.R_slice HO103.out; subst eo61) | ((with_reducible refine gate_callee (f := 23) rfl ?_); refine goesL_ (some 7) rfl rfl Try.func23 (by kernel_rfl) rfl #[.slice Ao61 y101.length co61, .int .i64 1, .string (⟨#[120]⟩ : ByteArray), .int .i64 0] rfl (by (try simp only [List.map_toArray, List.map_cons, List.map_nil]); first | done | rfl | (simp only [List.length_drop, List.length_take]; rfl)) ?_; (with_reducible refine (cfg_Reaches.calls k _ _ y101 1 (⟨#[120]⟩ : ByteArray) 0 true _ ?side1 ?side2 A1.out).mono ?_); (case side1 => repeat (first | exact (Kd.R_reads' HO103.out).2.2 | (with_reducible refine Kd.C_alloc ?_ _) | (with_reducible refine Kd.C_drewN ?_ _) | (with_reducible refine Kd.C_drew ?_))); (case side2 => exact (Kd.R_reads' HO103.out).2.1); rintro e w62 ⟨rfl, hb⟩; refine ⟨_, rfl, ?_⟩; replace HO103 := am (Kd.R_below (by (with_reducible repeat (first | apply Ra | apply Rn | apply Rd)); exact HO103.out) hb); replace HB := am (below_step (by repeat (first | (with_reducible first | exact HB.out | apply lA | apply lN | apply lD) | exact HB.out)) hb); (try clear hb); (try clear hb2); (try clear hk); (try clear hi)) | (go_at_call 23; (with_reducible refine (cfg_Reaches.calls k _ _ y101 2 (⟨#[120]⟩ : ByteArray) 0 false _ ?side1 ?side2 A3.out).mono ?_); (case side1 => repeat (first | exact (Kd.R_reads' HO103.out).2.2 | (with_reducible refine Kd.C_alloc ?_ _) | (with_reducible refine Kd.C_drewN ?_ _) | (with_reducible refine Kd.C_drew ?_))); (case side2 => exact (Kd.R_reads' HO103.out).2.1); rintro e w63 ⟨rfl, hb⟩; replace HO103 := am (Kd.R_below (by (with_reducible repeat (first | apply Ra | apply Rn | apply Rd)); exact HO103.out) hb); replace HB := am (below_step (by repeat (first | (with_reducible first | exact HB.out | apply lA | apply lN | apply lD) | exact HB.out)) hb); (try clear hb); (try clear hb2); (try clear hk); (try clear hi)))
   go_ret
   exact ⟨by first | rfl | (simp [errW_none, errW_some] <;> rfl) | (simp [*, errW_none, errW_some] <;> rfl), by repeat (first | (with_reducible first | exact HB.out | apply lA | apply lN | apply lD) | exact HB.out)⟩
 ·replace c2 := Bool.eq_false_iff.mpr c2
  subst c2
  have H1 : (some false) = some r := by rw [if_neg (show ¬ (false = true) by decide)] at H; exact H
  clear H
  have H := H1
  clear H1
  obtain rfl := Option.some.inj H
  go_enter Try.func17, Try.ntmps17
  go_wp2_with (first | ((with_reducible refine gate_dst (N := 5) rfl ?_); (try (refine gate_guard (by rfl) ?_; dsimp only)); refine Kd.R_lit k30 _ 30 ?hg (N := 5) ?hd (xs := ([(⟨1, (⟨#[120]⟩ : ByteArray), (⟨#[]⟩ : ByteArray), (⟨#[]⟩ : ByteArray), (⟨#[]⟩ : ByteArray), 1, 0, 0⟩ : Stmt), (⟨6, (⟨#[]⟩ : ByteArray), (⟨#[120]⟩ : ByteArray), (⟨#[]⟩ : ByteArray), (⟨#[]⟩ : ByteArray), 0, 0, 0⟩ : Stmt), (⟨9, (⟨#[]⟩ : ByteArray), (⟨#[]⟩ : ByteArray), (⟨#[]⟩ : ByteArray), (⟨#[]⟩ : ByteArray), 0, 0, 0⟩ : Stmt)] : List (Stmt))) (inner := [.int .i64 1, .string (⟨#[120]⟩ : ByteArray), .string (⟨#[]⟩ : ByteArray), .string (⟨#[]⟩ : ByteArray), .string (⟨#[]⟩ : ByteArray), .int .i64 1, .int .i64 0, .int .i64 0, .int .i64 6, .string (⟨#[]⟩ : ByteArray), .string (⟨#[120]⟩ : ByteArray), .string (⟨#[]⟩ : ByteArray), .string (⟨#[]⟩ : ByteArray), .int .i64 0, .int .i64 0, .int .i64 0, .int .i64 9, .string (⟨#[]⟩ : ByteArray), .string (⟨#[]⟩ : ByteArray), .string (⟨#[]⟩ : ByteArray), .string (⟨#[]⟩ : ByteArray), .int .i64 0, .int .i64 0, .int .i64 0]) (ok := fun _ => True) (okp := fun _ => True) ?hr ?hp (fun _ hk => hk) trivial (Below.refl _ _) (Nat.le_refl _) (by simp) ?_; (case hd => rfl); (case hg => rfl); (case hr => first | (go_simp; done) | (go_simp; rfl)); (case hp => exact (Reps.c8 (show Kd.M k30 _ _ _ (⟨1, (⟨#[120]⟩ : ByteArray), (⟨#[]⟩ : ByteArray), (⟨#[]⟩ : ByteArray), (⟨#[]⟩ : ByteArray), 1, 0, 0⟩ : Stmt) [.int .i64 1, .string (⟨#[120]⟩ : ByteArray), .string (⟨#[]⟩ : ByteArray), .string (⟨#[]⟩ : ByteArray), .string (⟨#[]⟩ : ByteArray), .int .i64 1, .int .i64 0, .int .i64 0] from (k30_mkM _ _ _ (⟨1, (⟨#[120]⟩ : ByteArray), (⟨#[]⟩ : ByteArray), (⟨#[]⟩ : ByteArray), (⟨#[]⟩ : ByteArray), 1, 0, 0⟩ : Stmt) )) (Reps.c8 (show Kd.M k30 _ _ _ (⟨6, (⟨#[]⟩ : ByteArray), (⟨#[120]⟩ : ByteArray), (⟨#[]⟩ : ByteArray), (⟨#[]⟩ : ByteArray), 0, 0, 0⟩ : Stmt) [.int .i64 6, .string (⟨#[]⟩ : ByteArray), .string (⟨#[120]⟩ : ByteArray), .string (⟨#[]⟩ : ByteArray), .string (⟨#[]⟩ : ByteArray), .int .i64 0, .int .i64 0, .int .i64 0] from (k30_mkM _ _ _ (⟨6, (⟨#[]⟩ : ByteArray), (⟨#[120]⟩ : ByteArray), (⟨#[]⟩ : ByteArray), (⟨#[]⟩ : ByteArray), 0, 0, 0⟩ : Stmt) )) (Reps.c8 (show Kd.M k30 _ _ _ (⟨9, (⟨#[]⟩ : ByteArray), (⟨#[]⟩ : ByteArray), (⟨#[]⟩ : ByteArray), (⟨#[]⟩ : ByteArray), 0, 0, 0⟩ : Stmt) [.int .i64 9, .string (⟨#[]⟩ : ByteArray), .string (⟨#[]⟩ : ByteArray), .string (⟨#[]⟩ : ByteArray), .string (⟨#[]⟩ : ByteArray), .int .i64 0, .int .i64 0, .int .i64 0] from (k30_mkM _ _ _ (⟨9, (⟨#[]⟩ : ByteArray), (⟨#[]⟩ : ByteArray), (⟨#[]⟩ : ByteArray), (⟨#[]⟩ : ByteArray), 0, 0, 0⟩ : Stmt) )) (Reps.none _ _))))); intro v102 w64 ho65 hb hg_ hnew_; clear hg_ hnew_; (first | rw [← Ny101.out] at ho65 | (simp only [Int.reduceToNat] at ho65; rw [← Ny101.out] at ho65)); have HO103 := am (Kd.R_lower ho65 (below_size (by repeat (first | (with_reducible first | exact HB.out | apply lA | apply lN | apply lD) | exact HB.out)))); replace HB := am (below_step (by repeat (first | (with_reducible first | exact HB.out | apply lA | apply lN | apply lD) | exact HB.out)) hb); clear hb ho65; obtain ⟨Ao66, co66, eo66⟩ := Kd.R_slice HO103.out; subst eo66) | ((with_reducible refine gate_callee (f := 23) rfl ?_); refine goesL_ (some 7) rfl rfl Try.func23 (by kernel_rfl) rfl #[.slice Ao66 y101.length co66, .int .i64 1, .string (⟨#[120]⟩ : ByteArray), .int .i64 0] rfl (by (try simp only [List.map_toArray, List.map_cons, List.map_nil]); first | done | rfl | (simp only [List.length_drop, List.length_take]; rfl)) ?_; (with_reducible refine (cfg_Reaches.calls k _ _ y101 1 (⟨#[120]⟩ : ByteArray) 0 false _ ?side1 ?side2 A1.out).mono ?_); (case side1 => repeat (first | exact (Kd.R_reads' HO103.out).2.2 | (with_reducible refine Kd.C_alloc ?_ _) | (with_reducible refine Kd.C_drewN ?_ _) | (with_reducible refine Kd.C_drew ?_))); (case side2 => exact (Kd.R_reads' HO103.out).2.1); rintro e w67 ⟨rfl, hb⟩; refine ⟨_, rfl, ?_⟩; replace HO103 := am (Kd.R_below (by (with_reducible repeat (first | apply Ra | apply Rn | apply Rd)); exact HO103.out) hb); replace HB := am (below_step (by repeat (first | (with_reducible first | exact HB.out | apply lA | apply lN | apply lD) | exact HB.out)) hb); (try clear hb); (try clear hb2); (try clear hk); (try clear hi)))
  go_ret
  exact ⟨by first | rfl | (simp [errW_none, errW_some] <;> rfl) | (simp [*, errW_none, errW_some] <;> rfl), by repeat (first | (with_reducible first | exact HB.out | apply lA | apply lN | apply lD) | exact HB.out)⟩
end Go.Proofs.Ytnepgcbgkhikkaa.H
namespace Go.Proofs.Ytnepgcbgkhikkaa.H
open Go.RowKit Go.Proofs.YtnepgcbgkhikkaaW.PrintWords
set_option linter.unusedVariables false
set_option linter.unusedSimpArgs false
def defB (st : Stmt) (x : ByteArray) : Bool := (defN st).2 && decide ((defN st).1 = x)
theorem defB_iff {st : Stmt} {x : ByteArray} : defB st x = true ↔ (defN st).2 = true ∧ (defN st).1 = x := by simp [defB]
theorem defines_eq (st : Stmt) (x : ByteArray) : cfg_defines.f st.kind st.x st.y st.z st.op st.n st.a st.b x = some (defB st x) := by
  unfold cfg_defines.f
  rw [Def_eq]
  simp only [Option.bind_some, defB]
  cases h : (defN st).2 with
  | true =>
    rw [if_pos rfl]
    have : ((defN st).1.toList == x.toList) = decide ((defN st).1 = x) := by
      rw [Bool.eq_iff_iff]; simp [lib_ba_eq]
    simp [this]
  | false => rw [if_neg (by simp)]; rfl
def keepS (s : List Stmt) (x : ByteArray) : Int → Bool := fun m => !defB (at_ s m) x
theorem keepF_on (s : List Stmt) (x : ByteArray) (m : Int) (h0 : 0 ≤ m) (h1 : m < (s.length : Int)) : keepF s x m = some (keepS s x m) := by
  unfold keepF keepS at_
  rw [if_pos h0, if_pos h1, defines_eq]; rfl
def reachP (s : List Stmt) (n : Int) (x : ByteArray) (d : Int) : Prop := 0 ≤ n ∧ n < (s.length : Int) ∧ 0 ≤ d ∧ d < (s.length : Int) ∧ defB (at_ s d) x = true ∧ Rch s (keepS s x) (nxt s d) n
theorem Reaches_ev (s : List Stmt) (n : Int) (x : ByteArray) (d : Int) (hs : s.length ≤ 1000) : ∃ b, Ev (fun k => cfg_Reaches.f k s n x d) b ∧ (b = true ↔ reachP s n x d) := by
  unfold cfg_Reaches.f
  have no : Ev (fun k => cfg_Reaches.j0 k n d true s x) false := Ev.step (fun k => by rw [cfg_Reaches.j0]) (Ev.pos rfl (Ev.now _))
  have w : ∀ m : Int, withinB s.length m = true ↔ 0 ≤ m ∧ m < (s.length : Int) := by intro m; simp [withinB]
  by_cases hn : 0 ≤ n ∧ n < (s.length : Int)
  · by_cases hd : 0 ≤ d ∧ d < (s.length : Int)
    · cases hb : defB (at_ s d) x with
      | false =>
        refine ⟨false, Ev.pure (within_eq s n) (Ev.pos ((w n).2 hn) (Ev.pure (within_eq s d) (Ev.pos ((w d).2 hd) (Ev.pos hd.1 (Ev.pos hd.2 (Ev.pure (defines_eq (at_ s d) x) ?_)))))), by simp [reachP, hb]⟩
        rw [hb]; exact no
      | true =>
        obtain ⟨r, hr, hrl, hri⟩ := ways_ev s (keepF s x) (keepS s x) (keepF_on s x) (nxt s d) (fun f hf => ⟨(nxt_within hf).1, (nxt_within hf).2.1⟩) hs (by have := nxt_len s d; omega)
        obtain ⟨i, rfl⟩ : ∃ q : Nat, n = (q : Int) := ⟨n.toNat, by omega⟩
        cases hv : r[i]? with
        | none => rw [List.getElem?_eq_none_iff] at hv; omega
        | some v =>
          refine ⟨v, Ev.pure (within_eq s i) (Ev.pos ((w i).2 hn) (Ev.pure (within_eq s d) (Ev.pos ((w d).2 hd) (Ev.pos hd.1 (Ev.pos hd.2 (Ev.pure (defines_eq (at_ s d) x) ?_)))))), ?_⟩
          · rw [hb]
            refine Ev.step (fun k => by rw [cfg_Reaches.j0]) (Ev.neg (by simp) (Ev.pure (Next_eq s d) (Ev.bind hr ?_)))
            exact Ev.pos (by omega) (Ev.pos (by omega) (Ev.some (getD_at hv _)))
          · rw [← Option.some_inj, ← hv, hri i]
            simp [reachP, hb, hn, hd]
    · refine ⟨false, Ev.pure (within_eq s n) (Ev.pos ((w n).2 hn) (Ev.pure (within_eq s d) (Ev.neg (fun h => hd ((w d).1 h)) no))), ⟨fun h => by simp at h, fun h => absurd ⟨h.2.2.1, h.2.2.2.1⟩ hd⟩⟩
  · refine ⟨false, Ev.pure (within_eq s n) (Ev.neg (fun h => hn ((w n).1 h)) no), ⟨fun h => by simp at h, fun h => absurd ⟨h.1, h.2.1⟩ hn⟩⟩
def liveP (s : List Stmt) (n : Int) (x : ByteArray) : Prop := 0 ≤ n ∧ n < (s.length : Int) ∧ ∃ m : Int, Rch s (keepS s x) [n] m ∧ x ∈ usesS (at_ s m)
theorem Rch_within {s : List Stmt} {on : Int → Bool} {fr : List Int} (hfr : ∀ f ∈ fr, 0 ≤ f ∧ f < (s.length : Int)) {n : Int} (h : Rch s on fr n) : 0 ≤ n ∧ n < (s.length : Int) := by
  cases h with
  | base h => exact hfr _ h
  | step _ _ h => exact ⟨(nxt_within h).1, (nxt_within h).2.1⟩
theorem Lives_l0 (s : List Stmt) (x : ByteArray) (seen : List Bool) (hl : seen.length = s.length) (hs : s.length ≤ 1000) : ∀ (d i : Nat), i + d = s.length →
    ∃ b, Ev (fun k => cfg_Lives.l0 k seen (seen.length : Int) i s x) b ∧ (b = true ↔ ∃ m : Nat, i ≤ m ∧ seen[m]? = some true ∧ x ∈ usesS (at_ s m))
  | 0, i, e => by
    refine ⟨false, Ev.step (fun k => by rw [cfg_Lives.l0]) (Ev.neg (by omega) (Ev.now _)), by
      simp only [Bool.false_eq_true, false_iff, not_exists]
      rintro m ⟨h1, h2, -⟩
      have := (List.getElem?_eq_some_iff.1 h2).1
      omega⟩
  | d + 1, i, e => by
    obtain ⟨b, hb, hbi⟩ := Lives_l0 s x seen hl hs d (i + 1) (by omega)
    have more : ∀ {P : Prop}, (P ↔ ∃ m : Nat, i + 1 ≤ m ∧ seen[m]? = some true ∧ x ∈ usesS (at_ s m)) → ¬ (seen[i]? = some true ∧ x ∈ usesS (at_ s i)) → (P ↔ ∃ m : Nat, i ≤ m ∧ seen[m]? = some true ∧ x ∈ usesS (at_ s m)) := by
      intro P hP hn
      rw [hP]
      constructor
      · rintro ⟨m, h1, h2⟩; exact ⟨m, by omega, h2⟩
      · rintro ⟨m, h1, h2⟩
        rcases Nat.lt_or_ge i m with h | h
        · exact ⟨m, h, h2⟩
        · obtain rfl : m = i := by omega
          exact absurd h2 hn
    cases hv : seen[i]? with
    | none => rw [List.getElem?_eq_none_iff] at hv; omega
    | some v =>
      cases v with
      | false =>
        refine ⟨b, Ev.step (fun k => by rw [cfg_Lives.l0]) (Ev.pos (by omega) (Ev.pos (by omega) (Ev.pos (by omega) ?_))), more hbi (by rw [hv]; simp)⟩
        rw [show rdOf false seen (i : Int) = false from getD_at hv _, wrap_up (by omega)]
        exact Ev.neg (by simp) hb
      | true =>
        by_cases c : x ∈ usesS (at_ s i)
        · refine ⟨true, Ev.step (fun k => by rw [cfg_Lives.l0]) (Ev.pos (by omega) (Ev.pos (by omega) (Ev.pos (by omega) ?_))), by simp only [true_iff]; exact ⟨i, Nat.le_refl _, hv, c⟩⟩
          rw [show rdOf false seen (i : Int) = true from getD_at hv _]
          refine Ev.pos rfl (Ev.pos (by omega) (Ev.pure (Uses_eq (at_ s i)) (Ev.bind (Contains_ev _ x (by have := usesS_len (at_ s i); omega)) ?_)))
          rw [mem_iff.2 c]
          exact Ev.pos rfl (Ev.now _)
        · refine ⟨b, Ev.step (fun k => by rw [cfg_Lives.l0]) (Ev.pos (by omega) (Ev.pos (by omega) (Ev.pos (by omega) ?_))), more hbi (fun h => c h.2)⟩
          rw [show rdOf false seen (i : Int) = true from getD_at hv _, wrap_up (by omega)]
          refine Ev.pos rfl (Ev.pos (by omega) (Ev.pure (Uses_eq (at_ s i)) (Ev.bind (Contains_ev _ x (by have := usesS_len (at_ s i); omega)) ?_)))
          exact Ev.neg (by rw [mem_iff]; exact c) hb
theorem Lives_ev (s : List Stmt) (n : Int) (x : ByteArray) (hs : s.length ≤ 1000) : ∃ b, Ev (fun k => cfg_Lives.f k s n x) b ∧ (b = true ↔ liveP s n x) := by
  unfold cfg_Lives.f
  have w : withinB s.length n = true ↔ 0 ≤ n ∧ n < (s.length : Int) := by simp [withinB]
  by_cases hn : 0 ≤ n ∧ n < (s.length : Int)
  · have hfr : ∀ f ∈ [n], 0 ≤ f ∧ f < (s.length : Int) := by intro f hf; simp at hf; subst hf; exact hn
    obtain ⟨r, hr, hrl, hri⟩ := ways_ev s (keepF s x) (keepS s x) (keepF_on s x) [n] hfr hs (by simp)
    obtain ⟨b, hb, hbi⟩ := Lives_l0 s x r hrl hs s.length 0 (by omega)
    refine ⟨b, Ev.pure (within_eq s n) (Ev.pos (w.2 hn) (Ev.bind hr hb)), ?_⟩
    rw [hbi]
    constructor
    · rintro ⟨m, -, h2, h3⟩; exact ⟨hn.1, hn.2, m, (hri m).1 h2, h3⟩
    · rintro ⟨-, -, m, h1, h2⟩
      have hm := Rch_within hfr h1
      obtain ⟨i, rfl⟩ : ∃ q : Nat, m = (q : Int) := ⟨m.toNat, by omega⟩
      exact ⟨i, by omega, (hri i).2 h1, h2⟩
  · refine ⟨false, Ev.pure (within_eq s n) (Ev.neg (fun h => hn (w.1 h)) (Ev.now _)), ?_⟩
    simp only [liveP, Bool.false_eq_true, false_iff]
    rintro ⟨a, b, -⟩
    exact hn ⟨a, b⟩
theorem ev_of {g : Nat → Option Bool} {P : Prop} (h : ∃ b, Ev g b ∧ (b = true ↔ P)) {b : Bool} (e : b = true ↔ P) : Ev g b := by
  obtain ⟨c, hc, hp⟩ := h
  have : c = b := by rw [Bool.eq_iff_iff, hp, e]
  exact this ▸ hc
theorem ev_yes {g : Nat → Option Bool} {P : Prop} (h : ∃ b, Ev g b ∧ (b = true ↔ P)) (e : P) : Ev g true := ev_of h (by simp [e])
theorem ev_no {g : Nat → Option Bool} {P : Prop} (h : ∃ b, Ev g b ∧ (b = true ↔ P)) (e : ¬ P) : Ev g false := ev_of h (by simp [e])
def exX : ByteArray := (⟨#[120]⟩ : ByteArray)
def exL : List Stmt := [(⟨1, (⟨#[120]⟩ : ByteArray), (⟨#[]⟩ : ByteArray), (⟨#[]⟩ : ByteArray), (⟨#[]⟩ : ByteArray), 1, 0, 0⟩ : Stmt), (⟨6, (⟨#[]⟩ : ByteArray), (⟨#[120]⟩ : ByteArray), (⟨#[]⟩ : ByteArray), (⟨#[]⟩ : ByteArray), 0, 0, 0⟩ : Stmt), (⟨9, (⟨#[]⟩ : ByteArray), (⟨#[]⟩ : ByteArray), (⟨#[]⟩ : ByteArray), (⟨#[]⟩ : ByteArray), 0, 0, 0⟩ : Stmt)]
theorem exn (n : Int) : nxt exL n = if n = 0 then [1] else if n = 1 then [2] else [] := by
  by_cases h0 : n = 0
  · subst h0; decide +kernel
  · by_cases h1 : n = 1
    · subst h1; decide +kernel
    · by_cases h2 : n = 2
      · subst h2; decide +kernel
      · unfold nxt
        rw [if_neg (by intro h; have : (exL.length : Int) = 3 := rfl; omega), if_neg h0, if_neg h1]
theorem shown20_ev : Ev (fun k => lambrequinlaw20_shown.f k) true := by
  unfold lambrequinlaw20_shown.f
  refine Ev.pure (a := exL) rfl ?_
  have hl : exL.length ≤ 1000 := by decide
  have k0 : keepS exL exX 0 = false := by decide +kernel
  have k1 : keepS exL exX 1 = true := by decide +kernel
  have k2 : keepS exL exX 2 = true := by decide +kernel
  have e0 : nxt exL 0 = [1] := by rw [exn]; rfl
  have r1 : Rch exL (keepS exL exX) (nxt exL 0) 1 := .base (by rw [e0]; simp)
  refine Ev.bind (ev_yes (Reaches_ev exL 1 exX 0 hl) ⟨by decide, by decide, by decide, by decide, by decide +kernel, r1⟩) (Ev.pos rfl ?_)
  refine Ev.bind (ev_yes (Reaches_ev exL 2 exX 0 hl) ⟨by decide, by decide, by decide, by decide, by decide +kernel, .step r1 k1 (by rw [exn]; decide)⟩) (Ev.pos rfl ?_)
  have n0 : ∀ m : Int, (0 : Int) ∈ nxt exL m → False := by
    intro m hm
    rw [exn] at hm
    split at hm
    · simp at hm
    · split at hm <;> simp at hm
  refine Ev.bind (ev_no (Reaches_ev exL 0 exX 0 hl) ?_) (Ev.neg (by simp) ?_)
  · rintro ⟨-, -, -, -, -, h⟩
    cases h with
    | base h => exact n0 _ h
    | step _ _ h => exact n0 _ h
  refine Ev.bind (ev_yes (Lives_ev exL 1 exX hl) ⟨by decide, by decide, 1, .base (by simp), mem_iff.1 (by decide +kernel)⟩) (Ev.pos rfl ?_)
  refine Ev.bind (ev_no (Lives_ev exL 0 exX hl) ?_) (Ev.neg (by simp) ?_)
  · rintro ⟨-, -, m, h, hu⟩
    have : m = 0 := by
      clear hu
      induction h with
      | base h => simpa using h
      | step h1 ho hj ih => rw [ih, k0] at ho; cases ho
    subst this
    rw [← mem_iff] at hu
    revert hu; decide +kernel
  refine Ev.bind (ev_no (Lives_ev exL 2 exX hl) ?_) (Ev.neg (by simp) ?_)
  · rintro ⟨-, -, m, h, hu⟩
    have : m = 2 := by
      clear hu
      induction h with
      | base h => simpa using h
      | step h1 ho hj ih => rw [ih, exn] at hj; simp at hj
    subst this
    rw [← mem_iff] at hu
    revert hu; decide +kernel
  refine Ev.pure (Next_eq exL 1) (Ev.bind (Ints_ev _ _ (by rw [exn]; decide)) (Ev.some ?_))
  rw [exn]; decide
end Go.Proofs.Ytnepgcbgkhikkaa.H
/- the steps of a flow's taints, in plain words -/
namespace Go.Proofs.Ytnepgcbgkhikkaa.H
open Go.RowKit Go.Proofs.YtnepgcbgkhikkaaW.PrintWords
set_option linter.unusedVariables false
set_option linter.unusedSimpArgs false
def idxS (names : List ByteArray) (x : ByteArray) : Int := idxP (fun y => decide (y = x)) names 0
theorem Index_at (l : List ByteArray) (s : ByteArray) (hl : l.length ≤ 9223372036854775807) : ∀ (r : List ByteArray) (n : Nat), l.drop n = r → Ev (fun k => slices_Index_string_string.l0 k l s (l.length : Int) n) (idxP (fun y => decide (y = s)) r n)
  | [], n, h => by
    refine Ev.step (fun k => by rw [slices_Index_string_string.l0]) ?_
    exact Ev.neg (drop_end h) (Ev.now _)
  | y :: r, n, h => by
    obtain ⟨h1, h2, h3, h4, h5⟩ := drop_more h hl
    have ih := Index_at l s hl r (n + 1) h4
    refine Ev.step (fun k => by rw [slices_Index_string_string.l0]) (Ev.pos h1 (Ev.pos h2 (Ev.pos h1 ?_)))
    rw [show rdOf ByteArray.empty l n = y from h3 _, h5]
    by_cases c : s = y
    · rw [show idxP (fun y => decide (y = s)) (y :: r) n = (n : Int) by unfold idxP; rw [if_pos (by simp [c])]]
      exact Ev.pos (by rw [c]) (Ev.now _)
    · rw [show idxP (fun y => decide (y = s)) (y :: r) n = idxP (fun y => decide (y = s)) r (n + 1) by rw [idxP, if_neg (by simpa using fun e => c e.symm)]]
      exact Ev.neg (by rw [lib_ba_eq]; exact c) ih
theorem Index_ev (l : List ByteArray) (s : ByteArray) (hl : l.length ≤ 9223372036854775807) : Ev (fun k => slices_Index_string_string.f k l s) (idxS l s) := Index_at l s hl l 0 rfl
theorem idxS_range (l : List ByteArray) (s : ByteArray) : -1 ≤ idxS l s ∧ idxS l s < (l.length : Int) := by
  have h : ∀ (r : List ByteArray) (i : Nat), -1 ≤ idxP (fun y => decide (y = s)) r i ∧ idxP (fun y => decide (y = s)) r i < ((i + r.length : Nat) : Int) ∨ idxP (fun y => decide (y = s)) r i = -1 := by
    intro r
    induction r with
    | nil => intro i; right; rfl
    | cons y r ih =>
      intro i
      unfold idxP
      split
      · left; simp; omega
      · rcases ih (i + 1) with h | h
        · left; simp at h ⊢; omega
        · right; exact h
  rcases h l 0 with h | h
  · unfold idxS; simp at h; omega
  · unfold idxS; omega
/-- the place of a name ahead of a statement -/
def atP (names : List ByteArray) (n : Int) (x : ByteArray) : Int := n * names.length + idxS names x
/-- the steps from a statement to one to which it leads: of the names that it doesn't define -/
def keptF (names : List ByteArray) (n m : Int) (st : Stmt) (y : ByteArray) : List (Int × Int) := if defB st y = true then [] else [(atP names n y, atP names m y)]
/-- of those that it uses -/
def usedF (names : List ByteArray) (n m : Int) (st : Stmt) (y : ByteArray) : (Int × Int) := (atP names n y, atP names m (defN st).1)
def opK (st : Stmt) : Prop := st.kind = 2 ∨ st.kind = 3
instance (st : Stmt) : Decidable (opK st) := by unfold opK; infer_instance
def stF (names : List ByteArray) (n : Int) (st : Stmt) (m : Int) : List (Int × Int) := names.flatMap (keptF names n m st) ++ (if opK st then (usesS st).map (usedF names n m st) else [])
def srcF (names : List ByteArray) (st : Stmt) (m : Int) : List Int := if st.kind = 4 then [atP names m (defN st).1] else []
def stepsAt (l : List Stmt) (names : List ByteArray) (n : Nat) : List (Int × Int) := (nxt l n).flatMap (stF names n (at_ l n))
def srcsAt (l : List Stmt) (names : List ByteArray) (n : Nat) : List Int := (nxt l n).flatMap (srcF names (at_ l n))
def stepsP (l : List Stmt) (names : List ByteArray) : List (Int × Int) := (List.range l.length).flatMap (stepsAt l names)
def srcsP (l : List Stmt) (names : List ByteArray) : List Int := (List.range l.length).flatMap (srcsAt l names)
theorem flatMap_len {α β : Type} (f : α → List β) (K : Nat) (h : ∀ a, (f a).length ≤ K) : ∀ l : List α, (l.flatMap f).length ≤ l.length * K
  | [] => by simp
  | a :: l => by
    rw [List.flatMap_cons, List.length_append, List.length_cons, Nat.succ_mul]
    have := flatMap_len f K h l
    have := h a
    omega
theorem stF_len (names : List ByteArray) (n : Int) (st : Stmt) (m : Int) : (stF names n st m).length ≤ names.length + 2 := by
  unfold stF
  rw [List.length_append]
  have h1 := flatMap_len (keptF names n m st) 1 (fun y => by unfold keptF; split <;> simp) names
  have h2 := usesS_len st
  split
  · rw [List.length_map]; omega
  · rw [List.length_nil]; omega
theorem srcF_len (names : List ByteArray) (st : Stmt) (m : Int) : (srcF names st m).length ≤ 1 := by
  unfold srcF; split <;> simp
theorem stepsAt_len (l : List Stmt) (names : List ByteArray) (n : Nat) : (stepsAt l names n).length ≤ 2 * (names.length + 2) := by
  unfold stepsAt
  have h1 := flatMap_len (stF names n (at_ l n)) (names.length + 2) (stF_len names n (at_ l n)) (nxt l n)
  have h2 := nxt_len l n
  exact Nat.le_trans h1 (Nat.mul_le_mul_right _ h2)
theorem srcsAt_len (l : List Stmt) (names : List ByteArray) (n : Nat) : (srcsAt l names n).length ≤ 2 := by
  unfold srcsAt
  have h1 := flatMap_len (srcF names (at_ l n)) 1 (srcF_len names (at_ l n)) (nxt l n)
  have h2 := nxt_len l n
  omega
theorem flatMap_take {α β : Type} (f : α → List β) {l : List α} {k : Nat} {y : α} (h : l[k]? = some y) : (l.take (k + 1)).flatMap f = (l.take k).flatMap f ++ f y := by
  rw [List.take_add_one, h]; simp
theorem atP_range {names : List ByteArray} {n : Int} {x : ByteArray} (h0 : 0 ≤ n) (h1 : n ≤ 1000) (hl : names.length ≤ 3000) : -1 ≤ atP names n x ∧ atP names n x ≤ 4000000 := by
  have := idxS_range names x
  unfold atP
  have h2 : 0 ≤ n * (names.length : Int) := Int.mul_nonneg h0 (by omega)
  have h3 : n * (names.length : Int) ≤ 1000 * 3000 := Int.mul_le_mul h1 (by omega) (by omega) (by omega)
  omega
end Go.Proofs.Ytnepgcbgkhikkaa.H
/- breadth first over the steps of taints, in plain words: what is seen is what is tainted -/
namespace Go.Proofs.Ytnepgcbgkhikkaa.H
open Go.RowKit Go.Proofs.YtnepgcbgkhikkaaW.PrintWords
set_option linter.unusedVariables false
set_option linter.unusedSimpArgs false
def nextG (steps : List (Int × Int)) (a : Int) : List Int := (steps.filter fun p => decide (p.1 = a)).map Prod.snd
theorem nextG_snoc (steps : List (Int × Int)) (p : Int × Int) (a : Int) : nextG (steps ++ [p]) a = nextG steps a ++ (if p.1 = a then [p.2] else []) := by
  unfold nextG
  rw [List.filter_append, List.map_append]
  by_cases h : p.1 = a <;> simp [h]
theorem mem_nextG {steps : List (Int × Int)} {a b : Int} : b ∈ nextG steps a ↔ (a, b) ∈ steps := by
  unfold nextG
  simp only [List.mem_map, List.mem_filter, decide_eq_true_eq]
  constructor
  · rintro ⟨⟨p, q⟩, ⟨h1, rfl⟩, rfl⟩; exact h1
  · intro h; exact ⟨(a, b), ⟨h, rfl⟩, rfl⟩
def seeV (seen : Int → Bool) (k : Int) : Int → Bool := fun y => if y = k then true else seen y
def tntV (G : Int → List Int) : Nat → (Int → Bool) → List Int → Option (Int → Bool)
  | 0, _, _ => none
  | _ + 1, seen, [] => some seen
  | g + 1, seen, k :: r => if seen k = true then tntV G g seen r else tntV G g (seeV seen k) (r ++ G k)
/-- what is tainted: what comes of a source, step by step -/
inductive Tnt (steps : List (Int × Int)) (srcs : List Int) : Int → Prop
  | base {p : Int} : p ∈ srcs → Tnt steps srcs p
  | step {p q : Int} : Tnt steps srcs p → (p, q) ∈ steps → Tnt steps srcs q
structure Mid (steps : List (Int × Int)) (srcs : List Int) (seen : Int → Bool) (todo : List Int) : Prop where
  t : ∀ k ∈ todo, Tnt steps srcs k
  s : ∀ k, seen k = true → Tnt steps srcs k
  b : ∀ p ∈ srcs, seen p = true ∨ p ∈ todo
  c : ∀ p q, seen p = true → (p, q) ∈ steps → seen q = true ∨ q ∈ todo
theorem Mid.skip {steps : List (Int × Int)} {srcs : List Int} {seen : Int → Bool} {k : Int} {r : List Int} (h : Mid steps srcs seen (k :: r)) (hk : seen k = true) : Mid steps srcs seen r where
  t := fun x hx => h.t x (List.mem_cons_of_mem _ hx)
  s := h.s
  b := fun p hp => by
    rcases h.b p hp with q | q
    · exact .inl q
    · rcases List.mem_cons.1 q with rfl | q
      · exact .inl hk
      · exact .inr q
  c := fun p q hp hq => by
    rcases h.c p q hp hq with z | z
    · exact .inl z
    · rcases List.mem_cons.1 z with rfl | z
      · exact .inl hk
      · exact .inr z
theorem Mid.see {steps : List (Int × Int)} {srcs : List Int} {seen : Int → Bool} {k : Int} {r : List Int} (h : Mid steps srcs seen (k :: r)) : Mid steps srcs (seeV seen k) (r ++ nextG steps k) where
  t := fun x hx => by
    rcases List.mem_append.1 hx with hx | hx
    · exact h.t x (List.mem_cons_of_mem _ hx)
    · exact .step (h.t k (by simp)) (mem_nextG.1 hx)
  s := fun x hx => by
    unfold seeV at hx
    split at hx
    · rename_i e; subst e; exact h.t _ (by simp)
    · exact h.s x hx
  b := fun p hp => by
    unfold seeV
    by_cases e : p = k
    · left; rw [if_pos e]
    · rw [if_neg e]
      rcases h.b p hp with z | z
      · exact .inl z
      · rcases List.mem_cons.1 z with rfl | z
        · exact absurd rfl e
        · exact .inr (List.mem_append_left _ z)
  c := fun p q hp hq => by
    unfold seeV at hp ⊢
    by_cases e : q = k
    · left; rw [if_pos e]
    · rw [if_neg e]
      by_cases e2 : p = k
      · subst e2
        exact .inr (List.mem_append_right _ (mem_nextG.2 hq))
      · rw [if_neg e2] at hp
        rcases h.c p q hp hq with z | z
        · exact .inl z
        · rcases List.mem_cons.1 z with rfl | z
          · exact absurd rfl e
          · exact .inr (List.mem_append_left _ z)
theorem tntV_spec (steps : List (Int × Int)) (srcs : List Int) : ∀ (g : Nat) (seen : Int → Bool) (todo : List Int) (r : Int → Bool), Mid steps srcs seen todo → tntV (nextG steps) g seen todo = some r → ∀ k, r k = true ↔ Tnt steps srcs k
  | 0, seen, todo, r, h, e => by simp [tntV] at e
  | g + 1, seen, [], r, h, e => by
    obtain rfl : seen = r := by simpa [tntV] using e
    intro k
    refine ⟨h.s k, fun ht => ?_⟩
    induction ht with
    | base hp => rcases h.b _ hp with z | z; exact z; simp at z
    | step _ hq ih => rcases h.c _ _ ih hq with z | z; exact z; simp at z
  | g + 1, seen, k :: t, r, h, e => by
    rw [tntV] at e
    by_cases c : seen k = true
    · rw [if_pos c] at e
      exact tntV_spec steps srcs g seen t r (h.skip c) e
    · rw [if_neg c] at e
      exact tntV_spec steps srcs g _ _ r h.see e
/-- how many rounds are left at most -/
def potV (steps : List (Int × Int)) (seen : Int → Bool) (todo : List Int) : Nat := todo.length + (steps.filter fun p => !seen p.1).length
theorem pot_see (steps : List (Int × Int)) (seen : Int → Bool) (k : Int) (r : List Int) (h : seen k = false) : potV steps (seeV seen k) (r ++ nextG steps k) + 1 = potV steps seen (k :: r) := by
  have e : (steps.filter fun p => !seen p.1).length = (steps.filter fun p => !seeV seen k p.1).length + (nextG steps k).length := by
    unfold nextG
    rw [List.length_map]
    induction steps with
    | nil => rfl
    | cons p s ih =>
      by_cases c : p.1 = k
      · have h1 : seen p.1 = false := by rw [c]; exact h
        simp [List.filter_cons, c, h, seeV] at ih ⊢
        omega
      · simp only [List.filter_cons, seeV, if_neg c, c, decide_false, Bool.false_eq_true, if_false]
        cases hs : seen p.1
        · simp [hs] at ih ⊢; simp [seeV] at ih; omega
        · simp [hs] at ih ⊢; simp [seeV] at ih; omega
  unfold potV
  rw [List.length_append, e, List.length_cons]
  omega
theorem tntV_some (steps : List (Int × Int)) : ∀ (g : Nat) (seen : Int → Bool) (todo : List Int), potV steps seen todo < g → ∃ r, tntV (nextG steps) g seen todo = some r
  | 0, seen, todo, h => by omega
  | g + 1, seen, [], h => ⟨seen, rfl⟩
  | g + 1, seen, k :: t, h => by
    rw [tntV]
    by_cases c : seen k = true
    · rw [if_pos c]
      exact tntV_some steps g seen t (by unfold potV at h ⊢; rw [List.length_cons] at h; omega)
    · rw [if_neg c]
      have := pot_see steps seen k t (by simpa using c)
      exact tntV_some steps g _ _ (by omega)
theorem tntV_more (G : Int → List Int) : ∀ (g : Nat) (seen : Int → Bool) (todo : List Int), LeO (tntV G g seen todo) (tntV G (g + 1) seen todo)
  | 0, _, _ => LeO.none _
  | g + 1, seen, [] => LeO.refl _
  | g + 1, seen, k :: t => by
    rw [tntV, tntV.eq_3]
    exact LeO.ite (tntV_more G g _ _) (tntV_more G g _ _)
end Go.Proofs.Ytnepgcbgkhikkaa.H
/- on a trace: where it leads, who wrote a name last, what is read later -/
namespace Go.Proofs.Ytnepgcbgkhikkaa.H
open Go.RowKit Go.Proofs.YtnepgcbgkhikkaaW.PrintWords
set_option linter.unusedVariables false
set_option linter.unusedSimpArgs false
theorem mem_srtI2 {a b x : Int} : x ∈ srtI2 a b ↔ x = a ∨ x = b := by
  unfold srtI2
  split
  · simp
  · split
    · simp; omega
    · simp; omega
theorem stmt_at2 {l : List Stmt} {s : St} (h : inS l s) {st : Stmt} (e : l[s.n.toNat]? = some st) : at_ l s.n = st := by
  unfold at_ rd_T30
  rw [List.getD_eq_getElem?_getD, e]
  rfl
theorem leads {l : List Stmt} {s : St} (h : inS l s) (h' : inS l (nextS l s)) : (nextS l s).n ∈ nxt l s.n := by
  obtain ⟨st, e, hm, hn⟩ := inS_at h
  have ha := stmt_at2 h e
  have hq : 0 ≤ (nextS l s).n ∧ (nextS l s).n < (l.length : Int) := h'
  unfold nxt
  rw [if_pos (show 0 ≤ s.n ∧ s.n < (l.length : Int) from h), List.mem_filter, ha]
  refine ⟨?_, by simp [withinB]; exact hq⟩
  rw [hn] at hq ⊢
  show stepN st s.n.toNat s.vs s.ora ∈ nxtRaw st s.n
  replace hq : 0 ≤ stepN st s.n.toNat s.vs s.ora ∧ _ := hq
  have h0 : ((s.n.toNat : Nat) : Int) = s.n := by have := h.1; omega
  unfold stepN at hq ⊢
  unfold nxtRaw
  by_cases k7 : st.kind = 7
  · rw [if_pos k7, if_pos k7, mem_srtI2]; split <;> simp
  · rw [if_neg k7] at hq ⊢
    rw [if_neg k7]
    by_cases k8 : st.kind = 8
    · rw [if_pos k8, if_pos k8]; simp
    · rw [if_neg k8] at hq ⊢
      rw [if_neg k8]
      by_cases k9 : st.kind = 9
      · rw [if_pos k9] at hq; omega
      · rw [if_neg k9, if_neg k9, h0]; simp
theorem defB_at {l : List Stmt} {s : St} (h : inS l s) {st : Stmt} (e : l[s.n.toNat]? = some st) (x : ByteArray) : defB (at_ l s.n) x = true ↔ defK st ∧ st.x = x := by
  rw [stmt_at2 h e, defB_iff]
  unfold defN defK
  split
  · rename_i c; simp [c]
  · rename_i c; simp [c]
theorem nodup_names {l : List Stmt} {s : St} (hn : s.vs.map Var.name = nmsV l) {i j : Nat} {v w : Var} (hi : s.vs[i]? = some v) (hj : s.vs[j]? = some w) (e : v.name = w.name) : i = j := by
  have hp : ((s.vs.map Var.name).map toL).Pairwise (· < ·) := by rw [hn]; exact setS_sorted (l.flatMap namesOf)
  have hq : ∀ {i j : Nat} {v w : Var}, s.vs[i]? = some v → s.vs[j]? = some w → v.name = w.name → ¬ i < j := by
    intro i j v w hi hj e hlt
    obtain ⟨hil, ei⟩ := List.getElem?_eq_some_iff.1 hi
    obtain ⟨hjl, ej⟩ := List.getElem?_eq_some_iff.1 hj
    have := List.pairwise_iff_getElem.1 hp i j (by simpa using hil) (by simpa using hjl) hlt
    simp only [List.getElem_map, ei, ej, e] at this
    exact List.lt_irrefl _ this
  have h1 := hq hi hj e
  have h2 := hq hj hi e.symm
  omega
/-- what a name has behind a statement: what it had, if that doesn't define it, or what was made -/
theorem vars_next {l : List Stmt} {s : St} (h : inS l s) (hn : s.vs.map Var.name = nmsV l) {st : Stmt} (e : l[s.n.toNat]? = some st) {i : Nat} {v : Var} (hv : (nextS l s).vs[i]? = some v) :
    (¬ (defK st ∧ st.x = v.name) ∧ s.vs[i]? = some v) ∨ (defK st ∧ v = madeV st s.n.toNat s.vs s.ins) := by
  obtain ⟨st', e', hm, hx⟩ := inS_at h
  obtain rfl : st = st' := by rw [e] at e'; exact Option.some.inj e'
  rw [hx] at hv
  replace hv : (stepV st s.n.toNat s.vs s.ins)[i]? = some v := hv
  unfold stepV at hv
  by_cases hk : defK st
  · rw [if_pos hk] at hv
    have hkn : KnownBy st (s.vs.map Var.name) := by rw [hn]; exact known_of hm
    obtain ⟨k, y, h1, h2, h3⟩ := getV_at s.vs 0 (hkn.x hk)
    have ha : atV s.vs st.x = (k : Int) := by rw [atV, h1, Nat.zero_add]
    have hy : y.name = st.x := by
      have : getV s.vs st.x = y := h3
      rw [← this]
      unfold getV
      cases hf : s.vs.find? (fun p => decide (p.name = st.x)) with
      | none =>
        rw [List.find?_eq_none] at hf
        obtain ⟨w, hw, ew⟩ := List.mem_map.1 (hkn.x hk)
        exact absurd ew (by simpa using hf w hw)
      | some w => simpa using List.find?_some hf
    rw [ha, Int.toNat_natCast, List.getElem?_set] at hv
    split at hv
    · rename_i ei
      have hl := (List.getElem?_eq_some_iff.1 h2).1
      rw [if_pos hl] at hv
      exact .inr ⟨hk, (Option.some.inj hv).symm⟩
    · rename_i ei
      refine .inl ⟨fun hd => ei ?_, hv⟩
      exact nodup_names hn h2 hv (hy.trans hd.2)
  · rw [if_neg hk] at hv
    exact .inl ⟨fun hd => hk hd.1, hv⟩
theorem madeV_name (st : Stmt) (n : Nat) (vs : List Var) (ins : List Int) : (madeV st n vs ins).name = st.x ∧ (madeV st n vs ins).last = (n : Int) := by
  unfold madeV
  repeat' split
  all_goals exact ⟨rfl, rfl⟩
/-- who wrote a name last defines it, and reaches the statement; what never was written is 0 -/
def okV (l : List Stmt) (n : Int) (v : Var) : Prop := (v.last < 0 → v.n = 0 ∧ v.taint = false ∧ v.last = -1) ∧ (0 ≤ v.last → reachP l n v.name v.last)
theorem okV_next {l : List Stmt} {s : St} (h : inS l s) (h' : inS l (nextS l s)) (hn : s.vs.map Var.name = nmsV l) (ho : ∀ (i : Nat) v, s.vs[i]? = some v → okV l s.n v) : ∀ (i : Nat) v, (nextS l s).vs[i]? = some v → okV l (nextS l s).n v := by
  intro i v hv
  obtain ⟨st, e, hm, hx⟩ := inS_at h
  have hl := leads h h'
  have h0 : ((s.n.toNat : Nat) : Int) = s.n := by have := h.1; omega
  rcases vars_next h hn e hv with ⟨hd, hv⟩ | ⟨hk, rfl⟩
  · obtain ⟨o1, o2⟩ := ho i v hv
    refine ⟨o1, fun hq => ?_⟩
    obtain ⟨r1, r2, r3, r4, r5, r6⟩ := o2 hq
    refine ⟨h'.1, h'.2, r3, r4, r5, .step r6 ?_ hl⟩
    unfold keepS
    rw [Bool.not_eq_true', ← Bool.not_eq_true, defB_at h e]
    exact hd
  · obtain ⟨q1, q2⟩ := madeV_name st s.n.toNat s.vs s.ins
    refine ⟨fun hq => by rw [q2] at hq; omega, fun _ => ?_⟩
    rw [q1, q2, h0]
    exact ⟨h'.1, h'.2, h.1, h.2, (defB_at h e _).2 ⟨hk, rfl⟩, .base hl⟩
theorem okV_all {l : List Stmt} {s : St} (hn : s.vs.map Var.name = nmsV l) (ho : ∀ (i : Nat) v, s.vs[i]? = some v → okV l s.n v) : ∀ (m : Nat), (∀ i, i ≤ m → inS l (sN l s i)) → ∀ (i : Nat) v, (sN l s m).vs[i]? = some v → okV l (sN l s m).n v
  | 0, _ => ho
  | m + 1, h => okV_next (h m (by omega)) (h (m + 1) (by omega)) (names_sN hn m (fun i hi => h i (by omega))) (okV_all hn ho m (fun i hi => h i (by omega)))
theorem okV_s0 (l : List Stmt) (ins : List Int) (ora : List Bool) : ∀ (i : Nat) v, (s0 l ins ora).vs[i]? = some v → okV l (s0 l ins ora).n v := by
  intro i v hv
  have : ((nmsV l).map initV)[i]? = some v := hv
  rw [List.getElem?_map] at this
  obtain ⟨x, -, rfl⟩ := Option.map_eq_some_iff.1 this
  exact ⟨fun _ => ⟨rfl, rfl, rfl⟩, fun h => absurd h (by simp [initV])⟩
/-- from a state on: a name that was not written leads there -/
theorem unwritten {l : List Stmt} {s : St} (x : ByteArray) : ∀ (m : Nat), (∀ i, i ≤ m → inS l (sN l s i)) → (∀ i, i < m → defB (at_ l (sN l s i).n) x = false) → Rch l (keepS l x) [s.n] (sN l s m).n
  | 0, _, _ => .base (by simp [sN])
  | m + 1, h, hd => by
    refine .step (unwritten x m (fun i hi => h i (by omega)) (fun i hi => hd i (by omega))) ?_ (leads (h m (by omega)) (h (m + 1) (by omega)))
    unfold keepS
    rw [hd m (by omega)]; rfl
end Go.Proofs.Ytnepgcbgkhikkaa.H
/- what is tainted on a trace is tainted as the steps tell -/
namespace Go.Proofs.Ytnepgcbgkhikkaa.H
open Go.RowKit Go.Proofs.YtnepgcbgkhikkaaW.PrintWords
set_option linter.unusedVariables false
set_option linter.unusedSimpArgs false
theorem idxP_mem {α : Type} (p : α → Bool) : ∀ (l : List α) (i : Nat), (∃ x ∈ l, p x = true) → 0 ≤ idxP p l i
  | [], i, h => by obtain ⟨x, hx, -⟩ := h; simp at hx
  | y :: l, i, h => by
    unfold idxP
    split
    · omega
    · rename_i c
      refine idxP_mem p l (i + 1) ?_
      obtain ⟨x, hx, hp⟩ := h
      rcases List.mem_cons.1 hx with rfl | hx
      · exact absurd hp c
      · exact ⟨x, hx, hp⟩
theorem idxP_not {α : Type} (p : α → Bool) : ∀ (l : List α) (i : Nat), (∀ x ∈ l, p x = false) → idxP p l i = -1
  | [], i, h => rfl
  | y :: l, i, h => by
    unfold idxP
    rw [if_neg (by rw [h y (by simp)]; simp)]
    exact idxP_not p l (i + 1) (fun x hx => h x (List.mem_cons_of_mem _ hx))
theorem idxS_mem {names : List ByteArray} {x : ByteArray} : 0 ≤ idxS names x ↔ x ∈ names := by
  constructor
  · intro h
    by_cases c : x ∈ names
    · exact c
    · have := idxP_not (fun y => decide (y = x)) names 0 (fun y hy => by simp; rintro rfl; exact c hy)
      unfold idxS at h
      omega
  · intro h
    exact idxP_mem _ _ _ ⟨x, h, by simp⟩
def TaintP (s : List Stmt) (names : List ByteArray) (n : Int) (x : ByteArray) : Prop := Tnt (stepsP s names) (srcsP s names) (atP names n x)
theorem at_nat {s : List Stmt} {n : Int} (h0 : 0 ≤ n) : ((n.toNat : Nat) : Int) = n := by omega
theorem kept_step {s : List Stmt} {names : List ByteArray} {n m : Int} {y : ByteArray} (h0 : 0 ≤ n) (h1 : n < (s.length : Int)) (hm : m ∈ nxt s n) (hy : y ∈ names) (hd : defB (at_ s n) y = false) (h : TaintP s names n y) : TaintP s names m y := by
  refine .step h ?_
  unfold stepsP stepsAt
  refine List.mem_flatMap.2 ⟨n.toNat, List.mem_range.2 (by omega), ?_⟩
  rw [at_nat (s := s) h0]
  refine List.mem_flatMap.2 ⟨m, hm, ?_⟩
  unfold stF
  refine List.mem_append_left _ (List.mem_flatMap.2 ⟨y, hy, ?_⟩)
  unfold keptF
  rw [if_neg (by rw [hd]; simp)]
  simp
theorem used_step {s : List Stmt} {names : List ByteArray} {n m : Int} {y : ByteArray} (h0 : 0 ≤ n) (h1 : n < (s.length : Int)) (hm : m ∈ nxt s n) (hk : opK (at_ s n)) (hy : y ∈ usesS (at_ s n)) (h : TaintP s names n y) : TaintP s names m (defN (at_ s n)).1 := by
  refine .step h ?_
  unfold stepsP stepsAt
  refine List.mem_flatMap.2 ⟨n.toNat, List.mem_range.2 (by omega), ?_⟩
  rw [at_nat (s := s) h0]
  refine List.mem_flatMap.2 ⟨m, hm, ?_⟩
  unfold stF
  rw [if_pos hk]
  exact List.mem_append_right _ (List.mem_map.2 ⟨y, hy, rfl⟩)
theorem source_step {s : List Stmt} {names : List ByteArray} {n m : Int} (h0 : 0 ≤ n) (h1 : n < (s.length : Int)) (hm : m ∈ nxt s n) (hk : (at_ s n).kind = 4) : TaintP s names m (defN (at_ s n)).1 := by
  refine .base ?_
  unfold srcsP srcsAt
  refine List.mem_flatMap.2 ⟨n.toNat, List.mem_range.2 (by omega), ?_⟩
  rw [at_nat (s := s) h0]
  refine List.mem_flatMap.2 ⟨m, hm, ?_⟩
  unfold srcF
  rw [if_pos hk]
  simp
theorem getV_spec {vs : List Var} {x : ByteArray} (h : x ∈ vs.map Var.name) : ∃ (k : Nat) (v : Var), vs[k]? = some v ∧ getV vs x = v ∧ v.name = x := by
  obtain ⟨k, y, h1, h2, h3⟩ := getV_at vs 0 h
  refine ⟨k, y, h2, h3, ?_⟩
  rw [← h3]
  unfold getV
  cases hf : vs.find? (fun p => decide (p.name = x)) with
  | none =>
    rw [List.find?_eq_none] at hf
    obtain ⟨w, hw, ew⟩ := List.mem_map.1 h
    exact absurd ew (by simpa using hf w hw)
  | some w => simpa using List.find?_some hf
def okT (l : List Stmt) (n : Int) (v : Var) : Prop := v.taint = true → TaintP l (nmsV l) n v.name
theorem okT_next {l : List Stmt} {s : St} (h : inS l s) (h' : inS l (nextS l s)) (hn : s.vs.map Var.name = nmsV l) (ho : ∀ (i : Nat) v, s.vs[i]? = some v → okT l s.n v) : ∀ (i : Nat) v, (nextS l s).vs[i]? = some v → okT l (nextS l s).n v := by
  intro i v hv ht
  obtain ⟨st, e, hm, hx⟩ := inS_at h
  have hl := leads h h'
  have ha := stmt_at2 h e
  have hk := known_of (l := l) hm
  have hg : ∀ x, x ∈ nmsV l → (getV s.vs x).taint = true → TaintP l (nmsV l) s.n x := by
    intro x hx hq
    obtain ⟨k, w, h1, h2, h3⟩ := getV_spec (vs := s.vs) (x := x) (by rw [hn]; exact hx)
    rw [h2] at hq
    have := ho k w h1 hq
    rwa [h3] at this
  rcases vars_next h hn e hv with ⟨hd, hv⟩ | ⟨hkd, rfl⟩
  · have hvn : v.name ∈ nmsV l := by rw [← hn]; exact List.mem_map.2 ⟨v, List.mem_of_getElem? hv, rfl⟩
    exact kept_step h.1 h.2 hl hvn (by rw [← Bool.not_eq_true, defB_at h e]; exact hd) (ho i v hv ht)
  · have hdn : defN (at_ l s.n) = (st.x, true) := by
      rw [ha]; unfold defN; unfold defK at hkd; rw [if_pos hkd]
    rw [(madeV_name st s.n.toNat s.vs s.ins).1]
    have used : opK st → ∀ y, y ∈ usesS st → TaintP l (nmsV l) s.n y → TaintP l (nmsV l) (nextS l s).n st.x := by
      intro ho y hy hT
      have := used_step h.1 h.2 hl (by rw [ha]; exact ho) (by rw [ha]; exact hy) hT
      rwa [hdn] at this
    unfold madeV at ht
    by_cases k1 : st.kind = 1
    · rw [if_pos k1] at ht; cases ht
    rw [if_neg k1] at ht
    by_cases k2 : st.kind = 2
    · rw [if_pos k2] at ht
      have hu : ∀ y, y = st.y ∨ y = st.z → y ∈ usesS st := by
        intro y hy
        unfold usesS
        rw [if_pos k2]
        exact mem_setS.2 (by simpa using hy)
      replace ht : or (getV s.vs st.y).taint (getV s.vs st.z).taint = true := ht
      rcases Bool.or_eq_true_iff.1 ht with q | q
      · exact used (.inl k2) st.y (hu _ (.inl rfl)) (hg _ (hk.y (.inl k2)) q)
      · exact used (.inl k2) st.z (hu _ (.inr rfl)) (hg _ (hk.z k2) q)
    rw [if_neg k2] at ht
    by_cases k3 : st.kind = 3
    · rw [if_pos k3] at ht
      have hu : st.y ∈ usesS st := by
        unfold usesS
        rw [if_neg k2, if_pos (.inl k3)]
        simp
      exact used (.inr k3) st.y hu (hg _ (hk.y (.inr (.inl k3))) ht)
    rw [if_neg k3] at ht
    by_cases k4 : st.kind = 4
    · have := source_step h.1 h.2 (names := nmsV l) hl (by rw [ha]; exact k4)
      rwa [hdn] at this
    rw [if_neg k4] at ht
    cases ht
theorem okT_all {l : List Stmt} {s : St} (hn : s.vs.map Var.name = nmsV l) (ho : ∀ (i : Nat) v, s.vs[i]? = some v → okT l s.n v) : ∀ (m : Nat), (∀ i, i ≤ m → inS l (sN l s i)) → ∀ (i : Nat) v, (sN l s m).vs[i]? = some v → okT l (sN l s m).n v
  | 0, _ => ho
  | m + 1, h => okT_next (h m (by omega)) (h (m + 1) (by omega)) (names_sN hn m (fun i hi => h i (by omega))) (okT_all hn ho m (fun i hi => h i (by omega)))
theorem okT_s0 (l : List Stmt) (ins : List Int) (ora : List Bool) : ∀ (i : Nat) v, (s0 l ins ora).vs[i]? = some v → okT l (s0 l ins ora).n v := by
  intro i v hv ht
  have : ((nmsV l).map initV)[i]? = some v := hv
  rw [List.getElem?_map] at this
  obtain ⟨x, -, rfl⟩ := Option.map_eq_some_iff.1 this
  cases ht
end Go.Proofs.Ytnepgcbgkhikkaa.H
/- cfg.flows' closure: the place of a name ahead of a statement -/
namespace Go.Proofs.Ytnepgcbgkhikkaa.H
open Go.RowKit Go.Proofs.YtnepgcbgkhikkaaW.PrintWords Go.Proofs.YtnepgcbgkhikkaaW.PrintLast Go.Proofs.YtnepgcbgkhikkaaW.PrintMore
set_option linter.unusedVariables false
set_option maxRecDepth 100000 in
theorem flowAt_calls (g : Nat) (An : Option Addr) (cn : Nat) (names : List ByteArray) (n : Int) (x : ByteArray) (w : World) (hc : w.cell? ⟨g, 0, none⟩ = some (.slice An names.length cn)) (hn : Kd.C Kd.string w An names.length names) (hcn : names.length ≤ cn) (h0 : 0 ≤ n) (h1 : n ≤ 1000) (hl : names.length ≤ 3000) :
    Calls Try.prog 77 #[.int .i64 n, .string x, .pointer (some ⟨g, 0, none⟩)] w fun e w' => e = .returned (.int .i64 (atP names n x)) ∧ ∃ m, w' = w.drewN m := by
  obtain ⟨k, hk⟩ := Ev.rounds (Index_ev names x (by omega))
  have hi := idxS_range names x
  have hm0 : 0 ≤ n * (names.length : Int) := Int.mul_nonneg h0 (by omega)
  have hm1 : n * (names.length : Int) ≤ 1000 * 3000 := Int.mul_le_mul h1 (by omega) (by omega) (by omega)
  have e1 : IntKind.i64.wrap (n * (names.length : Int)) = n * (names.length : Int) := by rw [i64_w]; unfold wrap64; omega
  have e2 : IntKind.i64.wrap (n * (names.length : Int) + idxS names x) = n * (names.length : Int) + idxS names x := by rw [i64_w]; unfold wrap64; omega
  have HK := Aside0.mk hk
  have HN := Aside0.mk hn
  have HC := Aside0.mk hcn
  clear hk hn hcn
  go_enter Try.func77, Try.ntmps77
  go_wp2
  go_quiet ((go_at_call 59; exact Calls.quiet_of ((slices_Index_string_string.calls k _ _ names x _ _ (Kd.C_drewN HN.out _) HC.out HK.out).mono (fun e w' h => ⟨h.1, h.2.out⟩))))
  go_wp2
  go_ret
  exact ⟨rfl, nq, rfl⟩
end Go.Proofs.Ytnepgcbgkhikkaa.H
/- cfg.flows: the steps of taints, and the places that come of sources -/
namespace Go.Proofs.Ytnepgcbgkhikkaa.H
open Go.RowKit Go.Proofs.YtnepgcbgkhikkaaW.PrintWords Go.Proofs.YtnepgcbgkhikkaaW.PrintLast Go.Proofs.YtnepgcbgkhikkaaW.PrintMore
set_option linter.unusedVariables false
abbrev kP : Kd (Int × Int) := Kd.pair (Kd.int .i64) (Kd.int .i64)
theorem kP_mkM (w : World) (base : Nat) (ok : Nat → Prop) (a b : Int) : kP.M w base ok (a, b) [.int .i64 a, .int .i64 b] := ⟨[.int .i64 a], [.int .i64 b], rfl, rfl, rfl⟩
theorem infoP : (Try.prog.info? 84).map (fun i => (i.zero, i.size, i.bytes)) = some (some (.agg #[.int .i64 0, .int .i64 0]), 2, 16) := by kernel_rfl
theorem infoI : (Try.prog.info? 3).map (fun i => (i.zero, i.size, i.bytes)) = some (some (.int .i64 0), 1, 8) := by kernel_rfl
theorem at_stmt {l : List Stmt} {n : Nat} {st : Stmt} (e : l[n]? = some st) : at_ l (n : Int) = st := by
  unfold at_ rd_T30
  rw [Int.toNat_natCast, List.getD_eq_getElem?_getD, e]
  rfl
set_option maxRecDepth 100000 in
set_option maxHeartbeats 4000000 in
theorem flows_calls (A0 : Option Addr) (c0 : Nat) (l : List Stmt) (An : Option Addr) (cn : Nat) (names : List ByteArray) (w : World) (hr0 : Kd.C k30 w A0 l.length l) (hc0 : l.length ≤ c0) (hn : Kd.C Kd.string w An names.length names) (hcn : names.length ≤ cn) (hl : l.length ≤ 1000) (hnl : names.length ≤ 3000) :
    Calls Try.prog 60 #[.slice A0 l.length c0, .slice An names.length cn] w fun e w' => ∃ v1 v2 : Value, e = .returned (.tuple #[v1, v2]) ∧ Kd.R kP 84 w' w.heap.size (fun _ => True) v1 (stepsP l names) ∧ Kd.R (Kd.int .i64) 3 w' w.heap.size (fun _ => True) v2 (srcsP l names) ∧ Below w.heap.size w w' := by
  have HR0 := Aside0.mk hr0
  have HC0 := Aside0.mk hc0
  have HN := Aside0.mk hn
  have HCN := Aside0.mk hcn
  clear hr0 hc0 hn hcn
  have hus := Try.underlying30
  go_enter Try.func60, Try.ntmps60
  go_wp2
  go_loopg [7, 8, 22] l.length (fun gg s7 s8 s22 wr => ∃ (kk : Nat), kk ≤ l.length ∧ l.length - kk ≤ gg ∧ s22 = .int .i64 kk ∧ Aside0 (Below w.heap.size w wr) ∧ Aside0 (wr.heap[w.heap.size]? = some (.cells #[.slice An names.length cn] 32 (0, 0))) ∧ Aside0 (Kd.R kP 84 wr (w.heap.size + 1) (fun _ => True) s7 ((List.range kk).flatMap (stepsAt l names))) ∧ Aside0 (Kd.R (Kd.int .i64) 3 wr (w.heap.size + 1) (fun _ => True) s8 ((List.range kk).flatMap (srcsAt l names))))
  case atStart => exact ⟨0, Nat.zero_le _, by omega, rfl, ⟨below_alloc (Below.refl _ _) _⟩, ⟨blk_new w _⟩, ⟨Kd.R_nil _ _ _ _ _⟩, ⟨Kd.R_nil _ _ _ _ _⟩⟩
  case round =>
    obtain ⟨kk, hkk, hg, rfl, BW, GN, R7, R8⟩ := hrel
    by_cases hlt : kk < l.length
    · have hltz : (kk : Int) < (l.length : Int) := by omega
      obtain ⟨st, hst⟩ := at_some hlt
      have HL : Aside0 (Kd.C k30 wr A0 l.length l) := ⟨Kd.C_below HR0.out BW.out⟩
      obtain ⟨ad, e1, hx0, hx1, hx2, hx3, hx4, hx5, hx6, hx7⟩ := at_Stmt HL.out hst
      cases e1
      have HST := Aside0.mk hst
      obtain ⟨dx, dk, hd⟩ : ∃ dx dk, defN st = (dx, dk) := ⟨_, _, rfl⟩
      have HD := Aside0.mk hd
      have hkz : (0 : Int) ≤ (kk : Int) := by omega
      clear hst hd
      go_wp2_with (go_at_call 20; go_must (refine (cfg_Def.calls st.kind st.x st.y st.z st.op st.n st.a st.b dx dk _ (by rw [Def_eq, HD.out])).mono ?_); rintro e w2 ⟨rfl, hb2⟩; have B2 := Aside0.mk (Below.then (below_alloc BW.out _) hb2); have G2 := Aside0.mk (blk_below (blk_alloc GN.out _) hb2); have T2 := Aside0.mk (blk_below (blk_new wr _) hb2); have R72 := Aside0.mk (Kd.R_below (Kd.R_alloc R7.out _) hb2); have R82 := Aside0.mk (Kd.R_below (Kd.R_alloc R8.out _) hb2); have hs2 := hb2.size; simp at hs2; clear hb2)
      go_wp2_with (go_at_call 19; go_must (refine (cfg_Next.calls _ c0 l kk (nxt l kk) _ (Kd.C_below HR0.out B2.out) HC0.out (Next_eq l kk)).mono ?_); rintro e w3 ⟨v34, rfl, h34, hb3⟩; have B3 := Aside0.mk (Below.then B2.out hb3); have G3 := Aside0.mk (blk_below G2.out hb3); have T3 := Aside0.mk (blk_below T2.out hb3); have R73 := Aside0.mk (Kd.R_below R72.out hb3); have R83 := Aside0.mk (Kd.R_below R82.out hb3); have H34 := Aside0.mk (Kd.R_bound h34); have hs3 := hb3.size; clear h34 hb3; obtain ⟨A34, c34, e34⟩ := Kd.R_slice H34.out; subst e34)
      have hb7 := Kd.R_base R7.out
      have hl7 := Kd.R_lt R7.out
      have hb8 := Kd.R_base R8.out
      have hl8 := Kd.R_lt R8.out
      have hgn := blk_lt GN.out
      obtain ⟨S2, hS⟩ : ∃ S : Nat → Prop, ∀ k, S k ↔ (u7.ownBlock = some k ∨ u8.ownBlock = some k ∨ w3.heap.size ≤ k) := ⟨_, fun _ => Iff.rfl⟩
      have NF : Aside0 (∀ k, w3.heap.size ≤ k → S2 k) := ⟨fun k h => (hS k).2 (.inr (.inr h))⟩
      have NG : Aside0 (∀ k, k ≤ w.heap.size ∨ k = wr.heap.size ∨ (w2.heap.size ≤ k ∧ k < w3.heap.size) → ¬ S2 k) := ⟨fun k hk h => by
        rcases (hS k).1 h with h | h | h
        · have := hb7 k h; have := hl7 k h; omega
        · have := hb8 k h; have := hl8 k h; omega
        · omega⟩
      have NS : Aside0 (∀ k, S2 k → w.heap.size + 1 ≤ k) := ⟨fun k hk => by
        rcases (hS k).1 hk with h | h | h
        · exact hb7 k h
        · exact hb8 k h
        · omega⟩
      have R7S : Aside0 (Kd.R kP 84 w3 (w.heap.size + 1) S2 u7 ((List.range kk).flatMap (stepsAt l names))) := ⟨Kd.R_reok rfl R73.out (fun k h => (hS k).2 (.inl h))⟩
      have R8S : Aside0 (Kd.R (Kd.int .i64) 3 w3 (w.heap.size + 1) S2 u8 ((List.range kk).flatMap (srcsAt l names))) := ⟨Kd.R_reok rfl R83.out (fun k h => (hS k).2 (.inr (.inl h)))⟩
      clear hS hb7 hl7 hb8 hl8
      have hSl : ((List.range kk).flatMap (stepsAt l names)).length ≤ 6100000 := by
        have h1 := flatMap_len (stepsAt l names) _ (stepsAt_len l names) (List.range kk)
        rw [List.length_range] at h1
        have h2 : kk * (2 * (names.length + 2)) ≤ 1000 * (2 * 3002) := Nat.mul_le_mul (by omega) (by omega)
        omega
      have hRl : ((List.range kk).flatMap (srcsAt l names)).length ≤ 2000 := by
        have h1 := flatMap_len (srcsAt l names) _ (srcsAt_len l names) (List.range kk)
        rw [List.length_range] at h1
        omega
      obtain ⟨S1, hS1⟩ : ∃ S1, S1 = (List.range kk).flatMap (stepsAt l names) := ⟨_, rfl⟩
      obtain ⟨R1, hR1⟩ : ∃ R1, R1 = (List.range kk).flatMap (srcsAt l names) := ⟨_, rfl⟩
      rw [← hS1] at R7S hSl
      rw [← hR1] at R8S hRl
      have HS1 := Aside0.mk hS1
      have HR1 := Aside0.mk hR1
      clear hS1 hR1
      have hnx := nxt_len l kk
      go_loopg [7, 8, 36] (nxt l kk).length (fun gg s7 s8 s36 wx => ∃ (k2 : Nat), k2 ≤ (nxt l kk).length ∧ (nxt l kk).length - k2 ≤ gg ∧ s36 = .int .i64 k2 ∧ Aside0 (Below w.heap.size w wx) ∧ Aside0 (Kept w3 wx S2) ∧ Aside0 (Kd.R kP 84 wx (w.heap.size + 1) S2 s7 (S1 ++ ((nxt l kk).take k2).flatMap (stF names kk st))) ∧ Aside0 (Kd.R (Kd.int .i64) 3 wx (w.heap.size + 1) S2 s8 (R1 ++ ((nxt l kk).take k2).flatMap (srcF names st))))
      case atStart => exact ⟨0, Nat.zero_le _, by omega, rfl, B3, ⟨Kept.refl _ _⟩, ⟨by rw [List.take_zero, List.flatMap_nil, List.append_nil]; exact R7S.out⟩, ⟨by rw [List.take_zero, List.flatMap_nil, List.append_nil]; exact R8S.out⟩⟩
      case round =>
        obtain ⟨k2, hk2, hg2, rfl, B4, K4, R74, R84⟩ := hrel
        by_cases hlt2 : k2 < (nxt l kk).length
        · have hlt2z : (k2 : Int) < ((nxt l kk).length : Int) := by omega
          have hk2z : (0 : Int) ≤ (k2 : Int) := by omega
          obtain ⟨m, hm⟩ := at_some hlt2
          obtain ⟨hm0, hm1, -, -⟩ := nxt_within (List.mem_of_getElem? hm)
          have C34 := Kd.C_kept_own H34.out (S := S2) (fun k hk => NG.out k (.inr (.inr ⟨hk.2.1, hk.2.2.1⟩))) _ K4.out
          obtain ⟨ad34, e34, hx34⟩ := at_int C34 hm
          cases e34
          have HM := Aside0.mk hm
          have G4 := Aside0.mk (blk_kept G3.out K4.out (NG.out _ (.inl (Nat.le_refl _))))
          have T4 := Aside0.mk (blk_kept T3.out K4.out (NG.out _ (.inr (.inl rfl))))
          have hcN := (blk_cell G4.out 0).trans rfl
          clear hm C34
          have hkz2 : (kk : Int) ≤ 1000 := by omega
          have hm2 : m ≤ 1000 := by omega
          have hX7 : (S1 ++ ((nxt l kk).take k2).flatMap (stF names kk st)).length ≤ 6108000 := by
            have h1 := flatMap_len (stF names kk st) _ (stF_len names kk st) ((nxt l kk).take k2)
            rw [List.length_append]
            have h2 : ((nxt l kk).take k2).length * (names.length + 2) ≤ 2 * 3002 := Nat.mul_le_mul (by rw [List.length_take]; omega) (by omega)
            omega
          have hX8 : (R1 ++ ((nxt l kk).take k2).flatMap (srcF names st)).length ≤ 2002 := by
            have h1 := flatMap_len (srcF names st) _ (srcF_len names st) ((nxt l kk).take k2)
            rw [List.length_append]
            rw [List.length_take] at h1
            omega
          obtain ⟨X7, hX7e⟩ : ∃ X, X = S1 ++ ((nxt l kk).take k2).flatMap (stF names kk st) := ⟨_, rfl⟩
          obtain ⟨X8, hX8e⟩ : ∃ X, X = R1 ++ ((nxt l kk).take k2).flatMap (srcF names st) := ⟨_, rfl⟩
          rw [← hX7e] at R74 hX7
          rw [← hX8e] at R84 hX8
          have HX7 := Aside0.mk hX7e
          have HX8 := Aside0.mk hX8e
          clear hX7e hX8e
          go_wp2
          go_loopg [7, 42] names.length (fun gg s7 s42 wx => ∃ (k3 : Nat), k3 ≤ names.length ∧ names.length - k3 ≤ gg ∧ s42 = .int .i64 k3 ∧ Aside0 (Below w.heap.size w wx) ∧ Aside0 (Kept w3 wx S2) ∧ Aside0 (Kd.R kP 84 wx (w.heap.size + 1) S2 s7 (X7 ++ (names.take k3).flatMap (keptF names kk m st))) ∧ Aside0 (Kd.R (Kd.int .i64) 3 wx (w.heap.size + 1) S2 u8 X8))
          case atStart => exact ⟨0, Nat.zero_le _, by omega, rfl, B4, K4, ⟨by rw [List.take_zero, List.flatMap_nil, List.append_nil]; exact R74.out⟩, R84⟩
          case round =>
            obtain ⟨k3, hk3, hg3, rfl, B5, K5, R75, R85⟩ := hrel
            by_cases hlt3 : k3 < names.length
            · have hlt3z : (k3 : Int) < (names.length : Int) := by omega
              have hk3z : (0 : Int) ≤ (k3 : Int) := by omega
              obtain ⟨y, hy⟩ := at_some hlt3
              have HN5 := Aside0.mk (Kd.C_below HN.out B5.out)
              obtain ⟨adN, eN, hxN⟩ := at_str HN5.out hy
              cases eN
              have HY := Aside0.mk hy
              have G5 := Aside0.mk (blk_kept G3.out K5.out (NG.out _ (.inl (Nat.le_refl _))))
              have hcN := (blk_cell G5.out 0).trans rfl
              have hX5 : (X7 ++ (names.take k3).flatMap (keptF names kk m st)).length ≤ 6112000 := by
                have h1 := flatMap_len (keptF names kk m st) 1 (fun y => by unfold keptF; split <;> simp) (names.take k3)
                rw [List.length_append]
                rw [List.length_take] at h1
                omega
              clear hy
              by_cases hdy : dk = true ∧ dx = y
              · obtain ⟨rfl, rfl⟩ := hdy
                go_wp2
                go_roundg (names.length - (k3 + 1))
                case measure => omega
                case rel => exact ⟨k3 + 1, by omega, by omega, by go_num, B5, K5, ⟨by rw [flatMap_take _ HY.out, show keptF names kk m st _ = [] from if_pos (defB_iff.2 ⟨by rw [HD.out], by rw [HD.out]⟩), List.append_nil]; exact R75.out⟩, R85⟩
              · have e5 : Aside0 (keptF names kk m st y = [(atP names kk y, atP names m y)]) := ⟨if_neg (by rw [defB_iff, HD.out]; exact hdy)⟩
                have hq : dk = false ∨ (dk = true ∧ ¬ y = dx) := by
                  cases dk
                  · exact .inl rfl
                  · exact .inr ⟨rfl, fun h => hdy ⟨rfl, h.symm⟩⟩
                clear hdy
                rcases hq with rfl | ⟨rfl, hne⟩
                case' inr => obtain ⟨q1, q2⟩ := ba_bne hne; clear hne
                all_goals
                  go_wp2_with (first
                    | (go_at_call 77; go_must (refine (flowAt_calls w.heap.size _ cn names _ _ _ (by first | exact hcN | exact hcN.trans rfl) (by first | exact HN5.out | exact Kd.C_drewN HN5.out _ | exact Kd.C_drewN (Kd.C_drewN HN5.out _) _) HCN.out (by omega) (by omega) hnl).mono ?_); rintro e wq ⟨rfl, md, rfl⟩)
                    | (at_builtin; go_must (refine Kd.R_append kP (w.heap.size + 1) rfl (.tmp 53) (.tmp 63) 80 84 _ 16 rfl Try.underlying80 infoP rfl (by decide) (by omega) u7 (X7 ++ (names.take k3).flatMap (keptF names kk m st)) (atP names kk y, atP names m y) [.int .i64 _, .int .i64 _] S2 (fun _ => False) (by go_simp) (by go_simp) (kP_mkM _ _ _ _ _) (fun _ h => h.elim) (fun k hk => NF.out k (Nat.le_trans K5.out.1 hk)) (by first | exact R75.out | exact Kd.R_drewN R75.out _ | exact Kd.R_drewN (Kd.R_drewN R75.out _) _) (Below.refl _ _) (by have := blk_lt G5.out; simp; omega) (by omega) ?_); intro v1 w6 h1 hb1 hg1 hat1; have hgx : wr.grownBy w6 (u7).ownBlock := ⟨hg1.os, hg1.tape, hg1.output, hg1.size, hg1.block⟩; have HR6 := Aside0.mk h1; have HB6 := Aside0.mk (pw_below_grown B5.out _ B5.out.size hgx (fun k hk => by have := Kd.R_base R75.out k hk; omega)); have HK6 := Aside0.mk (Kept.of_grown hgx K5.out (fun k hk => .inl (R75.out.1 k hk))); have HO6 := Aside0.mk (Kd.R_over' R85.out (Kd.R_typed R75.out) (by decide) hgx); clear h1 hb1 hg1 hat1 hgx))
                  go_roundg (names.length - (k3 + 1))
                  case measure => omega
                  case rel => exact ⟨k3 + 1, by omega, by omega, by go_num, HB6, HK6, ⟨by rw [flatMap_take _ HY.out, e5.out, ← List.append_assoc]; exact HR6.out⟩, HO6⟩
            · have hlt3z : ¬ (k3 : Int) < (names.length : Int) := by omega
              obtain rfl : k3 = names.length := by omega
              have R7n : Aside0 (Kd.R kP 84 wr (w.heap.size + 1) S2 u7 (X7 ++ names.flatMap (keptF names kk m st))) := ⟨by have := R75.out; rwa [List.take_length] at this⟩
              have T5 := Aside0.mk (blk_kept T3.out K5.out (NG.out _ (.inr (.inl rfl))))
              have G5 := Aside0.mk (blk_kept G3.out K5.out (NG.out _ (.inl (Nat.le_refl _))))
              have hcN := (blk_cell G5.out 0).trans rfl
              have hk0 := (blk_cell T5.out 0).trans rfl
              have HN5 := Aside0.mk (Kd.C_below HN.out B5.out)
              have hX5 : (X7 ++ names.flatMap (keptF names kk m st)).length ≤ 6112000 := by
                have h1 := flatMap_len (keptF names kk m st) 1 (fun y => by unfold keptF; split <;> simp) names
                rw [List.length_append]
                omega
              clear R75
              have done7 : Aside0 (¬ opK st → S1 ++ ((nxt l kk).take (k2 + 1)).flatMap (stF names kk st) = X7 ++ names.flatMap (keptF names kk m st)) := ⟨fun h => by rw [flatMap_take _ HM.out, ← List.append_assoc, ← HX7.out]; unfold stF; rw [if_neg h, List.append_nil]⟩
              have done7o : Aside0 (opK st → S1 ++ ((nxt l kk).take (k2 + 1)).flatMap (stF names kk st) = (X7 ++ names.flatMap (keptF names kk m st)) ++ (usesS st).map (usedF names kk m st)) := ⟨fun h => by rw [flatMap_take _ HM.out, ← List.append_assoc, ← HX7.out]; unfold stF; rw [if_pos h, List.append_assoc]⟩
              have done8 : Aside0 (st.kind ≠ 4 → R1 ++ ((nxt l kk).take (k2 + 1)).flatMap (srcF names st) = X8) := ⟨fun h => by rw [flatMap_take _ HM.out, ← List.append_assoc, ← HX8.out]; unfold srcF; rw [if_neg h, List.append_nil]⟩
              have done8s : Aside0 (st.kind = 4 → R1 ++ ((nxt l kk).take (k2 + 1)).flatMap (srcF names st) = X8 ++ [atP names m dx]) := ⟨fun h => by rw [flatMap_take _ HM.out, ← List.append_assoc, ← HX8.out]; unfold srcF; rw [if_pos h, HD.out]⟩
              by_cases k4 : st.kind = 4
              · have KD := Aside0.mk k4
                rw [k4] at hk0
                clear k4
                go_wp2_with (first
                  | (go_at_call 77; go_must (refine (flowAt_calls w.heap.size _ cn names _ _ _ (by first | exact hcN | exact hcN.trans rfl) (by first | exact HN5.out | exact Kd.C_drewN HN5.out _ | exact Kd.C_drewN (Kd.C_drewN HN5.out _) _) HCN.out (by omega) (by omega) hnl).mono ?_); rintro e wq ⟨rfl, md, rfl⟩)
                  | (at_builtin; go_must (refine Kd.R_append (Kd.int .i64) (w.heap.size + 1) rfl (.tmp 69) (.tmp 74) 25 3 _ 8 rfl Try.underlying25 infoI rfl (by decide) (by omega) u8 (X8) (atP names m dx) [.int .i64 _] S2 (fun _ => False) (by go_simp) (by go_simp) rfl (fun _ h => h.elim) (fun k hk => NF.out k (Nat.le_trans K5.out.1 hk)) (by first | exact R85.out | exact Kd.R_drewN R85.out _ | exact Kd.R_drewN (Kd.R_drewN R85.out _) _) (Below.refl _ _) (by have := blk_lt G5.out; simp; omega) (by omega) ?_); intro v1 w6 h1 hb1 hg1 hat1; have hgx : wr.grownBy w6 (u8).ownBlock := ⟨hg1.os, hg1.tape, hg1.output, hg1.size, hg1.block⟩; have HR6 := Aside0.mk h1; have HB6 := Aside0.mk (pw_below_grown B5.out _ B5.out.size hgx (fun k hk => by have := Kd.R_base R85.out k hk; omega)); have HK6 := Aside0.mk (Kept.of_grown hgx K5.out (fun k hk => .inl (R85.out.1 k hk))); have HO6 := Aside0.mk (Kd.R_over' R7n.out (Kd.R_typed R85.out) (by decide) hgx); clear h1 hb1 hg1 hat1 hgx; have hk6 := (blk_cell (blk_kept T3.out HK6.out (NG.out _ (.inr (.inl rfl)))) 0).trans rfl; rw [KD.out] at hk6))
                go_roundg ((nxt l kk).length - (k2 + 1))
                case measure => omega
                case rel => exact ⟨k2 + 1, by omega, by omega, by go_num, HB6, HK6, ⟨by rw [done7.out (by unfold opK; rw [KD.out]; decide)]; exact HO6.out⟩, ⟨by rw [done8s.out KD.out]; exact HR6.out⟩⟩
              · by_cases ko : opK st
                · rcases ko with k | k
                  all_goals
                    have KO := Aside0.mk k
                    have hk1 := (blk_cell T5.out 1).trans rfl
                    have hk2c := (blk_cell T5.out 2).trans rfl
                    have hk3c := (blk_cell T5.out 3).trans rfl
                    have hk4c := (blk_cell T5.out 4).trans rfl
                    have hk5c := (blk_cell T5.out 5).trans rfl
                    have hk6c := (blk_cell T5.out 6).trans rfl
                    have hk7c := (blk_cell T5.out 7).trans rfl
                    rw [k] at hk0
                    have HU : Aside0 (cfg_Uses.f _ st.x st.y st.z st.op st.n st.a st.b = some (usesS st)) := ⟨k ▸ Uses_eq st⟩
                    have K4N := Aside0.mk k4
                    clear k k4
                    go_wp2_with (go_at_call 22; go_must (refine (cfg_Uses.calls _ _ _ _ _ _ _ _ (usesS st) _ HU.out).mono ?_); rintro e w7 ⟨v85, rfl, h85, hb7⟩; have B7 := Aside0.mk (Below.then B5.out hb7); have K7 := Aside0.mk (Kept.below K5.out hb7); have G7 := Aside0.mk (blk_below G5.out hb7); have R77 := Aside0.mk (Kd.R_below R7n.out hb7); have R87 := Aside0.mk (Kd.R_below R85.out hb7); have H85 := Aside0.mk (Kd.R_bound h85); have hs7 := hb7.size; clear h85 hb7; obtain ⟨A85, c85, e85⟩ := Kd.R_slice H85.out; subst e85)
                    have hb7u := Kd.R_base R7n.out
                    have hl7u := Kd.R_lt R7n.out
                    obtain ⟨S4, hS4⟩ : ∃ S : Nat → Prop, ∀ k, S k ↔ (u7.ownBlock = some k ∨ w7.heap.size ≤ k) := ⟨_, fun _ => Iff.rfl⟩
                    have NF4 : Aside0 (∀ k, w7.heap.size ≤ k → S4 k) := ⟨fun k h => (hS4 k).2 (.inr h)⟩
                    have hgn5 := blk_lt G5.out
                    have NG4 : Aside0 (∀ k, k ≤ w.heap.size ∨ (wr.heap.size ≤ k ∧ k < w7.heap.size) → ¬ S4 k) := ⟨fun k hk h => by
                      rcases (hS4 k).1 h with h | h
                      · have := hb7u k h; have := hl7u k h; omega
                      · omega⟩
                    have NS4 : Aside0 (∀ k, S4 k → S2 k) := ⟨fun k h => by
                      rcases (hS4 k).1 h with h | h
                      · exact R7n.out.1 k h
                      · exact NF.out k (Nat.le_trans K7.out.1 h)⟩
                    have R7S4 : Aside0 (Kd.R kP 84 w7 (w.heap.size + 1) S4 u7 (X7 ++ names.flatMap (keptF names kk m st))) := ⟨Kd.R_reok rfl R77.out (fun k h => (hS4 k).2 (.inl h))⟩
                    clear hS4 hb7u hl7u
                    have hul := usesS_len st
                    obtain ⟨Y7, hY7e⟩ : ∃ X, X = X7 ++ names.flatMap (keptF names kk m st) := ⟨_, rfl⟩
                    rw [← hY7e] at R7S4 hX5
                    have HY7 := Aside0.mk hY7e
                    clear hY7e
                    go_loopg [7, 87] (usesS st).length (fun gg s7 s87 wx => ∃ (k4 : Nat), k4 ≤ (usesS st).length ∧ (usesS st).length - k4 ≤ gg ∧ s87 = .int .i64 k4 ∧ Aside0 (Below w.heap.size w wx) ∧ Aside0 (Kept w7 wx S4) ∧ Aside0 (Kd.R kP 84 wx (w.heap.size + 1) S4 s7 (Y7 ++ ((usesS st).take k4).map (usedF names kk m st))) ∧ Aside0 (Kd.R (Kd.int .i64) 3 wx (w.heap.size + 1) S2 u8 X8))
                    case atStart => exact ⟨0, Nat.zero_le _, by omega, rfl, B7, ⟨Kept.refl _ _⟩, ⟨by rw [List.take_zero, List.map_nil, List.append_nil]; exact R7S4.out⟩, R87⟩
                    case round =>
                      obtain ⟨k4, hk4, hg4, rfl, B8, K8, R78, R88⟩ := hrel
                      by_cases hlt4 : k4 < (usesS st).length
                      · have hlt4z : (k4 : Int) < ((usesS st).length : Int) := by omega
                        have hk4z : (0 : Int) ≤ (k4 : Int) := by omega
                        obtain ⟨y, hy⟩ := at_some hlt4
                        have C85 := Kd.C_kept_own H85.out (S := S4) (fun k hk => NG4.out k (.inr ⟨hk.2.1, hk.2.2.1⟩)) _ K8.out
                        obtain ⟨ad85, e85, hx85⟩ := at_str C85 hy
                        cases e85
                        have HY := Aside0.mk hy
                        have HN8 := Aside0.mk (Kd.C_below HN.out B8.out)
                        have G8 := Aside0.mk (blk_kept G7.out K8.out (NG4.out _ (.inl (Nat.le_refl _))))
                        have hcN := (blk_cell G8.out 0).trans rfl
                        have hX9 : (Y7 ++ ((usesS st).take k4).map (usedF names kk m st)).length ≤ 6112002 := by
                          rw [List.length_append, List.length_map, List.length_take]
                          omega
                        clear hy C85
                        go_wp2_with (first
                          | (go_at_call 77; go_must (refine (flowAt_calls w.heap.size _ cn names _ _ _ (by first | exact hcN | exact hcN.trans rfl) (by first | exact HN8.out | exact Kd.C_drewN HN8.out _ | exact Kd.C_drewN (Kd.C_drewN HN8.out _) _) HCN.out (by omega) (by omega) hnl).mono ?_); rintro e wq ⟨rfl, md, rfl⟩)
                          | (at_builtin; go_must (refine Kd.R_append kP (w.heap.size + 1) rfl (.tmp 91) (.tmp 101) 80 84 _ 16 rfl Try.underlying80 infoP rfl (by decide) (by omega) u7 (Y7 ++ ((usesS st).take k4).map (usedF names kk m st)) (atP names kk y, atP names m dx) [.int .i64 _, .int .i64 _] S4 (fun _ => False) (by go_simp) (by go_simp) (kP_mkM _ _ _ _ _) (fun _ h => h.elim) (fun k hk => NF4.out k (Nat.le_trans K8.out.1 hk)) (by first | exact R78.out | exact Kd.R_drewN R78.out _ | exact Kd.R_drewN (Kd.R_drewN R78.out _) _) (Below.refl _ _) (by have := blk_lt G8.out; simp; omega) (by omega) ?_); intro v1 w6 h1 hb1 hg1 hat1; have hgx : wr.grownBy w6 (u7).ownBlock := ⟨hg1.os, hg1.tape, hg1.output, hg1.size, hg1.block⟩; have HR6 := Aside0.mk h1; have HB6 := Aside0.mk (pw_below_grown B8.out _ B8.out.size hgx (fun k hk => by have := Kd.R_base R78.out k hk; omega)); have HK6 := Aside0.mk (Kept.of_grown hgx K8.out (fun k hk => .inl (R78.out.1 k hk))); have HO6 := Aside0.mk (Kd.R_over' R88.out (Kd.R_typed R78.out) (by decide) hgx); clear h1 hb1 hg1 hat1 hgx))
                        go_roundg ((usesS st).length - (k4 + 1))
                        case measure => omega
                        case rel => exact ⟨k4 + 1, by omega, by omega, by go_num, HB6, HK6, ⟨by rw [List.take_add_one, HY.out, List.map_append, ← List.append_assoc, show (some y).toList.map (usedF names kk m st) = [(atP names kk y, atP names m dx)] from by simp [usedF, HD.out]]; exact HR6.out⟩, HO6⟩
                      · have hlt4z : ¬ (k4 : Int) < ((usesS st).length : Int) := by omega
                        obtain rfl : k4 = (usesS st).length := by omega
                        go_wp2
                        go_roundg ((nxt l kk).length - (k2 + 1))
                        case measure => omega
                        case rel => exact ⟨k2 + 1, by omega, by omega, by go_num, B8, ⟨Kept.then_ K7.out K8.out (fun k h => .inl (NS4.out k h))⟩, ⟨by rw [done7o.out (by unfold opK; have := KO.out; omega), ← HY7.out]; have := R78.out; rw [List.take_length] at this; exact Kd.R_mono this NS4.out⟩, ⟨by rw [done8.out K4N.out]; exact R88.out⟩⟩
                · have n2 : (st.kind != 2) = true := bne_iff_ne.2 (fun h => ko (.inl h))
                  have n3 : (st.kind != 3) = true := bne_iff_ne.2 (fun h => ko (.inr h))
                  have j4 : (st.kind == 4) = false := beq_eq_false_iff_ne.2 k4
                  have K4N := Aside0.mk k4
                  have KON := Aside0.mk ko
                  clear k4 ko
                  go_wp2
                  go_roundg ((nxt l kk).length - (k2 + 1))
                  case measure => omega
                  case rel => exact ⟨k2 + 1, by omega, by omega, by go_num, B5, K5, ⟨by rw [done7.out KON.out]; exact R7n.out⟩, ⟨by rw [done8.out K4N.out]; exact R85.out⟩⟩
        · have hlt2z : ¬ (k2 : Int) < ((nxt l kk).length : Int) := by omega
          obtain rfl : k2 = (nxt l kk).length := by omega
          have e7 : Aside0 ((List.range (kk + 1)).flatMap (stepsAt l names) = S1 ++ ((nxt l kk).take (nxt l kk).length).flatMap (stF names kk st)) := ⟨by rw [List.range_succ, List.flatMap_append, ← HS1.out, List.take_length]; simp only [List.flatMap_cons, List.flatMap_nil, List.append_nil, stepsAt, at_stmt HST.out]⟩
          have e8 : Aside0 ((List.range (kk + 1)).flatMap (srcsAt l names) = R1 ++ ((nxt l kk).take (nxt l kk).length).flatMap (srcF names st)) := ⟨by rw [List.range_succ, List.flatMap_append, ← HR1.out, List.take_length]; simp only [List.flatMap_cons, List.flatMap_nil, List.append_nil, srcsAt, at_stmt HST.out]⟩
          go_wp2
          go_roundg (l.length - (kk + 1))
          case measure => omega
          case rel => exact ⟨kk + 1, by omega, by omega, by go_num, B4, ⟨blk_kept G3.out K4.out (NG.out _ (.inl (Nat.le_refl _)))⟩, ⟨by rw [e7.out]; exact Kd.R_mono R74.out (fun _ _ => trivial)⟩, ⟨by rw [e8.out]; exact Kd.R_mono R84.out (fun _ _ => trivial)⟩⟩
    · have hltz : ¬ (kk : Int) < (l.length : Int) := by omega
      obtain rfl : kk = l.length := by omega
      go_wp2
      exact bodyPost_ret (v := .tuple #[u7, u8]) (by simp [results, Try.results60, go_sem]) rfl ⟨_, _, rfl, Kd.R_lower R7.out (Nat.le_succ _), Kd.R_lower R8.out (Nat.le_succ _), BW.out⟩
end Go.Proofs.Ytnepgcbgkhikkaa.H
/- a map of the call's own, by whole numbers, as a function to values -/
namespace Go.Proofs.Ytnepgcbgkhikkaa.H
open Go.RowKit Go.Proofs.YtnepgcbgkhikkaaW.PrintWords
set_option linter.unusedVariables false
def asHeld (v : Value) : Option (DataW Value × List MemPlace) := some (.held v, [])
/-- block b is a map of at most n entries: of the number x it has f x (z: what it has of a number that was never put) -/
def MapV (P : Program) (w : World) (k : TypeId) (z : Value) (b n : Nat) (f : Int → Value) : Prop :=
  ∃ D : DataW Value, w.ownsMap P k asHeld b n D ∧ Maps.IsMap D ∧ ∀ x : Int, D.atKey (.int .i64 x) (.held z) = .held (f x)
section
variable {P : Program} {w w' : World} {k t e : TypeId} {z : Value} {b n : Nat} {f : Int → Value}
theorem MapV.made (w : World) (P : Program) (k : TypeId) (z : Value) : MapV P (w.alloc (.map #[] 0)) k z w.heap.size 0 (fun _ => z) :=
  ⟨.map [], World.ownsMap_made w P k asHeld, Maps.isMap_empty, fun _ => rfl⟩
theorem MapV.lt (h : MapV P w k z b n f) : b < w.heap.size := by obtain ⟨D, h1, -⟩ := h; exact h1.lt
theorem MapV.kept {row : Option Nat} (h : MapV P w k z b n f) (hg : w.grownBy w' row) (hne : some b ≠ row) : MapV P w' k z b n f := by
  obtain ⟨D, h1, h2⟩ := h
  exact ⟨D, h1.kept hg hne, h2⟩
theorem MapV.below (h : MapV P w k z b n f) (hb : Below w.heap.size w w') : MapV P w' k z b n f := h.kept (grown_of_below hb none) (by simp)
theorem MapV.mono (h : MapV P w k z b n f) {m : Nat} (hm : n ≤ m) : MapV P w k z b m f := by
  obtain ⟨D, h1, h2⟩ := h
  exact ⟨D, h1.mono hm, h2⟩
theorem MapV.look (h : MapV P w k z b n f) (hk : P.underlying k = some (.int .i64)) (ht : P.underlying t = some (.map k e)) (hz : (zeroValue e).run P w = .ok z w) (x : Int) (hx : (Lit.int .i64 x).wf = true) :
    (Instr.lookup t (.map (some b)) (.int .i64 x) false).run P w = .ok (f x) w := by
  obtain ⟨D, h1, h2, h3⟩ := h
  obtain ⟨v, ps, hr, hv⟩ := h1.lookup (Maps.int_keyed hk) ht hz (show asHeld z = some (.held z, []) from rfl) (Maps.keyOf_int_mk hk hx)
  rw [h3 x] at hv
  have e1 : v = f x := by
    have := Option.some.inj hv
    injection this with q _
    injection q
  rw [hr, e1]
theorem MapV.put (h : MapV P w k z b n f) (hk : P.underlying k = some (.int .i64)) (ht : P.underlying t = some (.map k e)) (hn : n < maxLen) (x : Int) (hx : (Lit.int .i64 x).wf = true) (v : Value) :
    ∃ w', (Instr.mapUpdate t (.map (some b)) (.int .i64 x) v).run P w = .ok () w' ∧ MapV P w' k z b (n + 1) (fun y => if y = x then v else f y) ∧ w.grownBy w' (some b) := by
  obtain ⟨D, h1, h2, h3⟩ := h
  obtain ⟨w', hr, h4, h5⟩ := h1.update (Maps.int_keyed hk) ht hn (Maps.keyOf_int_mk hk hx) (show asHeld v = some (.held v, []) from rfl)
  refine ⟨w', hr, ⟨_, h4, h2.put _ _, fun y => ?_⟩, h5⟩
  show _ = DataW.held (if y = x then v else f y)
  by_cases c : y = x
  · subst c
    rw [if_pos rfl]
    exact Maps.atKey_put_same h2 (by trivial) _ _
  · rw [if_neg c, Maps.atKey_put_other (by intro q; injection q with _ q; exact c q)]
    exact h3 y
end
end Go.Proofs.Ytnepgcbgkhikkaa.H
/- the places among the steps of taints are small -/
namespace Go.Proofs.Ytnepgcbgkhikkaa.H
open Go.RowKit Go.Proofs.YtnepgcbgkhikkaaW.PrintWords
set_option linter.unusedVariables false
def smallP (p : Int) : Prop := -1 ≤ p ∧ p ≤ 4000000
theorem stepsP_small {l : List Stmt} {names : List ByteArray} (hl : l.length ≤ 1000) (hn : names.length ≤ 3000) : ∀ p ∈ stepsP l names, smallP p.1 ∧ smallP p.2 := by
  intro p hp
  unfold stepsP stepsAt at hp
  obtain ⟨n, hn', hp⟩ := List.mem_flatMap.1 hp
  obtain ⟨m, hm, hp⟩ := List.mem_flatMap.1 hp
  obtain ⟨hm0, hm1, -, -⟩ := nxt_within hm
  have hn2 := List.mem_range.1 hn'
  have A : ∀ x, smallP (atP names (n : Int) x) := fun x => atP_range (by omega) (by omega) hn
  have B : ∀ x, smallP (atP names m x) := fun x => atP_range (by omega) (by omega) hn
  unfold stF at hp
  rcases List.mem_append.1 hp with hp | hp
  · obtain ⟨y, hy, hp⟩ := List.mem_flatMap.1 hp
    unfold keptF at hp
    split at hp
    · simp at hp
    · obtain rfl := List.mem_singleton.1 hp
      exact ⟨A y, B y⟩
  · split at hp
    · obtain ⟨y, hy, rfl⟩ := List.mem_map.1 hp
      exact ⟨A y, B _⟩
    · simp at hp
theorem srcsP_small {l : List Stmt} {names : List ByteArray} (hl : l.length ≤ 1000) (hn : names.length ≤ 3000) : ∀ p ∈ srcsP l names, smallP p := by
  intro p hp
  unfold srcsP srcsAt at hp
  obtain ⟨n, hn', hp⟩ := List.mem_flatMap.1 hp
  obtain ⟨m, hm, hp⟩ := List.mem_flatMap.1 hp
  obtain ⟨hm0, hm1, -, -⟩ := nxt_within hm
  unfold srcF at hp
  split at hp
  · obtain rfl := List.mem_singleton.1 hp
    exact atP_range (by omega) (by omega) hn
  · simp at hp
theorem smallP_wf {p : Int} (h : smallP p) : (Lit.int .i64 p).wf = true := by
  obtain ⟨h0, h1⟩ := h
  have e1 : IntKind.i64.min = -9223372036854775808 := by decide
  have e2 : IntKind.i64.max = 9223372036854775807 := by decide
  simp only [Lit.wf, e1, e2, Bool.and_eq_true, decide_eq_true_eq]
  omega
theorem stepsP_len {l : List Stmt} {names : List ByteArray} (hl : l.length ≤ 1000) (hn : names.length ≤ 3000) : (stepsP l names).length ≤ 6100000 := by
  have h1 := flatMap_len (stepsAt l names) _ (stepsAt_len l names) (List.range l.length)
  rw [List.length_range] at h1
  have h2 : l.length * (2 * (names.length + 2)) ≤ 1000 * (2 * 3002) := Nat.mul_le_mul hl (by omega)
  unfold stepsP
  omega
theorem srcsP_len {l : List Stmt} {names : List ByteArray} (hl : l.length ≤ 1000) : (srcsP l names).length ≤ 2000 := by
  have h1 := flatMap_len (srcsAt l names) _ (srcsAt_len l names) (List.range l.length)
  rw [List.length_range] at h1
  unfold srcsP
  omega
theorem pot_skip (steps : List (Int × Int)) (seen : Int → Bool) (k : Int) (r : List Int) : potV steps seen r + 1 = potV steps seen (k :: r) := by
  unfold potV
  rw [List.length_cons]
  omega
theorem nextG_take (steps : List (Int × Int)) {n : Nat} {p : Int × Int} (h : steps[n]? = some p) (x : Int) : nextG (steps.take (n + 1)) x = nextG (steps.take n) x ++ (if p.1 = x then [p.2] else []) := by
  rw [List.take_add_one, h]
  exact nextG_snoc _ _ _
theorem nextG_mem_small {steps : List (Int × Int)} (h : ∀ p ∈ steps, smallP p.1 ∧ smallP p.2) (x : Int) : ∀ y ∈ nextG steps x, smallP y := by
  intro y hy
  exact (h _ (mem_nextG.1 hy)).2
theorem nextG_len (steps : List (Int × Int)) (x : Int) : (nextG steps x).length ≤ steps.length := by
  unfold nextG
  rw [List.length_map]
  exact List.length_filter_le _ _
end Go.Proofs.Ytnepgcbgkhikkaa.H
/- cfg.Taints, whole -/
namespace Go.Proofs.Ytnepgcbgkhikkaa.H
open Go.RowKit Go.Proofs.YtnepgcbgkhikkaaW.PrintWords Go.Proofs.YtnepgcbgkhikkaaW.PrintLast Go.Proofs.YtnepgcbgkhikkaaW.PrintMore
set_option linter.unusedVariables false
def cfg_Taints.f (k : Nat) (l : List Stmt) (n : Int) (x : ByteArray) : Option Bool :=
  if l.length ≤ 1000 then
    (if withinB l.length n = true ∧ 0 ≤ idxS (setS (l.flatMap namesOf)) x then (tntV (nextG (stepsP l (setS (l.flatMap namesOf)))) k (fun _ => false) (srcsP l (setS (l.flatMap namesOf)))).bind fun seen => some (seen (atP (setS (l.flatMap namesOf)) n x)) else some false)
  else none
theorem cfg_Taints.mono : ∀ a0 a1 a2 k, LeO (cfg_Taints.f k a0 a1 a2) (cfg_Taints.f (k + 1) a0 a1 a2) := by
  intro a0 a1 a2 k
  unfold cfg_Taints.f
  exact LeO.ite (LeO.ite (LeO.bind (tntV_more _ _ _ _) (fun _ => LeO.refl _)) (LeO.refl _)) (LeO.refl _)
section
variable (A0 : Option Addr) (c0 : Nat) (l0 : List Stmt) (a1 : Int) (a2 : ByteArray) (w : World) (hr0 : Kd.C k30 w A0 l0.length l0) (hc0 : l0.length ≤ c0) (hl : l0.length ≤ 1000)
include hr0 hc0 hl
set_option maxHeartbeats 4000000 in
set_option maxRecDepth 100000 in
theorem taints_no (hno : ¬ (withinB l0.length a1 = true ∧ 0 ≤ idxS (setS (l0.flatMap namesOf)) a2)) :
    Calls Try.prog 40 #[.slice A0 l0.length c0, .int .i64 a1, .string a2] w fun e w' => e = .returned (.bool false) ∧ Below w.heap.size w w' := by
  obtain ⟨K, hn⟩ := Ev.rounds (Names_ev l0 hl)
  have hnl := names_len l0
  generalize hN : setS (l0.flatMap namesOf) = names at hn hnl hno
  clear hN
  obtain ⟨K2, hi⟩ := Ev.rounds (Index_ev names a2 (by omega))
  have hb := within_eq l0 a1
  generalize withinB l0.length a1 = b at hb hno
  generalize idxS names a2 = i at hi hno
  have HN := Aside0.mk hn
  have HI := Aside0.mk hi
  have HW := Aside0.mk hb
  have HR0 := Aside0.mk hr0
  have HC0 := Aside0.mk hc0
  have hi0 : b = true → i < 0 := fun h => by
    rcases Int.lt_or_le i 0 with q | q
    · exact q
    · exact absurd ⟨h, q⟩ hno
  clear hn hi hb hr0 hc0 hno
  cases b
  case' true => have hi := hi0 rfl
  all_goals clear hi0
  all_goals go_enter Try.func40, Try.ntmps40
  all_goals go_wp2_with (first
    | (go_at_call 31; go_must (refine (cfg_Names.calls K _ _ l0 names _ HR0.out HC0.out HN.out).mono ?_); rintro e w1 ⟨v0, rfl, ho0, hb⟩; have HO := Aside0.mk ho0; have HB := Aside0.mk hb; clear ho0 hb; obtain ⟨Ao, co, eo⟩ := Kd.R_slice HO.out; subst eo)
    | (go_at_call 59; go_must (refine (slices_Index_string_string.calls K2 _ _ names a2 i _ (Kd.R_reads' HO.out).2.2 (Kd.R_reads' HO.out).2.1 HI.out).mono ?_); rintro e w2 ⟨rfl, nd, rfl⟩)
    | (go_at_call 42; go_must (refine (cfg_within.calls _ _ l0 a1 _ _ (Kd.C_drewN (Kd.C_below HR0.out HB.out) _) HC0.out HW.out).mono ?_); rintro e w3 ⟨rfl, ne, rfl⟩))
  all_goals (go_ret; exact ⟨rfl, pw_below_drewN HB.out _⟩)
end
theorem zeroRow (w : World) : (zeroValue 25).run Try.prog w = .ok (.slice none 0 0) w := by kernel_rfl
theorem zeroB (w : World) : (zeroValue 4).run Try.prog w = .ok (.bool false) w := by kernel_rfl
theorem at_P {w : World} {A : Option Addr} {n : Nat} {xs : List (Int × Int)} (h : Kd.C kP w A n xs) {i : Nat} {y : Int × Int} (hy : xs[i]? = some y) : ∃ ad, A = some ad ∧ w.cell? (ad.add (i * 2)) = some (.int .i64 y.1) ∧ w.cell? ⟨(ad.add (i * 2)).block, (ad.add (i * 2)).off + 1, none⟩ = some (.int .i64 y.2) := by
  obtain ⟨ad, c, e, -, ⟨c0, c1, rfl, h0, h1⟩, hc⟩ := Kd.C_nth h hy
  have e0 : c0 = [.int .i64 y.1] := h0
  have e1 : c1 = [.int .i64 y.2] := h1
  subst e0 e1
  exact ⟨ad, e, hc 0 _ rfl, by rw [← add_field _ _ 1 (by omega)]; exact hc 1 _ rfl⟩
/-- the rows of the map of steps, told apart by an owner -/
def RowsOf (w : World) (base : Nat) (own : Nat → Int) (f : Int → Value) (G : Int → List Int) : Prop :=
  ∀ x, Kd.R (Kd.int .i64) 3 w base (fun j => own j = x) (f x) (G x)
theorem RowsOf.start {w : World} {base : Nat} : RowsOf w base (fun _ => 0) (fun _ => .slice none 0 0) (nextG []) := fun x => Kd.R_nil _ _ _ _ _
theorem RowsOf.below {w w1 : World} {base : Nat} {own : Nat → Int} {f : Int → Value} {G : Int → List Int} (h : RowsOf w base own f G) (hb : Below w.heap.size w w1) : RowsOf w1 base own f G := fun x => Kd.R_below (h x) hb
theorem RowsOf.mine {w : World} {base : Nat} {own : Nat → Int} {f : Int → Value} {G : Int → List Int} (h : RowsOf w base own f G) (a : Int) : RowsOf w base (fun j => if w.heap.size ≤ j then a else own j) f G := fun x =>
  Kd.R_mono (Kd.R_bound (h x)) (fun k hk => by
    have h1 := hk.1
    have h2 := hk.2.2.1
    show (if w.heap.size ≤ k then a else own k) = x
    rw [if_neg (by omega)]
    exact h1)
theorem RowsOf.put {w w1 w2 : World} {base b : Nat} {own : Nat → Int} {f : Int → Value} {G : Int → List Int} {a : Int} {v : Value} {r : List Int} (h : RowsOf w base own f G) (hg : w.grownBy w1 (f a).ownBlock) (hv : Kd.R (Kd.int .i64) 3 w1 base (fun j => own j = a) v r) (hg2 : w1.grownBy w2 (some b)) (hb : b < base) :
    RowsOf w2 base own (fun y => if y = a then v else f y) (fun y => if y = a then r else G y) := by
  have far : ∀ {x : Int} {u : Value} {q : List Int}, Kd.R (Kd.int .i64) 3 w1 base (fun j => own j = x) u q → Kd.R (Kd.int .i64) 3 w2 base (fun j => own j = x) u q := fun hr =>
    Kd.R_mono (Kd.R_grown (Kd.R_bound hr) hg2 (fun k hk e => by have := hk.2.1; injection e with e; omega)) (fun _ hk => hk.1)
  intro x
  by_cases c : x = a
  · subst c
    simp only [if_true]
    exact far hv
  · simp only [if_neg c]
    refine far (Kd.R_grown (h x) hg (fun k hk e => c ?_))
    have h1 := (h a).1 k e.symm
    have h2 : own k = x := hk
    have h3 : own k = a := h1
    omega
theorem RowsOf.next {w : World} {base : Nat} {own : Nat → Int} {f : Int → Value} {steps : List (Int × Int)} {kk : Nat} {a b : Int} (hs : steps[kk]? = some (a, b)) (h : RowsOf w base own f (fun y => if y = a then nextG (steps.take kk) a ++ [b] else nextG (steps.take kk) y)) : RowsOf w base own f (nextG (steps.take (kk + 1))) := by
  intro x
  have := h x
  rw [nextG_take steps hs x]
  by_cases c : x = a
  · subst c
    simpa using this
  · simp only [if_neg c] at this
    have c' : ¬ a = x := fun e => c e.symm
    simpa [if_neg c'] using this
section
variable (A0 : Option Addr) (c0 : Nat) (l0 : List Stmt) (a1 : Int) (a2 : ByteArray) (w : World) (hr0 : Kd.C k30 w A0 l0.length l0) (hc0 : l0.length ≤ c0) (hl : l0.length ≤ 1000)
include hr0 hc0 hl
set_option maxHeartbeats 4000000 in
set_option maxRecDepth 100000 in
theorem taints_yes (hb : withinB l0.length a1 = true) (hi0 : 0 ≤ idxS (setS (l0.flatMap namesOf)) a2) (k : Nat) (seen : Int → Bool) (hs : tntV (nextG (stepsP l0 (setS (l0.flatMap namesOf)))) k (fun _ => false) (srcsP l0 (setS (l0.flatMap namesOf))) = some seen) :
    Calls Try.prog 40 #[.slice A0 l0.length c0, .int .i64 a1, .string a2] w fun e w' => e = .returned (.bool (seen (atP (setS (l0.flatMap namesOf)) a1 a2))) ∧ Below w.heap.size w w' := by
  obtain ⟨K, hn⟩ := Ev.rounds (Names_ev l0 hl)
  have hnl := names_len l0
  generalize hN : setS (l0.flatMap namesOf) = names at hn hnl hi0 hs ⊢
  clear hN
  obtain ⟨K2, hi⟩ := Ev.rounds (Index_ev names a2 (by omega))
  have hw := within_eq l0 a1
  rw [hb] at hw
  have hir := idxS_range names a2
  have HN := Aside0.mk hn
  have HI := Aside0.mk hi
  have HW := Aside0.mk hw
  have HR0 := Aside0.mk hr0
  have HC0 := Aside0.mk hc0
  obtain ⟨ST, hST⟩ : ∃ ST, stepsP l0 names = ST := ⟨_, rfl⟩
  obtain ⟨SR, hSR⟩ : ∃ SR, srcsP l0 names = SR := ⟨_, rfl⟩
  rw [hST, hSR] at hs
  have hST1 := stepsP_small hl (show names.length ≤ 3000 by omega)
  have hST2 := stepsP_len hl (show names.length ≤ 3000 by omega)
  have hSR1 := srcsP_small hl (show names.length ≤ 3000 by omega)
  have hSR2 := srcsP_len (names := names) hl
  rw [hST] at hST1 hST2
  rw [hSR] at hSR1 hSR2
  have HS := Aside0.mk hs
  have HST := Aside0.mk hST
  have HSR := Aside0.mk hSR
  have HST1 := Aside0.mk hST1
  have HSR1 := Aside0.mk hSR1
  clear hST hSR hST1 hSR1
  have hin : ¬ idxS names a2 < 0 := by omega
  have hat : smallP (atP names a1 a2) := by
    have h1 : 0 ≤ a1 ∧ a1 < (l0.length : Int) := by simpa [withinB] using hb
    exact atP_range h1.1 (by omega) (by omega)
  have ew1 : IntKind.i64.wrap (a1 * (names.length : Int)) = a1 * (names.length : Int) := by
    have h1 : 0 ≤ a1 ∧ a1 < (l0.length : Int) := by simpa [withinB] using hb
    have h2 : 0 ≤ a1 * (names.length : Int) := Int.mul_nonneg h1.1 (by omega)
    have h3 : a1 * (names.length : Int) ≤ 1000 * 3000 := Int.mul_le_mul (by omega) (by omega) (by omega) (by omega)
    rw [i64_w]; unfold wrap64; omega
  have ew2 : IntKind.i64.wrap (a1 * (names.length : Int) + idxS names a2) = a1 * (names.length : Int) + idxS names a2 := by
    have := hat
    unfold smallP atP at this
    rw [i64_w]; unfold wrap64; omega
  have hmm := @run_makeMap Try.prog
  clear hn hi hb hw hr0 hc0 hs
  go_enter Try.func40, Try.ntmps40
  go_wp2_with (first
    | (go_at_call 31; go_must (refine (cfg_Names.calls K _ _ l0 names _ HR0.out HC0.out HN.out).mono ?_); rintro e w1 ⟨v0, rfl, ho0, hb⟩; have HO := Aside0.mk ho0; have HB := Aside0.mk hb; clear ho0 hb; obtain ⟨Ao, co, eo⟩ := Kd.R_slice HO.out; subst eo)
    | (go_at_call 59; go_must (refine (slices_Index_string_string.calls K2 _ _ names a2 _ _ (Kd.R_reads' HO.out).2.2 (Kd.R_reads' HO.out).2.1 HI.out).mono ?_); rintro e w2 ⟨rfl, nd, rfl⟩)
    | (go_at_call 42; go_must (refine (cfg_within.calls _ _ l0 a1 _ _ (Kd.C_drewN (Kd.C_below HR0.out HB.out) _) HC0.out HW.out).mono ?_); rintro e w3 ⟨rfl, ne, rfl⟩)
    | (go_at_call 60; go_must (refine (flows_calls _ _ l0 _ _ names _ (by first | exact Kd.C_drewN (Kd.C_below HR0.out HB.out) _ | exact Kd.C_drewN (Kd.C_drewN (Kd.C_below HR0.out HB.out) _) _) HC0.out (by first | exact Kd.C_drewN (Kd.R_reads' HO.out).2.2 _ | exact Kd.C_drewN (Kd.C_drewN (Kd.R_reads' HO.out).2.2 _) _) (Kd.R_reads' HO.out).2.1 hl (by omega)).mono ?_); rintro e w4 ⟨v9, v10, rfl, h9, h10, hb4⟩; rw [HST.out] at h9; rw [HSR.out] at h10; have H9 := Aside0.mk (Kd.R_bound h9); have H10 := Aside0.mk (Kd.R_bound h10); have B4 := Aside0.mk (below_then HB.out HB.out.size (pw_below_grown (pw_below_drewN (Below.refl _ _) _) none (by simp) (grown_of_below hb4 none) (by simp))); clear h9 h10 hb4; obtain ⟨A9, c9, e9⟩ := Kd.R_slice H9.out; subst e9; obtain ⟨A10, c10, e10⟩ := Kd.R_slice H10.out; subst e10))
  go_loopg [39] ST.length (fun gg s39 wr => ∃ (kk : Nat) (f : Int → Value) (own : Nat → Int), kk ≤ ST.length ∧ ST.length - kk ≤ gg ∧ s39 = .int .i64 kk ∧ Aside0 (Below w.heap.size w wr) ∧ Aside0 (Kept w4 wr (fun i => w4.heap.size ≤ i)) ∧ Aside0 (MapV Try.prog wr 3 (.slice none 0 0) w4.heap.size kk f) ∧ Aside0 (RowsOf wr (w4.heap.size + 1) own f (nextG (ST.take kk))))
  case atStart => exact ⟨0, _, _, Nat.zero_le _, by omega, rfl, ⟨below_alloc B4.out _⟩, ⟨Kept.alloc (Kept.refl _ _) _⟩, ⟨MapV.made _ _ _ _⟩, ⟨RowsOf.start⟩⟩
  case round =>
    obtain ⟨kk, f, own, hkk, hg, rfl, BW, KW, MW, RW⟩ := hrel
    by_cases hlt : kk < ST.length
    · have hltz : (kk : Int) < (ST.length : Int) := by omega
      have hkz : (0 : Int) ≤ (kk : Int) := by omega
      obtain ⟨⟨pa, pb⟩, hp⟩ := at_some hlt
      have hC9 := Kd.C_kept_own H9.out (S := fun i => w4.heap.size ≤ i) (fun k hk => by have := hk.2.2.1; omega) _ KW.out
      obtain ⟨ad9, e9, hx0, hx1⟩ := at_P hC9 hp
      cases e9
      clear hC9
      obtain ⟨hs1, hs2⟩ := HST1.out _ (List.mem_of_getElem? hp)
      have HP := Aside0.mk hp
      have hWa := Aside0.mk (smallP_wf hs1)
      clear hp
      dsimp only at hx0 hx1 hs1 hs2
      have hmb := MW.out.lt
      go_wp2
      obtain ⟨ww, hww⟩ : ∃ ww, ww = (wr.alloc (.cells #[.int .i64 pa, .int .i64 pb] 84)).drew := ⟨_, rfl⟩
      have bAD : Below wr.heap.size wr ww := hww ▸ below_drew1 (below_alloc (Below.refl _ _) _)
      have ZW := Aside0.mk (show ww.heap.size = wr.heap.size + 1 by rw [hww]; simp)
      have BWW := Aside0.mk (below_then BW.out BW.out.size bAD)
      have MWW := Aside0.mk (MapV.below MW.out bAD)
      have RWW := Aside0.mk (RowsOf.mine (RowsOf.below RW.out bAD) pa)
      have KWW := Aside0.mk (Kept.below KW.out bAD)
      have GWW : Aside0 (ww.heap[wr.heap.size]? = some (.cells #[.int .i64 pa, .int .i64 pb] 84 (0, 0))) := ⟨hww ▸ blk_new wr _⟩
      have hS0 : ((ww.cell? ⟨wr.heap.size, 0, none⟩ = some (.int .i64 pa) ∧ ww.cell? ⟨wr.heap.size, 1, none⟩ = some (.int .i64 pb)) ∧ (Instr.lookup 83 (.map (some w4.heap.size)) (.int .i64 pa) false).run Try.prog ww = .ok (f pa) ww) :=
        ⟨⟨(blk_cell GWW.out 0).trans rfl, (blk_cell GWW.out 1).trans rfl⟩, MWW.out.look Try.underlying3 Try.underlying83 (zeroRow ww) pa hWa.out⟩
      have HWW := Aside0.mk hww
      rw [hww] at hS0
      clear bAD hww
      refine start_ (n := 12) (S := fun w' => (w'.cell? ⟨wr.heap.size, 0, none⟩ = some (.int .i64 pa) ∧ w'.cell? ⟨wr.heap.size, 1, none⟩ = some (.int .i64 pb)) ∧ (Instr.lookup 83 (.map (some w4.heap.size)) (.int .i64 pa) false).run Try.prog w' = .ok (f pa) w') (ds := [11]) (bl 12 0) (by kernel_rfl) rfl rfl hS0 (fun hHeld => ?_)
      clear hS0
      rw [← HWW.out] at hHeld ⊢
      refine pure_ (i := 0) (N := some 43) (v := ?_) (a' := ?_) (bl 12 1) rfl rfl (by kernel_rfl) (fun _ _ _ h => h) (Or.inl ⟨by rfl, ?_⟩) ?_ ?_
      rotate_left
      · intro w'
        go_simp
        with_reducible rfl
      rotate_left
      · simp only [Act.put, sA, sZ, sS]
        rfl
      refine pure_ (i := 1) (N := some 44) (v := ?_) (a' := ?_) (bl 12 3) rfl rfl (by kernel_rfl) (fun _ _ _ h => h) (Or.inl ⟨by rfl, ?_⟩) ?_ ?_
      rotate_left
      · intro w'
        go_simp
        with_reducible rfl
      rotate_left
      · simp only [Act.put, sA, sZ, sS]
        rfl
      refine pure_ (i := 3) (N := some 46) (v := ?_) (a' := ?_) (bl 12 11) rfl rfl (by kernel_rfl) (fun _ _ _ h => h) (Or.inl ⟨by rfl, ?_⟩) ?_ ?_
      rotate_left
      · intro w'
        go_simp
        with_reducible rfl
      rotate_left
      · simp only [Act.put, sA, sZ, sS]
        rfl
      refine pure_ (i := 4) (N := some 47) (v := ?_) (a' := ?_) (bl 12 27) rfl rfl (by kernel_rfl) (fun _ _ _ h => h) (Or.inl ⟨by rfl, ?_⟩) ?_ ?_
      rotate_left
      · intro w'
        go_simp
        with_reducible rfl
      rotate_left
      · simp only [Act.put, sA, sZ, sS]
        rfl
      refine pure_ (i := 7) (N := some 50) (v := ?_) (a' := ?_) (bl 12 155) rfl rfl (by kernel_rfl) (fun _ _ _ h => h) (Or.inl ⟨by rfl, ?_⟩) ?_ ?_
      rotate_left
      · intro w'
        go_simp
        with_reducible rfl
      rotate_left
      · simp only [Act.put, sA, sZ, sS]
        rfl
      refine take_ (i := 2) (N := some 45) (v := ?_) (a' := ?_) (bl 12 159) rfl rfl (by kernel_rfl) (fun _ _ _ h => h) (Or.inl ⟨by rfl, ?_⟩) hHeld ?_ ?_
      rotate_left
      · intro w' hSw
        (try dsimp only at hSw)
        go_split_ands
        go_simp
        with_reducible rfl
      rotate_left
      · simp only [Act.put, sA, sZ, sS]
        rfl
      refine take_ (i := 5) (N := some 48) (v := ?_) (a' := ?_) (bl 12 191) rfl rfl (by kernel_rfl) (fun _ _ _ h => h) (Or.inl ⟨by rfl, ?_⟩) hHeld ?_ ?_
      rotate_left
      · intro w' hSw
        (try dsimp only at hSw)
        go_split_ands
        go_simp
        with_reducible rfl
      rotate_left
      · simp only [Act.put, sA, sZ, sS]
        rfl
      refine take_ (i := 8) (N := some 51) (v := ?_) (a' := ?_) (bl 12 447) rfl rfl (by kernel_rfl) (fun _ _ _ h => h) (Or.inl ⟨by rfl, ?_⟩) hHeld ?_ ?_
      rotate_left
      · intro w' hSw
        (try dsimp only at hSw)
        go_split_ands
        go_simp
        with_reducible rfl
      rotate_left
      · simp only [Act.put, sA, sZ, sS]
        rfl
      refine take_ (i := 6) (N := some 49) (v := ?_) (a' := ?_) (bl 12 511) rfl rfl (by kernel_rfl) (fun _ _ _ h => h) (Or.inl ⟨by rfl, ?_⟩) hHeld ?_ ?_
      rotate_left
      · intro w' hSw
        (try dsimp only at hSw)
        go_split_ands
        go_simp
        with_reducible rfl
      rotate_left
      · simp only [Act.put, sA, sZ, sS]
        rfl
      refine one_ (i := 9) (N := some 52) (bl 12 1023) rfl rfl (by kernel_rfl) (by decide) (fun K hK => ?_)
      refine value_ (v := .slice (some ⟨ww.heap.size, 0, none⟩) 1 1) (w1 := ww.alloc (.cells #[.int .i64 pb] 3)) (by rfl) rfl ?_ ?_
      · go_simp
      refine hK.out _ _ ?_ (fun hHeld => ?_)
      · have hb9 := below_alloc (Below.refl ww.heap.size ww) (.cells #[.int .i64 pb] 3)
        exact ⟨⟨(blk_cell (blk_below GWW.out hb9) 0).trans rfl, (blk_cell (blk_below GWW.out hb9) 1).trans rfl⟩, (MWW.out.below hb9).look Try.underlying3 Try.underlying83 (zeroRow _) pa hWa.out⟩
      clear hK K
      refine norm_ (a' := ?_) ?_ ?_
      rotate_left
      · show Act.put _ (some 52) _ = _
        simp only [Act.put, sA, sZ, sS]
        rfl
      have hne1 : some wr.heap.size ≠ (f pa).ownBlock := fun e => by have := Kd.R_lt (RW.out pa) _ e.symm; omega
      have hne2 : some w4.heap.size ≠ (f pa).ownBlock := fun e => by have := Kd.R_base (RW.out pa) _ e.symm; omega
      have hnl2 : (nextG (ST.take kk) pa).length ≤ 6100000 := by
        have := nextG_len (ST.take kk) pa
        rw [List.length_take] at this
        omega
      have hww4 : w4.heap.size + 1 ≤ ww.heap.size := by rw [ZW.out]; omega
      refine one_ (i := 10) (N := some 53) (bl 12 2047) rfl rfl (by kernel_rfl) (by decide) (fun K hK => ?_)
      refine Kd.R_append_step (Kd.int .i64) (w0 := ww) (w4.heap.size + 1) (by rfl) (.tmp 49) (.tmp 52) 25 3 (.int .i64 0) 8 (by rfl) Try.underlying25 infoI rfl (by decide) (by omega) (f pa) (nextG (ST.take kk) pa) pb [.int .i64 pb] (fun j => (if ww.heap.size ≤ j then pa else own j) = pa) (fun _ => False) (by rfl) (by rfl) rfl (fun _ h => h.elim) (fun k hk => by show (if ww.heap.size ≤ k then pa else own k) = pa; rw [if_pos hk]) (RWW.out pa) (Below.refl _ _) hww4 (by omega) ?_
      intro v1 w6 h1 hb1 hg1 hat1
      have M6 := MWW.out.kept hg1 hne2
      have g6 := (hg1.block wr.heap.size (blk_lt GWW.out) hne1).trans GWW.out
      refine hK.out _ _ ⟨⟨(blk_cell g6 0).trans rfl, (blk_cell g6 1).trans rfl⟩, M6.look Try.underlying3 Try.underlying83 (zeroRow _) pa hWa.out⟩ (fun hHeld => ?_)
      clear hK K g6 hHeld
      refine norm_ (a' := ?_) ?_ ?_
      rotate_left
      · show Act.put _ (some 53) _ = _
        simp only [Act.put, sA, sZ, sS]
        rfl
      obtain ⟨w7, hr7, M7, hg7⟩ := M6.put (e := 25) Try.underlying3 Try.underlying83 (by unfold maxLen; omega) pa hWa.out v1
      refine last_ (i := 11) (N := none) (bl 12 4095) rfl rfl (by kernel_rfl) (by decide) (fun K hK => ?_)
      refine skip_ (w1 := w7) (by rfl) rfl ?_ ?_
      · go_simp
      refine hK.out _ _ ?_
      clear hK K hr7
      refine done_ (by kernel_rfl) ?_
      have hb4 := B4.out.size
      have hrow : ∀ k, (f pa).ownBlock = some k → w4.heap.size ≤ k := fun k hk => by have := Kd.R_base (RW.out pa) k hk; omega
      have B7 := Aside0.mk (pw_below_grown (pw_below_grown BWW.out _ BWW.out.size hg1 (fun k hk => by have := hrow k hk; omega)) _ (by have := BWW.out.size; have := hg1.size; omega) hg7 (fun k hk => by injection hk with hk; omega))
      have K7 := Aside0.mk (Kept.of_grown hg7 (Kept.of_grown hg1 KWW.out (fun k hk => .inl (hrow k hk))) (fun k hk => .inl (by injection hk with hk; show w4.heap.size ≤ k; omega)))
      have R7 := Aside0.mk (RowsOf.next HP.out (RowsOf.put RWW.out hg1 h1 hg7 (by omega)))
      have M7' := Aside0.mk M7
      clear M7 h1 hb1 hg1 hat1 hg7 M6
      go_wp2
      go_roundg (ST.length - (kk + 1))
      case measure => omega
      case rel => exact ⟨kk + 1, _, _, by omega, by omega, by go_num, B7, K7, M7', R7⟩
    · have hltz : ¬ (kk : Int) < (ST.length : Int) := by omega
      obtain rfl : kk = ST.length := by omega
      have hRW := RW.out
      rw [List.take_length] at hRW
      have RN := Aside0.mk hRW
      clear hRW RW
      have hmb := MW.out.lt
      go_wp2_with (go_at_call 61; go_must (refine (slices_Clone_int_int.calls _ _ SR SR _ (Kd.C_alloc (Kd.C_kept_own H10.out (S := fun i => w4.heap.size ≤ i) (fun k hk => by have := hk.2.2.1; omega) _ KW.out) _) (Kd.R_reads' H10.out).2.1 (by unfold slices_Clone_int_int.f; rw [if_pos (by omega)])).mono ?_); rintro e w6 ⟨v15, rfl, h15, hb6⟩; have H15 := Aside0.mk h15; have B6 := Aside0.mk hb6; clear h15 hb6)
      obtain ⟨wo, rfl⟩ : ∃ wo : World, wo = wr := ⟨_, rfl⟩
      have hb0 : w.heap.size ≤ wo.heap.size := BW.out.size
      have e15 : (wo.alloc (.map #[] 0)).heap.size = wo.heap.size + 1 := by simp
      have BA : Aside0 (Below wo.heap.size wo w6) := ⟨below_then (below_alloc (Below.refl _ _) _) (by rw [e15]; omega) B6.out⟩
      have MA : Aside0 (MapV Try.prog w6 3 (.bool false) wo.heap.size 0 (fun _ => .bool false)) := ⟨MapV.below (MapV.made _ _ _ _) B6.out⟩
      have QA : Aside0 (Kd.Q (Kd.int .i64) 3 w6 (wo.heap.size + 1) (fun _ => True) v15 SR) := ⟨by have := Kd.Q_of_R H15.out; rwa [e15] at this⟩
      have P0 : Aside0 (0 + potV ST (fun _ => false) SR ≤ 6102000) := ⟨by
        have := List.length_filter_le (fun p : Int × Int => !(fun _ => false : Int → Bool) p.1) ST
        unfold potV
        omega⟩
      clear H15 B6 e15
      go_loopg [15] k (fun gg s15 wx => ∃ (sn : Int → Bool) (x : List Int) (n : Nat), Aside0 (tntV (nextG ST) gg sn x = some seen) ∧ Aside0 (n + potV ST sn x ≤ 6102000) ∧ Aside0 (∀ y ∈ x, smallP y) ∧ Aside0 (MapV Try.prog wx 3 (.bool false) wo.heap.size n (fun y => .bool (sn y))) ∧ Aside0 (Below wo.heap.size wo wx) ∧ Aside0 (Kd.Q (Kd.int .i64) 3 wx (wo.heap.size + 1) (fun _ => True) s15 x))
      case atStart => exact ⟨_, SR, 0, HS, P0, HSR1, MA, BA, QA⟩
      case round =>
        clear P0 MA BA QA
        obtain ⟨sn, x, n, HT, HP2, HTD, MS, BX, QX⟩ := hrel
        cases gk with
        | zero => exact absurd HT.out (by simp [tntV])
        | succ g1 =>
        cases x with
        | nil =>
          obtain ⟨Aq, cq, eq, -⟩ := Kd.Q_slice QX.out
          subst eq
          have hbx := BX.out.size
          have es : sn = seen := by have := HT.out; simpa [tntV] using this
          have hl1 := MS.out.look (t := 85) (e := 4) Try.underlying3 Try.underlying85 (zeroB _) (a1 * (names.length : Int) + idxS names a2) (smallP_wf hat)
          rw [es] at hl1
          clear es
          have q0 : decide (0 < (([] : List Int).length : Int)) = false := by decide
          go_wp2
          go_ret
          exact ⟨rfl, below_then BW.out BW.out.size BX.out⟩
        | cons k1 r =>
          obtain ⟨Aq, cq, eq, -⟩ := Kd.Q_slice QX.out
          subst eq
          have hxl : (k1 :: r).length = r.length + 1 := rfl
          have hT0 := HT.out
          have hP0 := HP2.out
          have hk1 := HTD.out k1 (by simp)
          have hrs : ∀ y ∈ r, smallP y := fun y hy => HTD.out y (List.mem_cons_of_mem _ hy)
          have hps := pot_skip ST sn k1 r
          have hps2 := pot_see ST sn k1 r
          have hms := MS.out.lt
          rw [tntV] at hT0
          have hd1 : r = (k1 :: r).drop (1 : Int).toNat := rfl
          have hg1 : (k1 :: r)[0]? = some k1 := rfl
          clear HT HP2 HTD
          generalize k1 :: r = x at QX hxl hd1 hg1 hP0 hps hps2 ⊢
          have HD1 := Aside0.mk hd1
          have HXL := Aside0.mk hxl
          have HRS := Aside0.mk hrs
          have hx0 : decide (0 < (x.length : Int)) = true := decide_eq_true (by omega)
          have hx1 : decide (0 < x.length) = true := decide_eq_true (by omega)
          have hx2 : 0 < x.length := by omega
          have hx3 : (0 : Int) < (x.length : Int) := by omega
          obtain ⟨ad1, ea1, hc1⟩ := at_int (Kd.Q_reads' QX.out).2.2 hg1
          rw [Addr.add_zero'] at hc1
          cases ea1
          have q18 : (1 : Int) ≤ (x.length : Int) := by omega
          obtain ⟨i018, hi018, _, hsz18, _⟩ := info_parts info3
          have hcut18 := cut_from (P := Try.prog) 25 3 .i64 Try.underlying25 hi018 1 hsz18 (some ad1) x.length cq 1 (by omega) q18
          have hr18 := Kd.Q_drop (k := (1 : Int).toNat) QX.out (by omega)
          obtain ⟨A18, hA18⟩ : ∃ A1, A1 = (if cq = (1 : Int).toNat then (some ad1) else ((some ad1) : Option Addr).map (·.add ((1 : Int).toNat * 1))) := ⟨_, rfl⟩
          obtain ⟨c18, hc18⟩ : ∃ c1, c1 = cq - (1 : Int).toNat := ⟨_, rfl⟩
          have hy18 : r.length = x.length - (1 : Int).toNat := by rw [hd1, List.length_drop]
          rw [← hd1] at hr18
          rw [← hy18, ← hA18, ← hc18] at hcut18
          replace hr18 : Kd.Q (Kd.int .i64) 3 wr (wo.heap.size + 1) (fun _ => True) (.slice A18 r.length c18) r := (by rw [hA18, hc18, hy18]; exact hr18)
          have QR := Aside0.mk hr18
          clear hy18 hi018 hsz18 QX hA18 hc18 hr18 hg1 hd1 hxl hrs
          have hl1 := MS.out.look (t := 85) (e := 4) Try.underlying3 Try.underlying85 (zeroB _) k1 (smallP_wf hk1)
          have hbx := BX.out.size
          cases hb : sn k1
          case true =>
            rw [hb] at hl1
            rw [if_pos hb] at hT0
            have HT1 := Aside0.mk hT0
            have HP1 : Aside0 (n + potV ST sn r ≤ 6102000) := ⟨by omega⟩
            clear hT0 hps hP0 hb hps2
            go_wp2
            go_roundg g1
            case measure => omega
            case rel => exact ⟨sn, r, n, HT1, HP1, HRS, MS, BX, QR⟩
          case false =>
            rw [hb] at hl1
            rw [if_neg (by rw [hb]; simp)] at hT0
            replace hps2 := hps2 hb
            have HT1 := Aside0.mk hT0
            have HP1 : Aside0 (n + 1 + potV ST (seeV sn k1) (r ++ nextG ST k1) ≤ 6102000) := ⟨by omega⟩
            have hlen2 : r.length + (nextG ST k1).length ≤ 6102000 := by
              have := HP1.out
              unfold potV at this
              rw [List.length_append] at this
              omega
            have hnm : n < maxLen := by unfold maxLen; omega
            obtain ⟨w7, hr7, hM7, hg7⟩ := MS.out.put (e := 4) Try.underlying3 Try.underlying85 hnm k1 (smallP_wf hk1) (.bool true)
            have hM7' : MapV Try.prog w7 3 (.bool false) wo.heap.size (n + 1) (fun y => .bool (seeV sn k1 y)) := by
              have e : (fun y => if y = k1 then Value.bool true else .bool (sn y)) = fun y => .bool (seeV sn k1 y) := by
                funext y
                unfold seeV
                split <;> rfl
              rwa [e] at hM7
            have M7 := Aside0.mk hM7'
            have hB7 : Below wo.heap.size wo w7 := pw_below_grown BX.out _ hbx hg7 (fun k hk => by injection hk with hk; omega)
            have B7 := Aside0.mk hB7
            have hl2 := (MW.out.below hB7).look (t := 83) (e := 25) Try.underlying3 Try.underlying83 (zeroRow _) k1 (smallP_wf hk1)
            have RK := Aside0.mk (Kd.R_below (RN.out k1) hB7)
            obtain ⟨Ak, ck, ek⟩ := Kd.R_slice RK.out
            rw [ek] at hl2
            have hRK := RK.out
            rw [ek] at hRK
            have CK := Aside0.mk (Kd.R_reads' hRK).2.2
            have Q7 := Aside0.mk (Kd.Q_grown2 QR.out rfl hg7 (fun k hk e => by have := Kd.Q_base QR.out k e.symm; injection hk with hk; omega))
            have hz7 := hg7.size
            clear hps hP0 hb hT0 hps2 hM7 hM7' hB7 hg7 ek hRK
            go_wp2_with (at_builtin; go_must (refine Kd.Q_append_rows (Kd.int .i64) (w0 := w7) (wo.heap.size + 1) rfl (.tmp 72) (.tmp 75) 25 3 (.int .i64 0) 8 rfl Try.underlying25 infoI rfl (by decide) (by omega) (.slice A18 r.length c18) r (nextG ST k1) _ _ _ (fun _ => True) (fun _ => False) rfl rfl Q7.out CK.out (fun _ _ h => h) (fun _ h => h.elim) (fun _ _ => trivial) (Below.refl _ _) (by omega) (by omega) ?_); intro v16 w8 hq8 hb8 hg8 hat8)
            have hne : ∀ k, (Value.slice A18 r.length c18).ownBlock = some k → wo.heap.size + 1 ≤ k := Kd.Q_base Q7.out
            have M8 := Aside0.mk (M7.out.kept hg8 (fun e => by have := hne _ e.symm; omega))
            have B8 := Aside0.mk (pw_below_grown B7.out _ (by omega) hg8 (fun k hk => by have := hne _ hk; omega))
            have Q8 := Aside0.mk hq8
            have HS8 : Aside0 (∀ y ∈ r ++ nextG ST k1, smallP y) := ⟨fun y hy => by
              rcases List.mem_append.1 hy with hy | hy
              · exact HRS.out y hy
              · exact nextG_mem_small HST1.out k1 y hy⟩
            clear hq8 hb8 hg8 hat8 hne
            go_roundg g1
            case measure => omega
            case rel => exact ⟨seeV sn k1, r ++ nextG ST k1, n + 1, HT1, HP1, HS8, M8, B8, Q8⟩
end
theorem cfg_Taints.calls (k : Nat) (A0 : Option Addr) (c0 : Nat) (l0 : List Stmt) (a1 : Int) (a2 : ByteArray) (r : Bool) (w : World) (hr0 : Kd.C k30 w A0 l0.length l0) (hc0 : l0.length ≤ c0) (h : cfg_Taints.f k l0 a1 a2 = some r) :
    Calls Try.prog 40 #[.slice A0 l0.length c0, .int .i64 a1, .string a2] w fun e w' => e = .returned (.bool r) ∧ Below w.heap.size w w' := by
  unfold cfg_Taints.f at h
  by_cases hl : l0.length ≤ 1000
  · rw [if_pos hl] at h
    by_cases c : withinB l0.length a1 = true ∧ 0 ≤ idxS (setS (l0.flatMap namesOf)) a2
    · rw [if_pos c] at h
      obtain ⟨seen, hs, h⟩ := Option.bind_eq_some_iff.1 h
      obtain rfl := Option.some.inj h
      exact taints_yes A0 c0 l0 a1 a2 w hr0 hc0 hl c.1 c.2 k seen hs
    · rw [if_neg c] at h
      obtain rfl := Option.some.inj h
      exact taints_no A0 c0 l0 a1 a2 w hr0 hc0 hl c
  · rw [if_neg hl] at h
    cases h
end Go.Proofs.Ytnepgcbgkhikkaa.H
/- cfg.Taints' plain word tells what is tainted -/
namespace Go.Proofs.Ytnepgcbgkhikkaa.H
open Go.RowKit Go.Proofs.YtnepgcbgkhikkaaW.PrintWords
set_option linter.unusedVariables false
theorem tnt_ev (steps : List (Int × Int)) (srcs : List Int) : ∃ r, Ev (fun k => tntV (nextG steps) k (fun _ => false) srcs) r ∧ ∀ q, r q = true ↔ Tnt steps srcs q := by
  obtain ⟨r, hr⟩ := tntV_some steps (potV steps (fun _ => false) srcs + 1) (fun _ => false) srcs (by omega)
  have hup : ∀ d, tntV (nextG steps) (potV steps (fun _ => false) srcs + 1 + d) (fun _ => false) srcs = some r := by
    intro d
    induction d with
    | zero => exact hr
    | succ d ih => exact tntV_more _ _ _ _ _ ih
  refine ⟨r, ⟨potV steps (fun _ => false) srcs + 1, fun k hk => ?_⟩, tntV_spec steps srcs _ _ _ r ⟨fun k hk => .base hk, fun k hk => (by cases hk), fun p hp => .inr hp, fun p q hp => (by cases hp)⟩ hr⟩
  obtain ⟨d, rfl⟩ : ∃ d, k = potV steps (fun _ => false) srcs + 1 + d := ⟨k - (potV steps (fun _ => false) srcs + 1), by omega⟩
  exact hup d
def nmsT (l : List Stmt) : List ByteArray := setS (l.flatMap namesOf)
def taintP (l : List Stmt) (n : Int) (x : ByteArray) : Prop := 0 ≤ n ∧ n < (l.length : Int) ∧ x ∈ nmsT l ∧ TaintP l (nmsT l) n x
theorem Taints_ev (l : List Stmt) (n : Int) (x : ByteArray) (hl : l.length ≤ 1000) : ∃ b, Ev (fun k => cfg_Taints.f k l n x) b ∧ (b = true ↔ taintP l n x) := by
  unfold cfg_Taints.f
  have w : withinB l.length n = true ↔ 0 ≤ n ∧ n < (l.length : Int) := by simp [withinB]
  by_cases c : withinB l.length n = true ∧ 0 ≤ idxS (setS (l.flatMap namesOf)) x
  · obtain ⟨r, hr, hs⟩ := tnt_ev (stepsP l (setS (l.flatMap namesOf))) (srcsP l (setS (l.flatMap namesOf)))
    refine ⟨r (atP (setS (l.flatMap namesOf)) n x), Ev.pos hl (Ev.pos c (Ev.bind hr (Ev.now _))), ?_⟩
    rw [hs]
    have h1 := w.1 c.1
    have h2 := idxS_mem.1 c.2
    constructor
    · intro h; exact ⟨h1.1, h1.2, h2, h⟩
    · intro h; exact h.2.2.2
  · refine ⟨false, Ev.pos hl (Ev.neg c (Ev.now _)), ⟨fun h => (by cases h), fun h => absurd ⟨w.2 ⟨h.1, h.2.1⟩, idxS_mem.2 h.2.2.1⟩ c⟩⟩
theorem Taints_yes (l : List Stmt) (n : Int) (x : ByteArray) (hl : l.length ≤ 1000) (h0 : 0 ≤ n) (h1 : n < (l.length : Int)) (hx : x ∈ nmsT l) (ht : TaintP l (nmsT l) n x) : Ev (fun k => cfg_Taints.f k l n x) true := by
  obtain ⟨b, hb, e⟩ := Taints_ev l n x hl
  have : b = true := e.2 ⟨h0, h1, hx, ht⟩
  exact this ▸ hb
end Go.Proofs.Ytnepgcbgkhikkaa.H
namespace Go.Proofs.Ytnepgcbgkhikkaa.H
open Go.RowKit Go.Proofs.YtnepgcbgkhikkaaW.PrintWords Go.Proofs.YtnepgcbgkhikkaaW.PrintLast Go.Proofs.YtnepgcbgkhikkaaW.PrintMore
attribute [local go_sem] max2_int min2_int max_two min_two max_three min_three max_four min_four
set_option linter.unusedVariables false
set_option linter.unusedSimpArgs false
mutual
def lambrequinlaw22_InterpTaints.l0 : Nat → Bool → List (Visit) → Int → List (Stmt) → List Int → List Bool → Int → Option (Bool)
 | 0, _, _, _, _, _, _, _ => none
 | k + 1, x3, x4, x5, x102000, x102001, x102002, x102003 => if x5 < (x4.length : Int) then (lambrequinlaw22_InterpTaints.l1 k x3 x4 x5 0 x102000 x102001 x102002 x102003) else (some x3)
def lambrequinlaw22_InterpTaints.l1 : Nat → Bool → List (Visit) → Int → Int → List (Stmt) → List Int → List Bool → Int → Option (Bool)
 | 0, _, _, _, _, _, _, _, _ => none
 | k + 1, x3, x4, x5, x6, x102000, x102001, x102002, x102003 => if 0 ≤ x5 then (if x5 < (x4.length : Int) then (if x6 < (((rd_T52 x4 x5).vars).length : Int) then (if 0 ≤ x6 then (if (rd_T54 ((rd_T52 x4 x5).vars) x6).taint = true then ((cfg_Taints.f k x102000 ((rd_T52 x4 x5).place) ((rd_T54 ((rd_T52 x4 x5).vars) x6).name)).bind fun t112 => (if t112 = true then (lambrequinlaw22_InterpTaints.l1 k x3 x4 x5 (wrap64 (x6 + 1)) x102000 x102001 x102002 x102003) else (some false))) else (lambrequinlaw22_InterpTaints.l1 k x3 x4 x5 (wrap64 (x6 + 1)) x102000 x102001 x102002 x102003)) else (none)) else (lambrequinlaw22_InterpTaints.l0 k x3 x4 (wrap64 (x5 + 1)) x102000 x102001 x102002 x102003)) else (none)) else (none)
end
def lambrequinlaw22_InterpTaints.f (k : Nat) (l0_0 : List (Stmt)) (l0_1 : List Int) (l0_2 : List Bool) (a0_3 : Int) : Option (Bool) := (lambrequinlaw22_shown.f).bind fun t102 => ((lambrequinlaw22_few.f l0_0 l0_1 l0_2 a0_3).bind fun t103 => (if t103 = true then ((interp_Run.f l0_0 l0_1 l0_2 a0_3).bind fun t104 => (lambrequinlaw22_InterpTaints.l0 k t102 t104 0 l0_0 l0_1 l0_2 a0_3)) else (some t102)))
theorem lambrequinlaw22_InterpTaints.mono_l : ∀ k, (∀ y0 y1 y2 y3 y4 y5 y6, LeO (lambrequinlaw22_InterpTaints.l0 k y0 y1 y2 y3 y4 y5 y6) (lambrequinlaw22_InterpTaints.l0 (k + 1) y0 y1 y2 y3 y4 y5 y6)) ∧ (∀ y0 y1 y2 y3 y4 y5 y6 y7, LeO (lambrequinlaw22_InterpTaints.l1 k y0 y1 y2 y3 y4 y5 y6 y7) (lambrequinlaw22_InterpTaints.l1 (k + 1) y0 y1 y2 y3 y4 y5 y6 y7))
 | 0 => ⟨fun _ _ _ _ _ _ _ r h => by simp [lambrequinlaw22_InterpTaints.l0] at h, fun _ _ _ _ _ _ _ _ r h => by simp [lambrequinlaw22_InterpTaints.l1] at h⟩
 | k + 1 => by
  obtain ⟨ih0, ih1⟩ := lambrequinlaw22_InterpTaints.mono_l k
  refine ⟨?_, ?_⟩
  ·intro y0 y1 y2 y3 y4 y5 y6
   unfold lambrequinlaw22_InterpTaints.l0
   repeat' first
   | (with_reducible exact ih0 _ _ _ _ _ _ _)
   | (with_reducible exact ih1 _ _ _ _ _ _ _ _)
   | (with_reducible exact cfg_Taints.mono _ _ _ _)
   | (with_reducible exact LeO.refl _)
   | (with_reducible exact LeO.none _)
   | (with_reducible refine LeO.ite ?_ ?_)
   | (with_reducible refine LeO.bind ?_ (fun _ => ?_))
   | exact ih0 _ _ _ _ _ _ _
   | exact ih1 _ _ _ _ _ _ _ _
   | exact cfg_Taints.mono _ _ _ _
   | exact LeO.none _
   | refine LeO.ite ?_ ?_
   | refine LeO.bind ?_ (fun _ => ?_)
  ·intro y0 y1 y2 y3 y4 y5 y6 y7
   unfold lambrequinlaw22_InterpTaints.l1
   repeat' first
   | (with_reducible exact ih0 _ _ _ _ _ _ _)
   | (with_reducible exact ih1 _ _ _ _ _ _ _ _)
   | (with_reducible exact cfg_Taints.mono _ _ _ _)
   | (with_reducible exact LeO.refl _)
   | (with_reducible exact LeO.none _)
   | (with_reducible refine LeO.ite ?_ ?_)
   | (with_reducible refine LeO.bind ?_ (fun _ => ?_))
   | exact ih0 _ _ _ _ _ _ _
   | exact ih1 _ _ _ _ _ _ _ _
   | exact cfg_Taints.mono _ _ _ _
   | exact LeO.none _
   | refine LeO.ite ?_ ?_
   | refine LeO.bind ?_ (fun _ => ?_)
theorem lambrequinlaw22_InterpTaints.mono : ∀ a0 a1 a2 a3 k, LeO (lambrequinlaw22_InterpTaints.f k a0 a1 a2 a3) (lambrequinlaw22_InterpTaints.f (k + 1) a0 a1 a2 a3) := by
 intro a0 a1 a2 a3 k
 obtain ⟨ih0, ih1⟩ := lambrequinlaw22_InterpTaints.mono_l k
 unfold lambrequinlaw22_InterpTaints.f
 repeat' first
   | (with_reducible exact ih0 _ _ _ _ _ _ _)
   | (with_reducible exact ih1 _ _ _ _ _ _ _ _)
   | (with_reducible exact cfg_Taints.mono _ _ _ _)
   | (with_reducible exact LeO.refl _)
   | (with_reducible exact LeO.none _)
   | (with_reducible refine LeO.ite ?_ ?_)
   | (with_reducible refine LeO.bind ?_ (fun _ => ?_))
   | exact ih0 _ _ _ _ _ _ _
   | exact ih1 _ _ _ _ _ _ _ _
   | exact cfg_Taints.mono _ _ _ _
   | exact LeO.none _
   | refine LeO.ite ?_ ?_
   | refine LeO.bind ?_ (fun _ => ?_)
def lambrequinlaw22_InterpTaints.T12 : Bool × List (List Nat × List Nat) := (true, [([], []), ([0], [0]), ([1], [1]), ([2], [2]), ([3, 2], [2, 3]), ([2], [2]), ([2], [2]), ([5, 6, 2], [2, 5, 6]), ([7, 2], [2, 7]), ([8, 2], [2, 8]), ([2], [2]), ([10, 2], [2, 10]), ([4, 9, 11, 2, 2], [2, 4, 9, 11]), ([12, 2], [2, 12]), ([2, 13], [2, 13])])
def lambrequinlaw22_InterpTaints.B12 : List Nat := [0, 1, 3, 7, 15, 7, 7, 103, 231, 487, 7, 1031, 4095, 8191, 16383]
theorem lambrequinlaw22_InterpTaints.tab12 : rtab .any (opsOf Try.f16 12) = lambrequinlaw22_InterpTaints.T12 := by kernel_rfl
theorem lambrequinlaw22_InterpTaints.bits12 : waitsOk lambrequinlaw22_InterpTaints.T12.2 lambrequinlaw22_InterpTaints.B12 = true := by kernel_rfl
set_option maxHeartbeats 8000000 in
set_option maxRecDepth 100000 in
theorem lambrequinlaw22_InterpTaints.calls (k : Nat) (A0_0 : Option Addr) (c0_0 : Nat) (l0_0 : List (Stmt)) (A0_1 : Option Addr) (c0_1 : Nat) (l0_1 : List Int) (A0_2 : Option Addr) (c0_2 : Nat) (l0_2 : List Bool) (a0_3 : Int) (r : Bool) (w : World) (hr0_0 : Kd.C k30 w A0_0 l0_0.length l0_0) (hc0_0 : l0_0.length ≤ c0_0) (hr0_1 : Kd.C (Kd.int .i64) w A0_1 l0_1.length l0_1) (hc0_1 : l0_1.length ≤ c0_1) (hr0_2 : Kd.C Kd.bool w A0_2 l0_2.length l0_2) (hc0_2 : l0_2.length ≤ c0_2) (h : lambrequinlaw22_InterpTaints.f k l0_0 l0_1 l0_2 a0_3 = some r) :
  Calls Try.prog 16 #[.agg #[.slice A0_0 l0_0.length c0_0, .slice A0_1 l0_1.length c0_1, .slice A0_2 l0_2.length c0_2, .int .i64 a0_3]] w fun e w' => e = .returned (.bool r) ∧ Below w.heap.size w w' := by
 have hu43 := Try.underlying43
 have hu54 := Try.underlying54
 have HR0_0 := am hr0_0
 have HC0_0 := am hc0_0
 clear hr0_0 hc0_0
 have HR0_1 := am hr0_1
 have HC0_1 := am hc0_1
 clear hr0_1 hc0_1
 have HR0_2 := am hr0_2
 have HC0_2 := am hc0_2
 clear hr0_2 hc0_2
 have HB := am (Below.refl w.heap.size w)
 have H : ((lambrequinlaw22_shown.f).bind fun t102 => ((lambrequinlaw22_few.f l0_0 l0_1 l0_2 a0_3).bind fun t103 => (if t103 = true then ((interp_Run.f l0_0 l0_1 l0_2 a0_3).bind fun t104 => (lambrequinlaw22_InterpTaints.l0 k t102 t104 0 l0_0 l0_1 l0_2 a0_3)) else (some t102)))) = some r := h
 clear h
 replace H := Option.bind_eq_some_iff.mp H
 obtain ⟨t102, A20, H⟩ := H
 replace H : ((lambrequinlaw22_few.f l0_0 l0_1 l0_2 a0_3).bind fun t103 => (if t103 = true then ((interp_Run.f l0_0 l0_1 l0_2 a0_3).bind fun t104 => (lambrequinlaw22_InterpTaints.l0 k t102 t104 0 l0_0 l0_1 l0_2 a0_3)) else (some t102))) = some r := H
 have A2 := am A20
 clear A20
 replace H := Option.bind_eq_some_iff.mp H
 obtain ⟨t103, A30, H⟩ := H
 replace H : (if t103 = true then ((interp_Run.f l0_0 l0_1 l0_2 a0_3).bind fun t104 => (lambrequinlaw22_InterpTaints.l0 k t102 t104 0 l0_0 l0_1 l0_2 a0_3)) else (some t102)) = some r := H
 have A3 := am A30
 clear A30
 by_cases c4 : t103 = true
 ·subst c4
  have H1 : ((interp_Run.f l0_0 l0_1 l0_2 a0_3).bind fun t104 => (lambrequinlaw22_InterpTaints.l0 k t102 t104 0 l0_0 l0_1 l0_2 a0_3)) = some r := by rw [if_pos rfl] at H; exact H
  clear H
  have H := H1
  clear H1
  replace H := Option.bind_eq_some_iff.mp H
  obtain ⟨t104, A50, H⟩ := H
  replace H : (lambrequinlaw22_InterpTaints.l0 k t102 t104 0 l0_0 l0_1 l0_2 a0_3) = some r := H
  have A5 := am A50
  clear A50
  have H' := am H
  clear H
  go_enter Try.func16, Try.ntmps16
  go_wp2_with (first | ((with_reducible refine gate_dst (N := 1) rfl ?_); refine box_event ?hg (N := 1) ?hd (cs := #[.slice A0_0 l0_0.length c0_0, .slice A0_1 l0_1.length c0_1, .slice A0_2 l0_2.length c0_2, .int .i64 a0_3]) (t := 43) ?hr ?_; (case hd => rfl); (case hg => rfl); (case hr => first | (go_simp; done) | (go_simp; rfl)); intro gb101 hg w6 hbox hb; have BK101 := am (hbox); have GW101 := am ((by rw [hg]; exact (below_size (by repeat (first | (with_reducible first | exact HB.out | apply lA | apply lN | apply lD) | exact HB.out))) : w.heap.size ≤ gb101)); have GE101 := am ((by rw [hg]; exact (below_size (by repeat (first | (with_reducible first | exact HB.out | apply lA | apply lN | apply lD) | exact HB.out))) : w.heap.size ≤ gb101)); replace HB := am (below_step (by repeat (first | (with_reducible first | exact HB.out | apply lA | apply lN | apply lD) | exact HB.out)) hb); clear hb hbox hg) | ((with_reducible refine gate_callee (f := 33) rfl ?_); refine goesL_ (some 8) rfl rfl Try.func33 (by kernel_rfl) rfl #[] rfl (by (try simp only [List.map_toArray, List.map_cons, List.map_nil]); first | done | rfl | (simp only [List.length_drop, List.length_take]; rfl)) ?_; (with_reducible refine (lambrequinlaw22_shown.calls  t102 _ A2.out).mono ?_); rintro e w7 ⟨rfl, hb⟩; refine ⟨_, rfl, ?_⟩; replace BK101 := am (blk_below (g := gb101) (o := .cells #[.slice A0_0 l0_0.length c0_0, .slice A0_1 l0_1.length c0_1, .slice A0_2 l0_2.length c0_2, .int .i64 a0_3] 43 (0, 0)) (by (with_reducible repeat (first | refine bN ?_ _ | refine bD ?_ | refine bA ?_ _)); exact BK101.out) hb); replace HB := am (below_step (by repeat (first | (with_reducible first | exact HB.out | apply lA | apply lN | apply lD | refine lS ?_ GE101.out) | exact HB.out)) hb); (try clear hb); (try clear hb2); (try clear hk); (try clear hi); have hcz8_0 : w7.cell? ⟨gb101, 0, none⟩ = some (.slice A0_0 l0_0.length c0_0) := (blk_cell BK101.out 0).trans rfl; have hcz8_1 : w7.cell? ⟨gb101, 1, none⟩ = some (.slice A0_1 l0_1.length c0_1) := (blk_cell BK101.out 1).trans rfl; have hcz8_2 : w7.cell? ⟨gb101, 2, none⟩ = some (.slice A0_2 l0_2.length c0_2) := (blk_cell BK101.out 2).trans rfl; have hcz8_3 : w7.cell? ⟨gb101, 3, none⟩ = some (.int .i64 a0_3) := (blk_cell BK101.out 3).trans rfl; have hfz8_0 := blk_frozen BK101.out 0; have hfz8_1 := blk_frozen BK101.out 1; have hfz8_2 := blk_frozen BK101.out 2; have hfz8_3 := blk_frozen BK101.out 3) | ((with_reducible refine gate_callee (f := 34) rfl ?_); refine goesL_ (some 10) rfl rfl Try.func34 (by kernel_rfl) rfl #[.agg #[.slice A0_0 l0_0.length c0_0, .slice A0_1 l0_1.length c0_1, .slice A0_2 l0_2.length c0_2, .int .i64 a0_3]] rfl (by (try simp only [List.map_toArray, List.map_cons, List.map_nil]); first | done | rfl | (simp only [List.length_drop, List.length_take]; rfl)) ?_; (with_reducible refine (lambrequinlaw22_few.calls _ _ l0_0 _ _ l0_1 _ _ l0_2 a0_3 true _ ?side1 ?side2 ?side3 ?side4 ?side5 ?side6 A3.out).mono ?_); (case side1 => repeat (first | exact (Kd.C_below HR0_0.out HB.out) | (with_reducible refine Kd.C_alloc ?_ _) | (with_reducible refine Kd.C_drewN ?_ _) | (with_reducible refine Kd.C_drew ?_))); (case side2 => exact HC0_0.out); (case side3 => repeat (first | exact (Kd.C_below HR0_1.out HB.out) | (with_reducible refine Kd.C_alloc ?_ _) | (with_reducible refine Kd.C_drewN ?_ _) | (with_reducible refine Kd.C_drew ?_))); (case side4 => exact HC0_1.out); (case side5 => repeat (first | exact (Kd.C_below HR0_2.out HB.out) | (with_reducible refine Kd.C_alloc ?_ _) | (with_reducible refine Kd.C_drewN ?_ _) | (with_reducible refine Kd.C_drew ?_))); (case side6 => exact HC0_2.out); rintro e w9 ⟨rfl, hb⟩; refine ⟨_, rfl, ?_⟩; replace BK101 := am (blk_below (g := gb101) (o := .cells #[.slice A0_0 l0_0.length c0_0, .slice A0_1 l0_1.length c0_1, .slice A0_2 l0_2.length c0_2, .int .i64 a0_3] 43 (0, 0)) (by (with_reducible repeat (first | refine bN ?_ _ | refine bD ?_ | refine bA ?_ _)); exact BK101.out) hb); replace HB := am (below_step (by repeat (first | (with_reducible first | exact HB.out | apply lA | apply lN | apply lD | refine lS ?_ GE101.out) | exact HB.out)) hb); (try clear hb); (try clear hb2); (try clear hk); (try clear hi); have hcz10_0 : w9.cell? ⟨gb101, 0, none⟩ = some (.slice A0_0 l0_0.length c0_0) := (blk_cell BK101.out 0).trans rfl; have hcz10_1 : w9.cell? ⟨gb101, 1, none⟩ = some (.slice A0_1 l0_1.length c0_1) := (blk_cell BK101.out 1).trans rfl; have hcz10_2 : w9.cell? ⟨gb101, 2, none⟩ = some (.slice A0_2 l0_2.length c0_2) := (blk_cell BK101.out 2).trans rfl; have hcz10_3 : w9.cell? ⟨gb101, 3, none⟩ = some (.int .i64 a0_3) := (blk_cell BK101.out 3).trans rfl; have hfz10_0 := blk_frozen BK101.out 0; have hfz10_1 := blk_frozen BK101.out 1; have hfz10_2 := blk_frozen BK101.out 2; have hfz10_3 := blk_frozen BK101.out 3) | ((with_reducible refine gate_callee (f := 36) rfl ?_); refine goesL_ (some 21) rfl rfl Try.func36 (by kernel_rfl) rfl #[.slice A0_0 l0_0.length c0_0, .slice A0_1 l0_1.length c0_1, .slice A0_2 l0_2.length c0_2, .int .i64 a0_3] rfl (by (try simp only [List.map_toArray, List.map_cons, List.map_nil]); first | done | rfl | (simp only [List.length_drop, List.length_take]; rfl)) ?_; (with_reducible refine (interp_Run.calls _ _ l0_0 _ _ l0_1 _ _ l0_2 a0_3 t104 _ ?side1 ?side2 ?side3 ?side4 ?side5 ?side6 A5.out).mono ?_); (case side1 => repeat (first | exact (Kd.C_below HR0_0.out HB.out) | (with_reducible refine Kd.C_alloc ?_ _) | (with_reducible refine Kd.C_drewN ?_ _) | (with_reducible refine Kd.C_drew ?_))); (case side2 => exact HC0_0.out); (case side3 => repeat (first | exact (Kd.C_below HR0_1.out HB.out) | (with_reducible refine Kd.C_alloc ?_ _) | (with_reducible refine Kd.C_drewN ?_ _) | (with_reducible refine Kd.C_drew ?_))); (case side4 => exact HC0_1.out); (case side5 => repeat (first | exact (Kd.C_below HR0_2.out HB.out) | (with_reducible refine Kd.C_alloc ?_ _) | (with_reducible refine Kd.C_drewN ?_ _) | (with_reducible refine Kd.C_drew ?_))); (case side6 => exact HC0_2.out); rintro e w11 ⟨v105, rfl, ho0, hb⟩; refine ⟨_, rfl, ?_⟩; have HO106 := am (Kd.S_lower ho0 (below_size (by repeat (first | (with_reducible first | exact HB.out | apply lA | apply lN | apply lD | refine lS ?_ GE101.out) | exact HB.out)))); replace BK101 := am (blk_below (g := gb101) (o := .cells #[.slice A0_0 l0_0.length c0_0, .slice A0_1 l0_1.length c0_1, .slice A0_2 l0_2.length c0_2, .int .i64 a0_3] 43 (0, 0)) (by (with_reducible repeat (first | refine bN ?_ _ | refine bD ?_ | refine bA ?_ _)); exact BK101.out) hb); replace HB := am (below_step (by repeat (first | (with_reducible first | exact HB.out | apply lA | apply lN | apply lD | refine lS ?_ GE101.out) | exact HB.out)) hb); (try clear hb); (try clear hb2); (try clear hk); (try clear hi); (try clear ho0)))
  go_loopg [5] k (fun kq v5 w' => ∃ (x5_1 : Int), v5 = .int .i64 x5_1 ∧ Aside0 (lambrequinlaw22_InterpTaints.l0 kq t102 t104 x5_1 l0_0 l0_1 l0_2 a0_3 = some r) ∧ Aside0 (kq ≤ k) ∧ Aside0 (Kd.S k52 52 w' w.heap.size (fun _ => True) v105 t104) ∧ Aside0 (w'.heap[gb101]? = some (.cells #[(.slice A0_0 l0_0.length c0_0), (.slice A0_1 l0_1.length c0_1), (.slice A0_2 l0_2.length c0_2), .int .i64 a0_3] 43 (0, 0))) ∧ Aside0 (Below w.heap.size w w'))
  case atStart => exact ⟨(0), (by first | rfl | (simp; done) | (simp [*]; done)), H', ⟨Nat.le_refl _⟩, ⟨by (with_reducible repeat (first | apply Kd.S_alloc | apply Kd.S_drewN | apply Kd.S_drew)); exact HO106.out⟩, ⟨by (with_reducible repeat (first | refine bN ?_ _ | refine bD ?_ | refine bA ?_ _)); exact BK101.out⟩, ⟨by repeat (first | (with_reducible first | exact HB.out | apply lA | apply lN | apply lD | refine lS ?_ GE101.out) | exact HB.out)⟩⟩
  case round =>
   clear H'
   try clear c1
   try clear p2
   try clear c3
   try clear c4
   try clear hcz10_0
   try clear hcz10_1
   try clear hcz10_2
   try clear hcz10_3
   try clear hcz8_0
   try clear hcz8_1
   try clear hcz8_2
   try clear hcz8_3
   try clear hfz10_0
   try clear hfz10_1
   try clear hfz10_2
   try clear hfz10_3
   try clear hfz8_0
   try clear hfz8_1
   try clear hfz8_2
   try clear hfz8_3
   obtain ⟨x5_1, rfl, HA, HK1, HO_4, BK101, HB⟩ := hrel
   cases gk with
   | zero => exact absurd HA.out (by simp [lambrequinlaw22_InterpTaints.l0])
   | succ k1 =>
    have H := HA.out
    clear HA
    simp only [lambrequinlaw22_InterpTaints.l0] at H
    by_cases c12 : x5_1 < (t104.length : Int)
    ·rw [if_pos c12] at H
     have c12b0 : decide (x5_1 < (t104.length : Int)) = true := decide_eq_true c12
     clear c12
     have H' := am H
     clear H
     obtain ⟨Ao13, co13, eo13⟩ := Kd.S_slice HO_4.out
     subst eo13
     go_wp2
     go_loopg [6] k1 (fun kq v6 w' => ∃ (x6_2 : Int), v6 = .int .i64 x6_2 ∧ Aside0 (lambrequinlaw22_InterpTaints.l1 kq t102 t104 x5_1 x6_2 l0_0 l0_1 l0_2 a0_3 = some r) ∧ Aside0 (kq ≤ k1) ∧ Aside0 (Kd.S k52 52 w' w.heap.size (fun _ => True) (.slice Ao13 t104.length co13) t104) ∧ Aside0 (w'.heap[gb101]? = some (.cells #[(.slice A0_0 l0_0.length c0_0), (.slice A0_1 l0_1.length c0_1), (.slice A0_2 l0_2.length c0_2), .int .i64 a0_3] 43 (0, 0))) ∧ Aside0 (Below w.heap.size w w'))
     case atStart => exact ⟨(0), (by first | rfl | (simp; done) | (simp [*]; done)), H', ⟨Nat.le_refl _⟩, ⟨by (with_reducible repeat (first | apply Kd.S_alloc | apply Kd.S_drewN | apply Kd.S_drew)); exact HO_4.out⟩, ⟨by (with_reducible repeat (first | refine bN ?_ _ | refine bD ?_ | refine bA ?_ _)); exact BK101.out⟩, ⟨by repeat (first | (with_reducible first | exact HB.out | apply lA | apply lN | apply lD | refine lS ?_ GE101.out) | exact HB.out)⟩⟩
     case round =>
      clear H'
      try clear c1
      try clear p2
      try clear c3
      try clear c4
      try clear c12
      try clear c12b0
      try clear hcz10_0
      try clear hcz10_1
      try clear hcz10_2
      try clear hcz10_3
      try clear hcz8_0
      try clear hcz8_1
      try clear hcz8_2
      try clear hcz8_3
      try clear hfz10_0
      try clear hfz10_1
      try clear hfz10_2
      try clear hfz10_3
      try clear hfz8_0
      try clear hfz8_1
      try clear hfz8_2
      try clear hfz8_3
      try clear p2
      obtain ⟨x6_2, rfl, HA, HK2, HO_4, BK101, HB⟩ := hrel
      cases gk with
      | zero => exact absurd HA.out (by simp [lambrequinlaw22_InterpTaints.l1])
      | succ k2 =>
       have H := HA.out
       clear HA
       simp only [lambrequinlaw22_InterpTaints.l1] at H
       by_cases c14 : 0 ≤ x5_1
       ·rw [if_pos c14] at H
        have c14b0 : decide (0 ≤ x5_1) = true := decide_eq_true c14
        clear c14
        by_cases c15 : x5_1 < (t104.length : Int)
        ·rw [if_pos c15] at H
         have c15b0 : decide (x5_1 < (t104.length : Int)) = true := decide_eq_true c15
         clear c15
         by_cases c16 : x6_2 < (((rd_T52 t104 x5_1).vars).length : Int)
         ·rw [if_pos c16] at H
          have c16b0 : decide (x6_2 < (((rd_T52 t104 x5_1).vars).length : Int)) = true := decide_eq_true c16
          clear c16
          by_cases c17 : 0 ≤ x6_2
          ·rw [if_pos c17] at H
           have c17b0 : decide (0 ≤ x6_2) = true := decide_eq_true c17
           clear c17
           obtain ⟨bq18, hbq18⟩ : ∃ b_ : Bool, b_ = ((rd_T54 ((rd_T52 t104 x5_1).vars) x6_2).taint) := ⟨_, rfl⟩
           replace H : (if bq18 = true then ((cfg_Taints.f k2 l0_0 ((rd_T52 t104 x5_1).place) ((rd_T54 ((rd_T52 t104 x5_1).vars) x6_2).name)).bind fun t112 => (if t112 = true then (lambrequinlaw22_InterpTaints.l1 k2 t102 t104 x5_1 (wrap64 (x6_2 + 1)) l0_0 l0_1 l0_2 a0_3) else (some false))) else (lambrequinlaw22_InterpTaints.l1 k2 t102 t104 x5_1 (wrap64 (x6_2 + 1)) l0_0 l0_1 l0_2 a0_3)) = some r := by rw [← hbq18] at H; exact H
           have Nbq18 := am hbq18
           clear hbq18
           by_cases c19 : bq18 = true
           ·subst c19
            have H1 : ((cfg_Taints.f k2 l0_0 ((rd_T52 t104 x5_1).place) ((rd_T54 ((rd_T52 t104 x5_1).vars) x6_2).name)).bind fun t112 => (if t112 = true then (lambrequinlaw22_InterpTaints.l1 k2 t102 t104 x5_1 (wrap64 (x6_2 + 1)) l0_0 l0_1 l0_2 a0_3) else (some false))) = some r := by rw [if_pos rfl] at H; exact H
            clear H
            have H := H1
            clear H1
            replace H := Option.bind_eq_some_iff.mp H
            obtain ⟨t112, A200, H⟩ := H
            replace H : (if t112 = true then (lambrequinlaw22_InterpTaints.l1 k2 t102 t104 x5_1 (wrap64 (x6_2 + 1)) l0_0 l0_1 l0_2 a0_3) else (some false)) = some r := H
            have A20 := am A200
            clear A200
            by_cases c21 : t112 = true
            ·subst c21
             have H1 : (lambrequinlaw22_InterpTaints.l1 k2 t102 t104 x5_1 (wrap64 (x6_2 + 1)) l0_0 l0_1 l0_2 a0_3) = some r := by rw [if_pos rfl] at H; exact H
             clear H
             have H := H1
             clear H1
             have H' := am H
             clear H
             have p107 : 0 ≤ (x5_1 : Int) := of_decide_eq_true (by first | (with_reducible assumption) | assumption)
             have q107 : x5_1 < (t104.length : Int) := of_decide_eq_true (by first | (with_reducible assumption) | assumption)
             obtain ⟨ad107, A107_1, c107_1, e107, hx107_0, hx107_1, hl107_1, hi107_1⟩ := at_T52 (Kd.S_reads' HO_4.out).2.2 x5_1 p107 q107
             cases e107
             obtain ⟨ce107, hce107, hMe107, hcc107⟩ := Kd.S_get HO_4.out z52 x5_1 p107 (by first | exact q107 | exact of_decide_eq_true (by first | (with_reducible assumption) | assumption) | (have e_ := (Kd.S_reads' HO_4.out).1; omega))
             obtain ⟨ve107_1, rfl, ge107_1⟩ := k52_openM hMe107
             have hv107_1 := hcc107 1 _ rfl
             rw [add_field _ _ 1 (by omega)] at hv107_1
             replace hv107_1 := Option.some.inj (hv107_1.symm.trans hx107_1)
             rw [hv107_1] at ge107_1
             have HL107_1 := am (show Kd.R k54 54 _ _ _ _ ((rd_T52 t104 x5_1).vars) from ge107_1)
             clear hv107_1 ge107_1
             clear hcc107 hce107
             have HR107_1 := am hi107_1
             have HC107_1 := am hl107_1
             clear hi107_1 hl107_1
             replace p107 := eq_true p107
             replace q107 := eq_true q107
             have p108 : 0 ≤ (x5_1 : Int) := of_decide_eq_true (by first | (with_reducible assumption) | assumption)
             have q108 : x5_1 < (t104.length : Int) := of_decide_eq_true (by first | (with_reducible assumption) | assumption)
             obtain ⟨ad108, A108_1, c108_1, e108, hx108_0, hx108_1, hl108_1, hi108_1⟩ := at_T52 (Kd.S_reads' HO_4.out).2.2 x5_1 p108 q108
             obtain rfl : ad107 = ad108 := (by injection e108)
             obtain ⟨ce108, hce108, hMe108, hcc108⟩ := Kd.S_get HO_4.out z52 x5_1 p108 (by first | exact q108 | exact of_decide_eq_true (by first | (with_reducible assumption) | assumption) | (have e_ := (Kd.S_reads' HO_4.out).1; omega))
             obtain ⟨ve108_1, rfl, ge108_1⟩ := k52_openM hMe108
             have hv108_1 := hcc108 1 _ rfl
             rw [add_field _ _ 1 (by omega)] at hv108_1
             replace hv108_1 := Option.some.inj (hv108_1.symm.trans hx108_1)
             rw [hv108_1] at ge108_1
             have HL108_1 := am (show Kd.R k54 54 _ _ _ _ ((rd_T52 t104 x5_1).vars) from ge108_1)
             clear hv108_1 ge108_1
             clear hcc108 hce108
             have HR108_1 := am hi108_1
             have HC108_1 := am hl108_1
             clear hi108_1 hl108_1
             replace p108 := eq_true p108
             replace q108 := eq_true q108
             have ea_ := Option.some.inj (hx107_1.symm.trans hx108_1)
             injection ea_ with ea_ en_ ec_
             subst ea_
             subst ec_
             clear en_
             have p109 : 0 ≤ (x6_2 : Int) := of_decide_eq_true (by first | (with_reducible assumption) | assumption)
             have q109 : x6_2 < (((rd_T52 t104 x5_1).vars).length : Int) := of_decide_eq_true (by first | (with_reducible assumption) | assumption)
             obtain ⟨ad109, e109, hx109_0, hx109_1, hx109_2, hx109_3⟩ := at_T54 (by repeat (first | (with_reducible exact HR108_1.out) | (with_reducible refine Kd.C_alloc ?_ _) | (with_reducible refine Kd.C_drewN ?_ _) | (with_reducible refine Kd.C_drew ?_) | exact HR108_1.out)) x6_2 p109 q109
             (try rw [← Nbq18.out] at hx109_3)
             cases e109
             replace p109 := eq_true p109
             replace q109 := eq_true q109
             try go_wp2_with (first | ((with_reducible refine gate_dst (N := 7) rfl ?_); refine box_event ?hg (N := 7) ?hd (cs := #[.string (⟨#[]⟩ : ByteArray), .int .i64 0, .int .i64 0, .bool false]) (t := 54) ?hr ?_; (case hd => rfl); (case hg => rfl); (case hr => first | (go_simp; done) | (go_simp; rfl)); intro gb110 hg w22 hbox hb; replace HO_4 := am (Kd.S_below (Kd.S_elderB (by (with_reducible repeat (first | apply Kd.S_alloc | apply Kd.S_drewN | apply Kd.S_drew)); exact HO_4.out) gb110 (Nat.le_of_eq hg.symm)) hb); replace HL107_1 := am (Kd.R_below (Kd.R_elderB (by (with_reducible repeat (first | apply Ra | apply Rn | apply Rd)); exact HL107_1.out) gb110 (Nat.le_of_eq hg.symm)) hb); replace HL108_1 := am (Kd.R_below (Kd.R_elderB (by (with_reducible repeat (first | apply Ra | apply Rn | apply Rd)); exact HL108_1.out) gb110 (Nat.le_of_eq hg.symm)) hb); replace HR107_1 := am (Kd.C_below (by repeat (first | (with_reducible exact HR107_1.out) | (with_reducible refine Kd.C_alloc ?_ _) | (with_reducible refine Kd.C_drewN ?_ _) | (with_reducible refine Kd.C_drew ?_) | exact HR107_1.out)) hb); replace HR108_1 := am (Kd.C_below (by repeat (first | (with_reducible exact HR108_1.out) | (with_reducible refine Kd.C_alloc ?_ _) | (with_reducible refine Kd.C_drewN ?_ _) | (with_reducible refine Kd.C_drew ?_) | exact HR108_1.out)) hb); have BK110 := am (hbox); have GW110 := am ((by rw [hg]; exact (below_size (by repeat (first | (with_reducible first | exact HB.out | apply lA | apply lN | apply lD | refine lS ?_ GE101.out) | exact HB.out))) : w.heap.size ≤ gb110)); have GE110 := am ((by rw [hg]; exact (below_size (by repeat (first | (with_reducible first | exact HB.out | apply lA | apply lN | apply lD | refine lS ?_ GE101.out) | exact HB.out))) : w.heap.size ≤ gb110)); replace HB := am (below_step (by repeat (first | (with_reducible first | exact HB.out | apply lA | apply lN | apply lD | refine lS ?_ GE101.out) | exact HB.out)) hb); have NB101_110 := am ((by rw [hg]; exact Nat.ne_of_lt (blk_lt (g := gb101) (o := .cells #[.slice A0_0 l0_0.length c0_0, .slice A0_1 l0_1.length c0_1, .slice A0_2 l0_2.length c0_2, .int .i64 a0_3] 43 (0, 0)) (by (with_reducible repeat (first | refine bN ?_ _ | refine bD ?_ | refine bA ?_ _)); exact BK101.out)) : gb101 ≠ gb110)); have NB110_101 := am ((by rw [hg]; exact Nat.ne_of_gt (blk_lt (g := gb101) (o := .cells #[.slice A0_0 l0_0.length c0_0, .slice A0_1 l0_1.length c0_1, .slice A0_2 l0_2.length c0_2, .int .i64 a0_3] 43 (0, 0)) (by (with_reducible repeat (first | refine bN ?_ _ | refine bD ?_ | refine bA ?_ _)); exact BK101.out)) : gb110 ≠ gb101)); replace BK101 := am (blk_below (g := gb101) (o := .cells #[.slice A0_0 l0_0.length c0_0, .slice A0_1 l0_1.length c0_1, .slice A0_2 l0_2.length c0_2, .int .i64 a0_3] 43 (0, 0)) (by (with_reducible repeat (first | refine bN ?_ _ | refine bD ?_ | refine bA ?_ _)); exact BK101.out) hb); clear hb hbox hg; have hnb23 := NB110_101.out; have hnc23 := NB101_110.out; have hcz24_0 : w22.cell? ⟨gb110, 0, none⟩ = some (.string (⟨#[]⟩ : ByteArray)) := (blk_cell BK110.out 0).trans rfl; have hcz24_1 : w22.cell? ⟨gb110, 1, none⟩ = some (.int .i64 0) := (blk_cell BK110.out 1).trans rfl; have hcz24_2 : w22.cell? ⟨gb110, 2, none⟩ = some (.int .i64 0) := (blk_cell BK110.out 2).trans rfl; have hcz24_3 : w22.cell? ⟨gb110, 3, none⟩ = some (.bool false) := (blk_cell BK110.out 3).trans rfl; have hfz24_0 := blk_frozen BK110.out 0; have hfz24_1 := blk_frozen BK110.out 1; have hfz24_2 := blk_frozen BK110.out 2; have hfz24_3 := blk_frozen BK110.out 3))
             have n0_ : Aside0 (Kd.S k52 52 ((((w22.setCell ⟨gb110, 0, none⟩ (.string ((rd_T54 ((rd_T52 t104 x5_1).vars) x6_2).name))).setCell ⟨gb110, 1, none⟩ (.int .i64 ((rd_T54 ((rd_T52 t104 x5_1).vars) x6_2).n))).setCell ⟨gb110, 2, none⟩ (.int .i64 ((rd_T54 ((rd_T52 t104 x5_1).vars) x6_2).last))).setCell ⟨gb110, 3, none⟩ (.bool true)) w.heap.size (fun k_ => k_ ≠ gb110) (.slice (some ad107) t104.length co13) t104) := ⟨by (with_reducible repeat (first | apply Kd.S_alloc | apply Kd.S_drewN | apply Kd.S_drew)); exact Kd.S_mono (Kd.S_far (p := ⟨gb110, 3, none⟩) (Kd.S_far (p := ⟨gb110, 2, none⟩) (Kd.S_far (p := ⟨gb110, 1, none⟩) (Kd.S_far (p := ⟨gb110, 0, none⟩) (Kd.S_mono HO_4.out (fun k_ hk => (⟨hk, hk.2⟩ : _ ∧ k_ ≠ gb110))) (fun _ hk => hk.2) _) (fun _ hk => hk.2) _) (fun _ hk => hk.2) _) (fun _ hk => hk.2) _) (fun _ hk => hk.1.2)⟩
             have n1_ : Aside0 (Kd.R k54 54 ((((w22.setCell ⟨gb110, 0, none⟩ (.string ((rd_T54 ((rd_T52 t104 x5_1).vars) x6_2).name))).setCell ⟨gb110, 1, none⟩ (.int .i64 ((rd_T54 ((rd_T52 t104 x5_1).vars) x6_2).n))).setCell ⟨gb110, 2, none⟩ (.int .i64 ((rd_T54 ((rd_T52 t104 x5_1).vars) x6_2).last))).setCell ⟨gb110, 3, none⟩ (.bool true)) w.heap.size (fun k_ => some k_ ≠ (.slice (some ad107) t104.length co13 : Value).ownBlock ∧ k_ ≠ gb110) (.slice (some ad109) ((rd_T52 t104 x5_1).vars).length c107_1) ((rd_T52 t104 x5_1).vars)) := ⟨by (with_reducible repeat (first | apply Ra | apply Rn | apply Rd)); exact Kd.R_mono (Kd.R_far (p := ⟨gb110, 3, none⟩) (Kd.R_far (p := ⟨gb110, 2, none⟩) (Kd.R_far (p := ⟨gb110, 1, none⟩) (Kd.R_far (p := ⟨gb110, 0, none⟩) (Kd.R_mono HL107_1.out (fun k_ hk => (⟨hk, hk.2⟩ : _ ∧ k_ ≠ gb110))) (fun _ hk => hk.2) _) (fun _ hk => hk.2) _) (fun _ hk => hk.2) _) (fun _ hk => hk.2) _) (fun _ hk => ⟨hk.1.1.2, hk.1.2⟩)⟩
             have n2_ : Aside0 (Kd.R k54 54 ((((w22.setCell ⟨gb110, 0, none⟩ (.string ((rd_T54 ((rd_T52 t104 x5_1).vars) x6_2).name))).setCell ⟨gb110, 1, none⟩ (.int .i64 ((rd_T54 ((rd_T52 t104 x5_1).vars) x6_2).n))).setCell ⟨gb110, 2, none⟩ (.int .i64 ((rd_T54 ((rd_T52 t104 x5_1).vars) x6_2).last))).setCell ⟨gb110, 3, none⟩ (.bool true)) w.heap.size (fun k_ => some k_ ≠ (.slice (some ad107) t104.length co13 : Value).ownBlock ∧ k_ ≠ gb110) (.slice (some ad109) ((rd_T52 t104 x5_1).vars).length c107_1) ((rd_T52 t104 x5_1).vars)) := ⟨by (with_reducible repeat (first | apply Ra | apply Rn | apply Rd)); exact Kd.R_mono (Kd.R_far (p := ⟨gb110, 3, none⟩) (Kd.R_far (p := ⟨gb110, 2, none⟩) (Kd.R_far (p := ⟨gb110, 1, none⟩) (Kd.R_far (p := ⟨gb110, 0, none⟩) (Kd.R_mono HL108_1.out (fun k_ hk => (⟨hk, hk.2⟩ : _ ∧ k_ ≠ gb110))) (fun _ hk => hk.2) _) (fun _ hk => hk.2) _) (fun _ hk => hk.2) _) (fun _ hk => hk.2) _) (fun _ hk => ⟨hk.1.1.2, hk.1.2⟩)⟩
             have n3_ : Aside0 (((((w22.setCell ⟨gb110, 0, none⟩ (.string ((rd_T54 ((rd_T52 t104 x5_1).vars) x6_2).name))).setCell ⟨gb110, 1, none⟩ (.int .i64 ((rd_T54 ((rd_T52 t104 x5_1).vars) x6_2).n))).setCell ⟨gb110, 2, none⟩ (.int .i64 ((rd_T54 ((rd_T52 t104 x5_1).vars) x6_2).last))).setCell ⟨gb110, 3, none⟩ (.bool true)).heap[gb101]? = some (.cells #[.slice A0_0 l0_0.length c0_0, .slice A0_1 l0_1.length c0_1, .slice A0_2 l0_2.length c0_2, .int .i64 a0_3] 43 (0, 0))) := ⟨by repeat (first | (with_reducible first | exact BK101.out | refine bN ?_ _ | refine bD ?_ | refine bA ?_ _) | refine blk_far ?_ NB101_110.out _ | exact BK101.out)⟩
             have n4_ : Aside0 (((((w22.setCell ⟨gb110, 0, none⟩ (.string ((rd_T54 ((rd_T52 t104 x5_1).vars) x6_2).name))).setCell ⟨gb110, 1, none⟩ (.int .i64 ((rd_T54 ((rd_T52 t104 x5_1).vars) x6_2).n))).setCell ⟨gb110, 2, none⟩ (.int .i64 ((rd_T54 ((rd_T52 t104 x5_1).vars) x6_2).last))).setCell ⟨gb110, 3, none⟩ (.bool true)).heap[gb110]? = some (.cells #[.string ((rd_T54 ((rd_T52 t104 x5_1).vars) x6_2).name), .int .i64 ((rd_T54 ((rd_T52 t104 x5_1).vars) x6_2).n), .int .i64 ((rd_T54 ((rd_T52 t104 x5_1).vars) x6_2).last), .bool true] 54 (0, 0))) := ⟨by (with_reducible repeat (first | refine bN ?_ _ | refine bD ?_ | refine bA ?_ _)); refine blk_put (cs := #[.string ((rd_T54 ((rd_T52 t104 x5_1).vars) x6_2).name), .int .i64 ((rd_T54 ((rd_T52 t104 x5_1).vars) x6_2).n), .int .i64 ((rd_T54 ((rd_T52 t104 x5_1).vars) x6_2).last), .bool false]) ?_ 3 _ rfl; (with_reducible repeat (first | refine bN ?_ _ | refine bD ?_ | refine bA ?_ _)); refine blk_put (cs := #[.string ((rd_T54 ((rd_T52 t104 x5_1).vars) x6_2).name), .int .i64 ((rd_T54 ((rd_T52 t104 x5_1).vars) x6_2).n), .int .i64 0, .bool false]) ?_ 2 _ rfl; (with_reducible repeat (first | refine bN ?_ _ | refine bD ?_ | refine bA ?_ _)); refine blk_put (cs := #[.string ((rd_T54 ((rd_T52 t104 x5_1).vars) x6_2).name), .int .i64 0, .int .i64 0, .bool false]) ?_ 1 _ rfl; (with_reducible repeat (first | refine bN ?_ _ | refine bD ?_ | refine bA ?_ _)); refine blk_put (cs := #[.string (⟨#[]⟩ : ByteArray), .int .i64 0, .int .i64 0, .bool false]) ?_ 0 _ rfl; (with_reducible repeat (first | refine bN ?_ _ | refine bD ?_ | refine bA ?_ _)); exact BK110.out⟩
             have n5_ : Aside0 (Below w.heap.size w ((((w22.setCell ⟨gb110, 0, none⟩ (.string ((rd_T54 ((rd_T52 t104 x5_1).vars) x6_2).name))).setCell ⟨gb110, 1, none⟩ (.int .i64 ((rd_T54 ((rd_T52 t104 x5_1).vars) x6_2).n))).setCell ⟨gb110, 2, none⟩ (.int .i64 ((rd_T54 ((rd_T52 t104 x5_1).vars) x6_2).last))).setCell ⟨gb110, 3, none⟩ (.bool true))) := ⟨by repeat (first | (with_reducible first | exact HB.out | apply lA | apply lN | apply lD | refine lS ?_ GE101.out | refine lS ?_ GE110.out) | exact HB.out)⟩
             (try clear HO_4)
             (try clear HL107_1)
             (try clear HL108_1)
             (try clear BK101)
             (try clear BK110)
             (try clear HB)
             generalize ((((w22.setCell ⟨gb110, 0, none⟩ (.string ((rd_T54 ((rd_T52 t104 x5_1).vars) x6_2).name))).setCell ⟨gb110, 1, none⟩ (.int .i64 ((rd_T54 ((rd_T52 t104 x5_1).vars) x6_2).n))).setCell ⟨gb110, 2, none⟩ (.int .i64 ((rd_T54 ((rd_T52 t104 x5_1).vars) x6_2).last))).setCell ⟨gb110, 3, none⟩ (.bool true)) = w25 at n0_ n1_ n2_ n3_ n4_ n5_ ⊢
             have HO_4 := n0_
             have HL107_1 := n1_
             have HL108_1 := n2_
             have BK101 := n3_
             have BK110 := n4_
             have HB := n5_
             clear n0_ n1_ n2_ n3_ n4_ n5_
             replace HO_4 := am (Kd.S_drew HO_4.out)
             replace HL107_1 := am (Kd.R_drew HL107_1.out)
             replace HL108_1 := am (Kd.R_drew HL108_1.out)
             replace BK101 := am (blk_drew BK101.out)
             replace BK110 := am (blk_drew BK110.out)
             replace HB := am (below_drew1 HB.out)
             have p111 : 0 ≤ (x5_1 : Int) := of_decide_eq_true (by first | (with_reducible assumption) | assumption)
             have q111 : x5_1 < (t104.length : Int) := of_decide_eq_true (by first | (with_reducible assumption) | assumption)
             obtain ⟨ad111, A111_1, c111_1, e111, hx111_0, hx111_1, hl111_1, hi111_1⟩ := at_T52 (Kd.S_reads' HO_4.out).2.2 x5_1 p111 q111
             obtain rfl : ad107 = ad111 := (by injection e111)
             obtain ⟨ce111, hce111, hMe111, hcc111⟩ := Kd.S_get HO_4.out z52 x5_1 p111 (by first | exact q111 | exact of_decide_eq_true (by first | (with_reducible assumption) | assumption) | (have e_ := (Kd.S_reads' HO_4.out).1; omega))
             obtain ⟨ve111_1, rfl, ge111_1⟩ := k52_openM hMe111
             have hv111_1 := hcc111 1 _ rfl
             rw [add_field _ _ 1 (by omega)] at hv111_1
             replace hv111_1 := Option.some.inj (hv111_1.symm.trans hx111_1)
             rw [hv111_1] at ge111_1
             have HL111_1 := am (show Kd.R k54 54 _ _ _ _ ((rd_T52 t104 x5_1).vars) from ge111_1)
             clear hv111_1 ge111_1
             clear hcc111 hce111
             have HR111_1 := am hi111_1
             have HC111_1 := am hl111_1
             clear hi111_1 hl111_1
             replace p111 := eq_true p111
             replace q111 := eq_true q111
             refine start_ (n := 15) (S := fun w' => w'.cell? ⟨gb110, 0, none⟩ = some (.string ((rd_T54 ((rd_T52 t104 x5_1).vars) x6_2).name)) ∧ w'.cell? ⟨gb110, 1, none⟩ = some (.int .i64 ((rd_T54 ((rd_T52 t104 x5_1).vars) x6_2).n)) ∧ w'.cell? ⟨gb110, 2, none⟩ = some (.int .i64 ((rd_T54 ((rd_T52 t104 x5_1).vars) x6_2).last)) ∧ w'.cell? ⟨gb110, 3, none⟩ = some (.bool true) ∧ w'.cell? ⟨gb101, 0, none⟩ = some (.slice A0_0 l0_0.length c0_0) ∧ w'.cell? ⟨gb101, 1, none⟩ = some (.slice A0_1 l0_1.length c0_1) ∧ w'.cell? ⟨gb101, 2, none⟩ = some (.slice A0_2 l0_2.length c0_2) ∧ w'.cell? ⟨gb101, 3, none⟩ = some (.int .i64 a0_3) ∧ w'.cell? (ad107.add ((x5_1).toNat * 2)) = some (.int .i64 ((rd_T52 t104 x5_1).place)) ∧ w'.cell? ⟨(ad107.add ((x5_1).toNat * 2)).block, (ad107.add ((x5_1).toNat * 2)).off + 1, none⟩ = some (.slice A111_1 ((rd_T52 t104 x5_1).vars).length c111_1)) (ds := []) (bl 15 0) (by kernel_rfl) rfl rfl ⟨(blk_cell BK110.out 0).trans rfl, (blk_cell BK110.out 1).trans rfl, (blk_cell BK110.out 2).trans rfl, (blk_cell BK110.out 3).trans rfl, (blk_cell BK101.out 0).trans rfl, (blk_cell BK101.out 1).trans rfl, (blk_cell BK101.out 2).trans rfl, (blk_cell BK101.out 3).trans rfl, hx111_0, hx111_1⟩ (fun hHeld => ?_); refine with_tabW lambrequinlaw22_InterpTaints.tab12 lambrequinlaw22_InterpTaints.bits12 (fun HT_ HW_ => ?_)
             generalize w25.drew = w26 at HO_4 HL107_1 HL108_1 BK101 BK110 HB HL111_1 HR111_1 hx111_0 hx111_1 hHeld ⊢
             refine pure_ (i := 0) (N := some 46) (v := ?_) (a' := ?_) (bl 15 1) rfl rfl (any_of HT_.out (by kernel_rfl)) (fun _ _ _ h => h) (Or.inl ⟨by rfl, ?_⟩) ?_ ?_
             rotate_left
             ·intro w'
              go_simp
              with_reducible rfl
             rotate_left
             ·simp only [Act.put, sA, sZ, sS, i64_w, i32_w]
              rfl
             refine take_ (i := 1) (N := some 47) (v := ?_) (a' := ?_) (bl 15 3) rfl rfl (take_ofW HT_.out HW_.out (by kernel_rfl)) (fun _ _ _ h => h) (Or.inl ⟨by rfl, ?_⟩) hHeld ?_ ?_
             rotate_left
             ·rintro w' ⟨s0, s1, s2, s3, s4, s5, s6, s7, s8, s9⟩
              go_simp
              with_reducible rfl
             rotate_left
             ·simp only [Act.put, sA, sZ, sS, i64_w, i32_w]
              rfl
             refine pure_ (i := 2) (N := some 48) (v := ?_) (a' := ?_) (bl 15 7) rfl rfl (any_of HT_.out (by kernel_rfl)) (fun _ _ _ h => h) (Or.inl ⟨by rfl, ?_⟩) ?_ ?_
             rotate_left
             ·intro w'
              go_simp
              with_reducible rfl
             rotate_left
             ·simp only [Act.put, sA, sZ, sS, i64_w, i32_w]
              rfl
             refine pure_ (i := 3) (N := some 49) (v := ?_) (a' := ?_) (bl 15 15) rfl rfl (any_of HT_.out (by kernel_rfl)) (fun _ _ _ h => h) (Or.inl ⟨by rfl, ?_⟩) ?_ ?_
             rotate_left
             ·intro w'
              go_simp
              with_reducible rfl
             rotate_left
             ·simp only [Act.put, sA, sZ, sS, i64_w, i32_w]
              rfl
             refine pure_ (i := 5) (N := some 51) (v := ?_) (a' := ?_) (bl 15 47) rfl rfl (any_of HT_.out (by kernel_rfl)) (fun _ _ _ h => h) (Or.inl ⟨by rfl, ?_⟩) ?_ ?_
             rotate_left
             ·intro w'
              go_simp
              with_reducible rfl
             rotate_left
             ·simp only [Act.put, sA, sZ, sS, i64_w, i32_w]
              rfl
             refine pure_ (i := 6) (N := some 52) (v := ?_) (a' := ?_) (bl 15 111) rfl rfl (any_of HT_.out (by kernel_rfl)) (fun _ _ _ h => h) (Or.inl ⟨by rfl, ?_⟩) ?_ ?_
             rotate_left
             ·intro w'
              go_simp
              with_reducible rfl
             rotate_left
             ·simp only [Act.put, sA, sZ, sS, i64_w, i32_w]
              rfl
             refine pure_ (i := 7) (N := some 53) (v := ?_) (a' := ?_) (bl 15 239) rfl rfl (any_of HT_.out (by kernel_rfl)) (fun _ _ _ h => h) (Or.inl ⟨by rfl, ?_⟩) ?_ ?_
             rotate_left
             ·intro w'
              go_simp
              with_reducible rfl
             rotate_left
             ·simp only [Act.put, sA, sZ, sS, i64_w, i32_w]
              rfl
             refine pure_ (i := 8) (N := some 54) (v := ?_) (a' := ?_) (bl 15 495) rfl rfl (any_of HT_.out (by kernel_rfl)) (fun _ _ _ h => h) (Or.inl ⟨by rfl, ?_⟩) ?_ ?_
             rotate_left
             ·intro w'
              go_simp
              with_reducible rfl
             rotate_left
             ·simp only [Act.put, sA, sZ, sS, i64_w, i32_w]
              rfl
             refine pure_ (i := 10) (N := some 56) (v := ?_) (a' := ?_) (bl 15 1519) rfl rfl (any_of HT_.out (by kernel_rfl)) (fun _ _ _ h => h) (Or.inl ⟨by rfl, ?_⟩) ?_ ?_
             rotate_left
             ·intro w'
              go_simp
              with_reducible rfl
             rotate_left
             ·simp only [Act.put, sA, sZ, sS, i64_w, i32_w]
              rfl
             refine take_ (i := 4) (N := some 50) (v := ?_) (a' := ?_) (bl 15 1535) rfl rfl (take_ofW HT_.out HW_.out (by kernel_rfl)) (fun _ _ _ h => h) (Or.inl ⟨by rfl, ?_⟩) hHeld ?_ ?_
             rotate_left
             ·rintro w' ⟨s0, s1, s2, s3, s4, s5, s6, s7, s8, s9⟩
              go_simp
              with_reducible rfl
             rotate_left
             ·simp only [Act.put, sA, sZ, sS, i64_w, i32_w]
              rfl
             refine take_ (i := 9) (N := some 55) (v := ?_) (a' := ?_) (bl 15 2047) rfl rfl (take_ofW HT_.out HW_.out (by kernel_rfl)) (fun _ _ _ h => h) (Or.inl ⟨by rfl, ?_⟩) hHeld ?_ ?_
             rotate_left
             ·rintro w' ⟨s0, s1, s2, s3, s4, s5, s6, s7, s8, s9⟩
              go_simp
              with_reducible rfl
             rotate_left
             ·simp only [Act.put, sA, sZ, sS, i64_w, i32_w]
              rfl
             refine take_ (i := 11) (N := some 57) (v := ?_) (a' := ?_) (bl 15 4095) rfl rfl (take_ofW HT_.out HW_.out (by kernel_rfl)) (fun _ _ _ h => h) (Or.inl ⟨by rfl, ?_⟩) hHeld ?_ ?_
             rotate_left
             ·rintro w' ⟨s0, s1, s2, s3, s4, s5, s6, s7, s8, s9⟩
              go_simp
              with_reducible rfl
             rotate_left
             ·simp only [Act.put, sA, sZ, sS, i64_w, i32_w]
              rfl
             refine one_ (i := 12) (N := some 58) (bl 15 8191) rfl rfl (one_of HT_.out (by kernel_rfl)) (by decide) (fun K hK => ?_)
             refine goes_ Try.func40 (by kernel_rfl) rfl #[.slice A0_0 l0_0.length c0_0, .int .i64 ((rd_T52 t104 x5_1).place), .string ((rd_T54 ((rd_T52 t104 x5_1).vars) x6_2).name)] (by rfl) rfl rfl (by (try simp only [List.map_toArray, List.map_cons, List.map_nil]); first | done | rfl | (simp only [List.length_drop, List.length_take]; rfl)) ?_
             with_reducible refine (cfg_Taints.calls k2 _ _ l0_0 ((rd_T52 t104 x5_1).place) ((rd_T54 ((rd_T52 t104 x5_1).vars) x6_2).name) true _ ?side1 ?side2 A20.out).mono ?_
             (case side1 => repeat (first | exact (Kd.C_below HR0_0.out HB.out) | (with_reducible refine Kd.C_alloc ?_ _) | (with_reducible refine Kd.C_drewN ?_ _) | (with_reducible refine Kd.C_drew ?_)))
             (case side2 => exact HC0_0.out)
             rintro e w27 ⟨rfl, hb⟩
             have HS8_ := (hb.cell (blt_ (hHeld.2.2.2.2.2.2.2.2.1))).trans (hHeld.2.2.2.2.2.2.2.2.1)
             have HS9_ := (hb.cell (blt_ (hHeld.2.2.2.2.2.2.2.2.2))).trans (hHeld.2.2.2.2.2.2.2.2.2)
             refine ⟨_, rfl, ?_⟩
             replace HO_4 := am (Kd.S_below (by (with_reducible repeat (first | apply Kd.S_alloc | apply Kd.S_drewN | apply Kd.S_drew)); exact HO_4.out) hb)
             replace HL107_1 := am (Kd.R_below (by (with_reducible repeat (first | apply Ra | apply Rn | apply Rd)); exact HL107_1.out) hb)
             replace HL108_1 := am (Kd.R_below (by (with_reducible repeat (first | apply Ra | apply Rn | apply Rd)); exact HL108_1.out) hb)
             replace HL111_1 := am (Kd.R_below (by (with_reducible repeat (first | apply Ra | apply Rn | apply Rd)); exact HL111_1.out) hb)
             replace BK101 := am (blk_below (g := gb101) (o := .cells #[.slice A0_0 l0_0.length c0_0, .slice A0_1 l0_1.length c0_1, .slice A0_2 l0_2.length c0_2, .int .i64 a0_3] 43 (0, 0)) (by (with_reducible repeat (first | refine bN ?_ _ | refine bD ?_ | refine bA ?_ _)); exact BK101.out) hb)
             replace BK110 := am (blk_below (g := gb110) (o := .cells #[.string ((rd_T54 ((rd_T52 t104 x5_1).vars) x6_2).name), .int .i64 ((rd_T54 ((rd_T52 t104 x5_1).vars) x6_2).n), .int .i64 ((rd_T54 ((rd_T52 t104 x5_1).vars) x6_2).last), .bool true] 54 (0, 0)) (by (with_reducible repeat (first | refine bN ?_ _ | refine bD ?_ | refine bA ?_ _)); exact BK110.out) hb)
             replace HR111_1 := am (Kd.C_below (by repeat (first | (with_reducible exact HR111_1.out) | (with_reducible refine Kd.C_alloc ?_ _) | (with_reducible refine Kd.C_drewN ?_ _) | (with_reducible refine Kd.C_drew ?_) | exact HR111_1.out)) hb)
             replace HB := am (below_step (by repeat (first | (with_reducible first | exact HB.out | apply lA | apply lN | apply lD | refine lS ?_ GE101.out | refine lS ?_ GE110.out) | exact HB.out)) hb)
             (try clear hb)
             (try clear hb2)
             (try clear hk)
             (try clear hi)
             refine hK.out _ _ ⟨(blk_cell BK110.out 0).trans rfl, (blk_cell BK110.out 1).trans rfl, (blk_cell BK110.out 2).trans rfl, (blk_cell BK110.out 3).trans rfl, (blk_cell BK101.out 0).trans rfl, (blk_cell BK101.out 1).trans rfl, (blk_cell BK101.out 2).trans rfl, (blk_cell BK101.out 3).trans rfl, HS8_, HS9_⟩ (fun hHeld => ?_)
             clear hK K
             refine norm_ (a' := ?_) ?_ ?_
             rotate_left
             ·show Act.put _ (some 58) _ = _
              simp only [Act.put, sA, sZ, sS, i64_w, i32_w]
              rfl
             refine pure_ (i := 13) (N := some 59) (v := ?_) (a' := ?_) (bl 15 16383) rfl rfl (any_of HT_.out (by kernel_rfl)) (fun _ _ _ h => h) (Or.inl ⟨by rfl, ?_⟩) ?_ ?_
             rotate_left
             ·intro w'
              go_simp
              with_reducible rfl
             rotate_left
             ·simp only [Act.put, sA, sZ, sS, i64_w, i32_w]
              rfl
             refine pure_ (i := 14) (N := some 60) (v := ?_) (a' := ?_) (bl 15 32767) rfl rfl (any_of HT_.out (by kernel_rfl)) (fun _ _ _ h => h) (Or.inl ⟨by rfl, ?_⟩) ?_ ?_
             rotate_left
             ·intro w'
              go_simp
              with_reducible rfl
             rotate_left
             ·simp only [Act.put, sA, sZ, sS, i64_w, i32_w]
              rfl
             refine done_ (done_of HT_.out (by kernel_rfl)) ?_
             try go_wp2
             go_roundg k2
             case measure => have := HK1.out; have := HK2.out; omega
             case rel => exact ⟨(wrap64 (x6_2 + 1)), (by first | rfl | (simp; done) | (simp [*]; done)), H', ⟨by have := HK1.out; have := HK2.out; omega⟩, ⟨by (with_reducible repeat (first | apply Kd.S_alloc | apply Kd.S_drewN | apply Kd.S_drew)); exact Kd.S_mono HO_4.out (fun _ hk => trivial)⟩, ⟨by (with_reducible repeat (first | refine bN ?_ _ | refine bD ?_ | refine bA ?_ _)); exact BK101.out⟩, ⟨by repeat (first | (with_reducible first | exact HB.out | apply lA | apply lN | apply lD | refine lS ?_ GE101.out | refine lS ?_ GE110.out) | exact HB.out)⟩⟩
            ·replace c21 := Bool.eq_false_iff.mpr c21
             subst c21
             have H1 : (some false) = some r := by rw [if_neg (show ¬ (false = true) by decide)] at H; exact H
             clear H
             have H := H1
             clear H1
             obtain rfl := Option.some.inj H
             have p107 : 0 ≤ (x5_1 : Int) := of_decide_eq_true (by first | (with_reducible assumption) | assumption)
             have q107 : x5_1 < (t104.length : Int) := of_decide_eq_true (by first | (with_reducible assumption) | assumption)
             obtain ⟨ad107, A107_1, c107_1, e107, hx107_0, hx107_1, hl107_1, hi107_1⟩ := at_T52 (Kd.S_reads' HO_4.out).2.2 x5_1 p107 q107
             cases e107
             obtain ⟨ce107, hce107, hMe107, hcc107⟩ := Kd.S_get HO_4.out z52 x5_1 p107 (by first | exact q107 | exact of_decide_eq_true (by first | (with_reducible assumption) | assumption) | (have e_ := (Kd.S_reads' HO_4.out).1; omega))
             obtain ⟨ve107_1, rfl, ge107_1⟩ := k52_openM hMe107
             have hv107_1 := hcc107 1 _ rfl
             rw [add_field _ _ 1 (by omega)] at hv107_1
             replace hv107_1 := Option.some.inj (hv107_1.symm.trans hx107_1)
             rw [hv107_1] at ge107_1
             have HL107_1 := am (show Kd.R k54 54 _ _ _ _ ((rd_T52 t104 x5_1).vars) from ge107_1)
             clear hv107_1 ge107_1
             clear hcc107 hce107
             have HR107_1 := am hi107_1
             have HC107_1 := am hl107_1
             clear hi107_1 hl107_1
             replace p107 := eq_true p107
             replace q107 := eq_true q107
             have p108 : 0 ≤ (x5_1 : Int) := of_decide_eq_true (by first | (with_reducible assumption) | assumption)
             have q108 : x5_1 < (t104.length : Int) := of_decide_eq_true (by first | (with_reducible assumption) | assumption)
             obtain ⟨ad108, A108_1, c108_1, e108, hx108_0, hx108_1, hl108_1, hi108_1⟩ := at_T52 (Kd.S_reads' HO_4.out).2.2 x5_1 p108 q108
             obtain rfl : ad107 = ad108 := (by injection e108)
             obtain ⟨ce108, hce108, hMe108, hcc108⟩ := Kd.S_get HO_4.out z52 x5_1 p108 (by first | exact q108 | exact of_decide_eq_true (by first | (with_reducible assumption) | assumption) | (have e_ := (Kd.S_reads' HO_4.out).1; omega))
             obtain ⟨ve108_1, rfl, ge108_1⟩ := k52_openM hMe108
             have hv108_1 := hcc108 1 _ rfl
             rw [add_field _ _ 1 (by omega)] at hv108_1
             replace hv108_1 := Option.some.inj (hv108_1.symm.trans hx108_1)
             rw [hv108_1] at ge108_1
             have HL108_1 := am (show Kd.R k54 54 _ _ _ _ ((rd_T52 t104 x5_1).vars) from ge108_1)
             clear hv108_1 ge108_1
             clear hcc108 hce108
             have HR108_1 := am hi108_1
             have HC108_1 := am hl108_1
             clear hi108_1 hl108_1
             replace p108 := eq_true p108
             replace q108 := eq_true q108
             have ea_ := Option.some.inj (hx107_1.symm.trans hx108_1)
             injection ea_ with ea_ en_ ec_
             subst ea_
             subst ec_
             clear en_
             have p109 : 0 ≤ (x6_2 : Int) := of_decide_eq_true (by first | (with_reducible assumption) | assumption)
             have q109 : x6_2 < (((rd_T52 t104 x5_1).vars).length : Int) := of_decide_eq_true (by first | (with_reducible assumption) | assumption)
             obtain ⟨ad109, e109, hx109_0, hx109_1, hx109_2, hx109_3⟩ := at_T54 (by repeat (first | (with_reducible exact HR108_1.out) | (with_reducible refine Kd.C_alloc ?_ _) | (with_reducible refine Kd.C_drewN ?_ _) | (with_reducible refine Kd.C_drew ?_) | exact HR108_1.out)) x6_2 p109 q109
             (try rw [← Nbq18.out] at hx109_3)
             cases e109
             replace p109 := eq_true p109
             replace q109 := eq_true q109
             try go_wp2_with (first | ((with_reducible refine gate_dst (N := 7) rfl ?_); refine box_event ?hg (N := 7) ?hd (cs := #[.string (⟨#[]⟩ : ByteArray), .int .i64 0, .int .i64 0, .bool false]) (t := 54) ?hr ?_; (case hd => rfl); (case hg => rfl); (case hr => first | (go_simp; done) | (go_simp; rfl)); intro gb110 hg w28 hbox hb; replace HO_4 := am (Kd.S_below (Kd.S_elderB (by (with_reducible repeat (first | apply Kd.S_alloc | apply Kd.S_drewN | apply Kd.S_drew)); exact HO_4.out) gb110 (Nat.le_of_eq hg.symm)) hb); replace HL107_1 := am (Kd.R_below (Kd.R_elderB (by (with_reducible repeat (first | apply Ra | apply Rn | apply Rd)); exact HL107_1.out) gb110 (Nat.le_of_eq hg.symm)) hb); replace HL108_1 := am (Kd.R_below (Kd.R_elderB (by (with_reducible repeat (first | apply Ra | apply Rn | apply Rd)); exact HL108_1.out) gb110 (Nat.le_of_eq hg.symm)) hb); replace HR107_1 := am (Kd.C_below (by repeat (first | (with_reducible exact HR107_1.out) | (with_reducible refine Kd.C_alloc ?_ _) | (with_reducible refine Kd.C_drewN ?_ _) | (with_reducible refine Kd.C_drew ?_) | exact HR107_1.out)) hb); replace HR108_1 := am (Kd.C_below (by repeat (first | (with_reducible exact HR108_1.out) | (with_reducible refine Kd.C_alloc ?_ _) | (with_reducible refine Kd.C_drewN ?_ _) | (with_reducible refine Kd.C_drew ?_) | exact HR108_1.out)) hb); have BK110 := am (hbox); have GW110 := am ((by rw [hg]; exact (below_size (by repeat (first | (with_reducible first | exact HB.out | apply lA | apply lN | apply lD | refine lS ?_ GE101.out) | exact HB.out))) : w.heap.size ≤ gb110)); have GE110 := am ((by rw [hg]; exact (below_size (by repeat (first | (with_reducible first | exact HB.out | apply lA | apply lN | apply lD | refine lS ?_ GE101.out) | exact HB.out))) : w.heap.size ≤ gb110)); replace HB := am (below_step (by repeat (first | (with_reducible first | exact HB.out | apply lA | apply lN | apply lD | refine lS ?_ GE101.out) | exact HB.out)) hb); have NB101_110 := am ((by rw [hg]; exact Nat.ne_of_lt (blk_lt (g := gb101) (o := .cells #[.slice A0_0 l0_0.length c0_0, .slice A0_1 l0_1.length c0_1, .slice A0_2 l0_2.length c0_2, .int .i64 a0_3] 43 (0, 0)) (by (with_reducible repeat (first | refine bN ?_ _ | refine bD ?_ | refine bA ?_ _)); exact BK101.out)) : gb101 ≠ gb110)); have NB110_101 := am ((by rw [hg]; exact Nat.ne_of_gt (blk_lt (g := gb101) (o := .cells #[.slice A0_0 l0_0.length c0_0, .slice A0_1 l0_1.length c0_1, .slice A0_2 l0_2.length c0_2, .int .i64 a0_3] 43 (0, 0)) (by (with_reducible repeat (first | refine bN ?_ _ | refine bD ?_ | refine bA ?_ _)); exact BK101.out)) : gb110 ≠ gb101)); replace BK101 := am (blk_below (g := gb101) (o := .cells #[.slice A0_0 l0_0.length c0_0, .slice A0_1 l0_1.length c0_1, .slice A0_2 l0_2.length c0_2, .int .i64 a0_3] 43 (0, 0)) (by (with_reducible repeat (first | refine bN ?_ _ | refine bD ?_ | refine bA ?_ _)); exact BK101.out) hb); clear hb hbox hg; have hnb29 := NB110_101.out; have hnc29 := NB101_110.out; have hcz30_0 : w28.cell? ⟨gb110, 0, none⟩ = some (.string (⟨#[]⟩ : ByteArray)) := (blk_cell BK110.out 0).trans rfl; have hcz30_1 : w28.cell? ⟨gb110, 1, none⟩ = some (.int .i64 0) := (blk_cell BK110.out 1).trans rfl; have hcz30_2 : w28.cell? ⟨gb110, 2, none⟩ = some (.int .i64 0) := (blk_cell BK110.out 2).trans rfl; have hcz30_3 : w28.cell? ⟨gb110, 3, none⟩ = some (.bool false) := (blk_cell BK110.out 3).trans rfl; have hfz30_0 := blk_frozen BK110.out 0; have hfz30_1 := blk_frozen BK110.out 1; have hfz30_2 := blk_frozen BK110.out 2; have hfz30_3 := blk_frozen BK110.out 3))
             have n0_ : Aside0 (Kd.S k52 52 ((((w28.setCell ⟨gb110, 0, none⟩ (.string ((rd_T54 ((rd_T52 t104 x5_1).vars) x6_2).name))).setCell ⟨gb110, 1, none⟩ (.int .i64 ((rd_T54 ((rd_T52 t104 x5_1).vars) x6_2).n))).setCell ⟨gb110, 2, none⟩ (.int .i64 ((rd_T54 ((rd_T52 t104 x5_1).vars) x6_2).last))).setCell ⟨gb110, 3, none⟩ (.bool true)) w.heap.size (fun k_ => k_ ≠ gb110) (.slice (some ad107) t104.length co13) t104) := ⟨by (with_reducible repeat (first | apply Kd.S_alloc | apply Kd.S_drewN | apply Kd.S_drew)); exact Kd.S_mono (Kd.S_far (p := ⟨gb110, 3, none⟩) (Kd.S_far (p := ⟨gb110, 2, none⟩) (Kd.S_far (p := ⟨gb110, 1, none⟩) (Kd.S_far (p := ⟨gb110, 0, none⟩) (Kd.S_mono HO_4.out (fun k_ hk => (⟨hk, hk.2⟩ : _ ∧ k_ ≠ gb110))) (fun _ hk => hk.2) _) (fun _ hk => hk.2) _) (fun _ hk => hk.2) _) (fun _ hk => hk.2) _) (fun _ hk => hk.1.2)⟩
             have n1_ : Aside0 (Kd.R k54 54 ((((w28.setCell ⟨gb110, 0, none⟩ (.string ((rd_T54 ((rd_T52 t104 x5_1).vars) x6_2).name))).setCell ⟨gb110, 1, none⟩ (.int .i64 ((rd_T54 ((rd_T52 t104 x5_1).vars) x6_2).n))).setCell ⟨gb110, 2, none⟩ (.int .i64 ((rd_T54 ((rd_T52 t104 x5_1).vars) x6_2).last))).setCell ⟨gb110, 3, none⟩ (.bool true)) w.heap.size (fun k_ => some k_ ≠ (.slice (some ad107) t104.length co13 : Value).ownBlock ∧ k_ ≠ gb110) (.slice (some ad109) ((rd_T52 t104 x5_1).vars).length c107_1) ((rd_T52 t104 x5_1).vars)) := ⟨by (with_reducible repeat (first | apply Ra | apply Rn | apply Rd)); exact Kd.R_mono (Kd.R_far (p := ⟨gb110, 3, none⟩) (Kd.R_far (p := ⟨gb110, 2, none⟩) (Kd.R_far (p := ⟨gb110, 1, none⟩) (Kd.R_far (p := ⟨gb110, 0, none⟩) (Kd.R_mono HL107_1.out (fun k_ hk => (⟨hk, hk.2⟩ : _ ∧ k_ ≠ gb110))) (fun _ hk => hk.2) _) (fun _ hk => hk.2) _) (fun _ hk => hk.2) _) (fun _ hk => hk.2) _) (fun _ hk => ⟨hk.1.1.2, hk.1.2⟩)⟩
             have n2_ : Aside0 (Kd.R k54 54 ((((w28.setCell ⟨gb110, 0, none⟩ (.string ((rd_T54 ((rd_T52 t104 x5_1).vars) x6_2).name))).setCell ⟨gb110, 1, none⟩ (.int .i64 ((rd_T54 ((rd_T52 t104 x5_1).vars) x6_2).n))).setCell ⟨gb110, 2, none⟩ (.int .i64 ((rd_T54 ((rd_T52 t104 x5_1).vars) x6_2).last))).setCell ⟨gb110, 3, none⟩ (.bool true)) w.heap.size (fun k_ => some k_ ≠ (.slice (some ad107) t104.length co13 : Value).ownBlock ∧ k_ ≠ gb110) (.slice (some ad109) ((rd_T52 t104 x5_1).vars).length c107_1) ((rd_T52 t104 x5_1).vars)) := ⟨by (with_reducible repeat (first | apply Ra | apply Rn | apply Rd)); exact Kd.R_mono (Kd.R_far (p := ⟨gb110, 3, none⟩) (Kd.R_far (p := ⟨gb110, 2, none⟩) (Kd.R_far (p := ⟨gb110, 1, none⟩) (Kd.R_far (p := ⟨gb110, 0, none⟩) (Kd.R_mono HL108_1.out (fun k_ hk => (⟨hk, hk.2⟩ : _ ∧ k_ ≠ gb110))) (fun _ hk => hk.2) _) (fun _ hk => hk.2) _) (fun _ hk => hk.2) _) (fun _ hk => hk.2) _) (fun _ hk => ⟨hk.1.1.2, hk.1.2⟩)⟩
             have n3_ : Aside0 (((((w28.setCell ⟨gb110, 0, none⟩ (.string ((rd_T54 ((rd_T52 t104 x5_1).vars) x6_2).name))).setCell ⟨gb110, 1, none⟩ (.int .i64 ((rd_T54 ((rd_T52 t104 x5_1).vars) x6_2).n))).setCell ⟨gb110, 2, none⟩ (.int .i64 ((rd_T54 ((rd_T52 t104 x5_1).vars) x6_2).last))).setCell ⟨gb110, 3, none⟩ (.bool true)).heap[gb101]? = some (.cells #[.slice A0_0 l0_0.length c0_0, .slice A0_1 l0_1.length c0_1, .slice A0_2 l0_2.length c0_2, .int .i64 a0_3] 43 (0, 0))) := ⟨by repeat (first | (with_reducible first | exact BK101.out | refine bN ?_ _ | refine bD ?_ | refine bA ?_ _) | refine blk_far ?_ NB101_110.out _ | exact BK101.out)⟩
             have n4_ : Aside0 (((((w28.setCell ⟨gb110, 0, none⟩ (.string ((rd_T54 ((rd_T52 t104 x5_1).vars) x6_2).name))).setCell ⟨gb110, 1, none⟩ (.int .i64 ((rd_T54 ((rd_T52 t104 x5_1).vars) x6_2).n))).setCell ⟨gb110, 2, none⟩ (.int .i64 ((rd_T54 ((rd_T52 t104 x5_1).vars) x6_2).last))).setCell ⟨gb110, 3, none⟩ (.bool true)).heap[gb110]? = some (.cells #[.string ((rd_T54 ((rd_T52 t104 x5_1).vars) x6_2).name), .int .i64 ((rd_T54 ((rd_T52 t104 x5_1).vars) x6_2).n), .int .i64 ((rd_T54 ((rd_T52 t104 x5_1).vars) x6_2).last), .bool true] 54 (0, 0))) := ⟨by (with_reducible repeat (first | refine bN ?_ _ | refine bD ?_ | refine bA ?_ _)); refine blk_put (cs := #[.string ((rd_T54 ((rd_T52 t104 x5_1).vars) x6_2).name), .int .i64 ((rd_T54 ((rd_T52 t104 x5_1).vars) x6_2).n), .int .i64 ((rd_T54 ((rd_T52 t104 x5_1).vars) x6_2).last), .bool false]) ?_ 3 _ rfl; (with_reducible repeat (first | refine bN ?_ _ | refine bD ?_ | refine bA ?_ _)); refine blk_put (cs := #[.string ((rd_T54 ((rd_T52 t104 x5_1).vars) x6_2).name), .int .i64 ((rd_T54 ((rd_T52 t104 x5_1).vars) x6_2).n), .int .i64 0, .bool false]) ?_ 2 _ rfl; (with_reducible repeat (first | refine bN ?_ _ | refine bD ?_ | refine bA ?_ _)); refine blk_put (cs := #[.string ((rd_T54 ((rd_T52 t104 x5_1).vars) x6_2).name), .int .i64 0, .int .i64 0, .bool false]) ?_ 1 _ rfl; (with_reducible repeat (first | refine bN ?_ _ | refine bD ?_ | refine bA ?_ _)); refine blk_put (cs := #[.string (⟨#[]⟩ : ByteArray), .int .i64 0, .int .i64 0, .bool false]) ?_ 0 _ rfl; (with_reducible repeat (first | refine bN ?_ _ | refine bD ?_ | refine bA ?_ _)); exact BK110.out⟩
             have n5_ : Aside0 (Below w.heap.size w ((((w28.setCell ⟨gb110, 0, none⟩ (.string ((rd_T54 ((rd_T52 t104 x5_1).vars) x6_2).name))).setCell ⟨gb110, 1, none⟩ (.int .i64 ((rd_T54 ((rd_T52 t104 x5_1).vars) x6_2).n))).setCell ⟨gb110, 2, none⟩ (.int .i64 ((rd_T54 ((rd_T52 t104 x5_1).vars) x6_2).last))).setCell ⟨gb110, 3, none⟩ (.bool true))) := ⟨by repeat (first | (with_reducible first | exact HB.out | apply lA | apply lN | apply lD | refine lS ?_ GE101.out | refine lS ?_ GE110.out) | exact HB.out)⟩
             (try clear HO_4)
             (try clear HL107_1)
             (try clear HL108_1)
             (try clear BK101)
             (try clear BK110)
             (try clear HB)
             generalize ((((w28.setCell ⟨gb110, 0, none⟩ (.string ((rd_T54 ((rd_T52 t104 x5_1).vars) x6_2).name))).setCell ⟨gb110, 1, none⟩ (.int .i64 ((rd_T54 ((rd_T52 t104 x5_1).vars) x6_2).n))).setCell ⟨gb110, 2, none⟩ (.int .i64 ((rd_T54 ((rd_T52 t104 x5_1).vars) x6_2).last))).setCell ⟨gb110, 3, none⟩ (.bool true)) = w31 at n0_ n1_ n2_ n3_ n4_ n5_ ⊢
             have HO_4 := n0_
             have HL107_1 := n1_
             have HL108_1 := n2_
             have BK101 := n3_
             have BK110 := n4_
             have HB := n5_
             clear n0_ n1_ n2_ n3_ n4_ n5_
             replace HO_4 := am (Kd.S_drew HO_4.out)
             replace HL107_1 := am (Kd.R_drew HL107_1.out)
             replace HL108_1 := am (Kd.R_drew HL108_1.out)
             replace BK101 := am (blk_drew BK101.out)
             replace BK110 := am (blk_drew BK110.out)
             replace HB := am (below_drew1 HB.out)
             have p111 : 0 ≤ (x5_1 : Int) := of_decide_eq_true (by first | (with_reducible assumption) | assumption)
             have q111 : x5_1 < (t104.length : Int) := of_decide_eq_true (by first | (with_reducible assumption) | assumption)
             obtain ⟨ad111, A111_1, c111_1, e111, hx111_0, hx111_1, hl111_1, hi111_1⟩ := at_T52 (Kd.S_reads' HO_4.out).2.2 x5_1 p111 q111
             obtain rfl : ad107 = ad111 := (by injection e111)
             obtain ⟨ce111, hce111, hMe111, hcc111⟩ := Kd.S_get HO_4.out z52 x5_1 p111 (by first | exact q111 | exact of_decide_eq_true (by first | (with_reducible assumption) | assumption) | (have e_ := (Kd.S_reads' HO_4.out).1; omega))
             obtain ⟨ve111_1, rfl, ge111_1⟩ := k52_openM hMe111
             have hv111_1 := hcc111 1 _ rfl
             rw [add_field _ _ 1 (by omega)] at hv111_1
             replace hv111_1 := Option.some.inj (hv111_1.symm.trans hx111_1)
             rw [hv111_1] at ge111_1
             have HL111_1 := am (show Kd.R k54 54 _ _ _ _ ((rd_T52 t104 x5_1).vars) from ge111_1)
             clear hv111_1 ge111_1
             clear hcc111 hce111
             have HR111_1 := am hi111_1
             have HC111_1 := am hl111_1
             clear hi111_1 hl111_1
             replace p111 := eq_true p111
             replace q111 := eq_true q111
             refine start_ (n := 15) (S := fun w' => w'.cell? ⟨gb110, 0, none⟩ = some (.string ((rd_T54 ((rd_T52 t104 x5_1).vars) x6_2).name)) ∧ w'.cell? ⟨gb110, 1, none⟩ = some (.int .i64 ((rd_T54 ((rd_T52 t104 x5_1).vars) x6_2).n)) ∧ w'.cell? ⟨gb110, 2, none⟩ = some (.int .i64 ((rd_T54 ((rd_T52 t104 x5_1).vars) x6_2).last)) ∧ w'.cell? ⟨gb110, 3, none⟩ = some (.bool true) ∧ w'.cell? ⟨gb101, 0, none⟩ = some (.slice A0_0 l0_0.length c0_0) ∧ w'.cell? ⟨gb101, 1, none⟩ = some (.slice A0_1 l0_1.length c0_1) ∧ w'.cell? ⟨gb101, 2, none⟩ = some (.slice A0_2 l0_2.length c0_2) ∧ w'.cell? ⟨gb101, 3, none⟩ = some (.int .i64 a0_3) ∧ w'.cell? (ad107.add ((x5_1).toNat * 2)) = some (.int .i64 ((rd_T52 t104 x5_1).place)) ∧ w'.cell? ⟨(ad107.add ((x5_1).toNat * 2)).block, (ad107.add ((x5_1).toNat * 2)).off + 1, none⟩ = some (.slice A111_1 ((rd_T52 t104 x5_1).vars).length c111_1)) (ds := []) (bl 15 0) (by kernel_rfl) rfl rfl ⟨(blk_cell BK110.out 0).trans rfl, (blk_cell BK110.out 1).trans rfl, (blk_cell BK110.out 2).trans rfl, (blk_cell BK110.out 3).trans rfl, (blk_cell BK101.out 0).trans rfl, (blk_cell BK101.out 1).trans rfl, (blk_cell BK101.out 2).trans rfl, (blk_cell BK101.out 3).trans rfl, hx111_0, hx111_1⟩ (fun hHeld => ?_); refine with_tabW lambrequinlaw22_InterpTaints.tab12 lambrequinlaw22_InterpTaints.bits12 (fun HT_ HW_ => ?_)
             generalize w31.drew = w32 at HO_4 HL107_1 HL108_1 BK101 BK110 HB HL111_1 HR111_1 hx111_0 hx111_1 hHeld ⊢
             refine pure_ (i := 0) (N := some 46) (v := ?_) (a' := ?_) (bl 15 1) rfl rfl (any_of HT_.out (by kernel_rfl)) (fun _ _ _ h => h) (Or.inl ⟨by rfl, ?_⟩) ?_ ?_
             rotate_left
             ·intro w'
              go_simp
              with_reducible rfl
             rotate_left
             ·simp only [Act.put, sA, sZ, sS, i64_w, i32_w]
              rfl
             refine take_ (i := 1) (N := some 47) (v := ?_) (a' := ?_) (bl 15 3) rfl rfl (take_ofW HT_.out HW_.out (by kernel_rfl)) (fun _ _ _ h => h) (Or.inl ⟨by rfl, ?_⟩) hHeld ?_ ?_
             rotate_left
             ·rintro w' ⟨s0, s1, s2, s3, s4, s5, s6, s7, s8, s9⟩
              go_simp
              with_reducible rfl
             rotate_left
             ·simp only [Act.put, sA, sZ, sS, i64_w, i32_w]
              rfl
             refine pure_ (i := 2) (N := some 48) (v := ?_) (a' := ?_) (bl 15 7) rfl rfl (any_of HT_.out (by kernel_rfl)) (fun _ _ _ h => h) (Or.inl ⟨by rfl, ?_⟩) ?_ ?_
             rotate_left
             ·intro w'
              go_simp
              with_reducible rfl
             rotate_left
             ·simp only [Act.put, sA, sZ, sS, i64_w, i32_w]
              rfl
             refine pure_ (i := 3) (N := some 49) (v := ?_) (a' := ?_) (bl 15 15) rfl rfl (any_of HT_.out (by kernel_rfl)) (fun _ _ _ h => h) (Or.inl ⟨by rfl, ?_⟩) ?_ ?_
             rotate_left
             ·intro w'
              go_simp
              with_reducible rfl
             rotate_left
             ·simp only [Act.put, sA, sZ, sS, i64_w, i32_w]
              rfl
             refine pure_ (i := 5) (N := some 51) (v := ?_) (a' := ?_) (bl 15 47) rfl rfl (any_of HT_.out (by kernel_rfl)) (fun _ _ _ h => h) (Or.inl ⟨by rfl, ?_⟩) ?_ ?_
             rotate_left
             ·intro w'
              go_simp
              with_reducible rfl
             rotate_left
             ·simp only [Act.put, sA, sZ, sS, i64_w, i32_w]
              rfl
             refine pure_ (i := 6) (N := some 52) (v := ?_) (a' := ?_) (bl 15 111) rfl rfl (any_of HT_.out (by kernel_rfl)) (fun _ _ _ h => h) (Or.inl ⟨by rfl, ?_⟩) ?_ ?_
             rotate_left
             ·intro w'
              go_simp
              with_reducible rfl
             rotate_left
             ·simp only [Act.put, sA, sZ, sS, i64_w, i32_w]
              rfl
             refine pure_ (i := 7) (N := some 53) (v := ?_) (a' := ?_) (bl 15 239) rfl rfl (any_of HT_.out (by kernel_rfl)) (fun _ _ _ h => h) (Or.inl ⟨by rfl, ?_⟩) ?_ ?_
             rotate_left
             ·intro w'
              go_simp
              with_reducible rfl
             rotate_left
             ·simp only [Act.put, sA, sZ, sS, i64_w, i32_w]
              rfl
             refine pure_ (i := 8) (N := some 54) (v := ?_) (a' := ?_) (bl 15 495) rfl rfl (any_of HT_.out (by kernel_rfl)) (fun _ _ _ h => h) (Or.inl ⟨by rfl, ?_⟩) ?_ ?_
             rotate_left
             ·intro w'
              go_simp
              with_reducible rfl
             rotate_left
             ·simp only [Act.put, sA, sZ, sS, i64_w, i32_w]
              rfl
             refine pure_ (i := 10) (N := some 56) (v := ?_) (a' := ?_) (bl 15 1519) rfl rfl (any_of HT_.out (by kernel_rfl)) (fun _ _ _ h => h) (Or.inl ⟨by rfl, ?_⟩) ?_ ?_
             rotate_left
             ·intro w'
              go_simp
              with_reducible rfl
             rotate_left
             ·simp only [Act.put, sA, sZ, sS, i64_w, i32_w]
              rfl
             refine take_ (i := 4) (N := some 50) (v := ?_) (a' := ?_) (bl 15 1535) rfl rfl (take_ofW HT_.out HW_.out (by kernel_rfl)) (fun _ _ _ h => h) (Or.inl ⟨by rfl, ?_⟩) hHeld ?_ ?_
             rotate_left
             ·rintro w' ⟨s0, s1, s2, s3, s4, s5, s6, s7, s8, s9⟩
              go_simp
              with_reducible rfl
             rotate_left
             ·simp only [Act.put, sA, sZ, sS, i64_w, i32_w]
              rfl
             refine take_ (i := 9) (N := some 55) (v := ?_) (a' := ?_) (bl 15 2047) rfl rfl (take_ofW HT_.out HW_.out (by kernel_rfl)) (fun _ _ _ h => h) (Or.inl ⟨by rfl, ?_⟩) hHeld ?_ ?_
             rotate_left
             ·rintro w' ⟨s0, s1, s2, s3, s4, s5, s6, s7, s8, s9⟩
              go_simp
              with_reducible rfl
             rotate_left
             ·simp only [Act.put, sA, sZ, sS, i64_w, i32_w]
              rfl
             refine take_ (i := 11) (N := some 57) (v := ?_) (a' := ?_) (bl 15 4095) rfl rfl (take_ofW HT_.out HW_.out (by kernel_rfl)) (fun _ _ _ h => h) (Or.inl ⟨by rfl, ?_⟩) hHeld ?_ ?_
             rotate_left
             ·rintro w' ⟨s0, s1, s2, s3, s4, s5, s6, s7, s8, s9⟩
              go_simp
              with_reducible rfl
             rotate_left
             ·simp only [Act.put, sA, sZ, sS, i64_w, i32_w]
              rfl
             refine one_ (i := 12) (N := some 58) (bl 15 8191) rfl rfl (one_of HT_.out (by kernel_rfl)) (by decide) (fun K hK => ?_)
             refine goes_ Try.func40 (by kernel_rfl) rfl #[.slice A0_0 l0_0.length c0_0, .int .i64 ((rd_T52 t104 x5_1).place), .string ((rd_T54 ((rd_T52 t104 x5_1).vars) x6_2).name)] (by rfl) rfl rfl (by (try simp only [List.map_toArray, List.map_cons, List.map_nil]); first | done | rfl | (simp only [List.length_drop, List.length_take]; rfl)) ?_
             with_reducible refine (cfg_Taints.calls k2 _ _ l0_0 ((rd_T52 t104 x5_1).place) ((rd_T54 ((rd_T52 t104 x5_1).vars) x6_2).name) false _ ?side1 ?side2 A20.out).mono ?_
             (case side1 => repeat (first | exact (Kd.C_below HR0_0.out HB.out) | (with_reducible refine Kd.C_alloc ?_ _) | (with_reducible refine Kd.C_drewN ?_ _) | (with_reducible refine Kd.C_drew ?_)))
             (case side2 => exact HC0_0.out)
             rintro e w33 ⟨rfl, hb⟩
             have HS8_ := (hb.cell (blt_ (hHeld.2.2.2.2.2.2.2.2.1))).trans (hHeld.2.2.2.2.2.2.2.2.1)
             have HS9_ := (hb.cell (blt_ (hHeld.2.2.2.2.2.2.2.2.2))).trans (hHeld.2.2.2.2.2.2.2.2.2)
             refine ⟨_, rfl, ?_⟩
             replace HO_4 := am (Kd.S_below (by (with_reducible repeat (first | apply Kd.S_alloc | apply Kd.S_drewN | apply Kd.S_drew)); exact HO_4.out) hb)
             replace HL107_1 := am (Kd.R_below (by (with_reducible repeat (first | apply Ra | apply Rn | apply Rd)); exact HL107_1.out) hb)
             replace HL108_1 := am (Kd.R_below (by (with_reducible repeat (first | apply Ra | apply Rn | apply Rd)); exact HL108_1.out) hb)
             replace HL111_1 := am (Kd.R_below (by (with_reducible repeat (first | apply Ra | apply Rn | apply Rd)); exact HL111_1.out) hb)
             replace BK101 := am (blk_below (g := gb101) (o := .cells #[.slice A0_0 l0_0.length c0_0, .slice A0_1 l0_1.length c0_1, .slice A0_2 l0_2.length c0_2, .int .i64 a0_3] 43 (0, 0)) (by (with_reducible repeat (first | refine bN ?_ _ | refine bD ?_ | refine bA ?_ _)); exact BK101.out) hb)
             replace BK110 := am (blk_below (g := gb110) (o := .cells #[.string ((rd_T54 ((rd_T52 t104 x5_1).vars) x6_2).name), .int .i64 ((rd_T54 ((rd_T52 t104 x5_1).vars) x6_2).n), .int .i64 ((rd_T54 ((rd_T52 t104 x5_1).vars) x6_2).last), .bool true] 54 (0, 0)) (by (with_reducible repeat (first | refine bN ?_ _ | refine bD ?_ | refine bA ?_ _)); exact BK110.out) hb)
             replace HR111_1 := am (Kd.C_below (by repeat (first | (with_reducible exact HR111_1.out) | (with_reducible refine Kd.C_alloc ?_ _) | (with_reducible refine Kd.C_drewN ?_ _) | (with_reducible refine Kd.C_drew ?_) | exact HR111_1.out)) hb)
             replace HB := am (below_step (by repeat (first | (with_reducible first | exact HB.out | apply lA | apply lN | apply lD | refine lS ?_ GE101.out | refine lS ?_ GE110.out) | exact HB.out)) hb)
             (try clear hb)
             (try clear hb2)
             (try clear hk)
             (try clear hi)
             refine hK.out _ _ ⟨(blk_cell BK110.out 0).trans rfl, (blk_cell BK110.out 1).trans rfl, (blk_cell BK110.out 2).trans rfl, (blk_cell BK110.out 3).trans rfl, (blk_cell BK101.out 0).trans rfl, (blk_cell BK101.out 1).trans rfl, (blk_cell BK101.out 2).trans rfl, (blk_cell BK101.out 3).trans rfl, HS8_, HS9_⟩ (fun hHeld => ?_)
             clear hK K
             refine norm_ (a' := ?_) ?_ ?_
             rotate_left
             ·show Act.put _ (some 58) _ = _
              simp only [Act.put, sA, sZ, sS, i64_w, i32_w]
              rfl
             refine pure_ (i := 13) (N := some 59) (v := ?_) (a' := ?_) (bl 15 16383) rfl rfl (any_of HT_.out (by kernel_rfl)) (fun _ _ _ h => h) (Or.inl ⟨by rfl, ?_⟩) ?_ ?_
             rotate_left
             ·intro w'
              go_simp
              with_reducible rfl
             rotate_left
             ·simp only [Act.put, sA, sZ, sS, i64_w, i32_w]
              rfl
             refine pure_ (i := 14) (N := some 60) (v := ?_) (a' := ?_) (bl 15 32767) rfl rfl (any_of HT_.out (by kernel_rfl)) (fun _ _ _ h => h) (Or.inl ⟨by rfl, ?_⟩) ?_ ?_
             rotate_left
             ·intro w'
              go_simp
              with_reducible rfl
             rotate_left
             ·simp only [Act.put, sA, sZ, sS, i64_w, i32_w]
              rfl
             refine done_ (done_of HT_.out (by kernel_rfl)) ?_
             try go_wp2
             go_ret
             exact ⟨by first | rfl | (simp [errW_none, errW_some] <;> rfl) | (simp [*, errW_none, errW_some] <;> rfl), by repeat (first | (with_reducible first | exact HB.out | apply lA | apply lN | apply lD | refine lS ?_ GE101.out | refine lS ?_ GE110.out) | exact HB.out)⟩
           ·replace c19 := Bool.eq_false_iff.mpr c19
            subst c19
            have H1 : (lambrequinlaw22_InterpTaints.l1 k2 t102 t104 x5_1 (wrap64 (x6_2 + 1)) l0_0 l0_1 l0_2 a0_3) = some r := by rw [if_neg (show ¬ (false = true) by decide)] at H; exact H
            clear H
            have H := H1
            clear H1
            have H' := am H
            clear H
            have p107 : 0 ≤ (x5_1 : Int) := of_decide_eq_true (by first | (with_reducible assumption) | assumption)
            have q107 : x5_1 < (t104.length : Int) := of_decide_eq_true (by first | (with_reducible assumption) | assumption)
            obtain ⟨ad107, A107_1, c107_1, e107, hx107_0, hx107_1, hl107_1, hi107_1⟩ := at_T52 (Kd.S_reads' HO_4.out).2.2 x5_1 p107 q107
            cases e107
            obtain ⟨ce107, hce107, hMe107, hcc107⟩ := Kd.S_get HO_4.out z52 x5_1 p107 (by first | exact q107 | exact of_decide_eq_true (by first | (with_reducible assumption) | assumption) | (have e_ := (Kd.S_reads' HO_4.out).1; omega))
            obtain ⟨ve107_1, rfl, ge107_1⟩ := k52_openM hMe107
            have hv107_1 := hcc107 1 _ rfl
            rw [add_field _ _ 1 (by omega)] at hv107_1
            replace hv107_1 := Option.some.inj (hv107_1.symm.trans hx107_1)
            rw [hv107_1] at ge107_1
            have HL107_1 := am (show Kd.R k54 54 _ _ _ _ ((rd_T52 t104 x5_1).vars) from ge107_1)
            clear hv107_1 ge107_1
            clear hcc107 hce107
            have HR107_1 := am hi107_1
            have HC107_1 := am hl107_1
            clear hi107_1 hl107_1
            replace p107 := eq_true p107
            replace q107 := eq_true q107
            have p108 : 0 ≤ (x5_1 : Int) := of_decide_eq_true (by first | (with_reducible assumption) | assumption)
            have q108 : x5_1 < (t104.length : Int) := of_decide_eq_true (by first | (with_reducible assumption) | assumption)
            obtain ⟨ad108, A108_1, c108_1, e108, hx108_0, hx108_1, hl108_1, hi108_1⟩ := at_T52 (Kd.S_reads' HO_4.out).2.2 x5_1 p108 q108
            obtain rfl : ad107 = ad108 := (by injection e108)
            obtain ⟨ce108, hce108, hMe108, hcc108⟩ := Kd.S_get HO_4.out z52 x5_1 p108 (by first | exact q108 | exact of_decide_eq_true (by first | (with_reducible assumption) | assumption) | (have e_ := (Kd.S_reads' HO_4.out).1; omega))
            obtain ⟨ve108_1, rfl, ge108_1⟩ := k52_openM hMe108
            have hv108_1 := hcc108 1 _ rfl
            rw [add_field _ _ 1 (by omega)] at hv108_1
            replace hv108_1 := Option.some.inj (hv108_1.symm.trans hx108_1)
            rw [hv108_1] at ge108_1
            have HL108_1 := am (show Kd.R k54 54 _ _ _ _ ((rd_T52 t104 x5_1).vars) from ge108_1)
            clear hv108_1 ge108_1
            clear hcc108 hce108
            have HR108_1 := am hi108_1
            have HC108_1 := am hl108_1
            clear hi108_1 hl108_1
            replace p108 := eq_true p108
            replace q108 := eq_true q108
            have ea_ := Option.some.inj (hx107_1.symm.trans hx108_1)
            injection ea_ with ea_ en_ ec_
            subst ea_
            subst ec_
            clear en_
            have p109 : 0 ≤ (x6_2 : Int) := of_decide_eq_true (by first | (with_reducible assumption) | assumption)
            have q109 : x6_2 < (((rd_T52 t104 x5_1).vars).length : Int) := of_decide_eq_true (by first | (with_reducible assumption) | assumption)
            obtain ⟨ad109, e109, hx109_0, hx109_1, hx109_2, hx109_3⟩ := at_T54 (by repeat (first | (with_reducible exact HR108_1.out) | (with_reducible refine Kd.C_alloc ?_ _) | (with_reducible refine Kd.C_drewN ?_ _) | (with_reducible refine Kd.C_drew ?_) | exact HR108_1.out)) x6_2 p109 q109
            (try rw [← Nbq18.out] at hx109_3)
            cases e109
            replace p109 := eq_true p109
            replace q109 := eq_true q109
            try go_wp2_with (first | ((with_reducible refine gate_dst (N := 7) rfl ?_); refine box_event ?hg (N := 7) ?hd (cs := #[.string (⟨#[]⟩ : ByteArray), .int .i64 0, .int .i64 0, .bool false]) (t := 54) ?hr ?_; (case hd => rfl); (case hg => rfl); (case hr => first | (go_simp; done) | (go_simp; rfl)); intro gb110 hg w34 hbox hb; replace HO_4 := am (Kd.S_below (Kd.S_elderB (by (with_reducible repeat (first | apply Kd.S_alloc | apply Kd.S_drewN | apply Kd.S_drew)); exact HO_4.out) gb110 (Nat.le_of_eq hg.symm)) hb); replace HL107_1 := am (Kd.R_below (Kd.R_elderB (by (with_reducible repeat (first | apply Ra | apply Rn | apply Rd)); exact HL107_1.out) gb110 (Nat.le_of_eq hg.symm)) hb); replace HL108_1 := am (Kd.R_below (Kd.R_elderB (by (with_reducible repeat (first | apply Ra | apply Rn | apply Rd)); exact HL108_1.out) gb110 (Nat.le_of_eq hg.symm)) hb); replace HR107_1 := am (Kd.C_below (by repeat (first | (with_reducible exact HR107_1.out) | (with_reducible refine Kd.C_alloc ?_ _) | (with_reducible refine Kd.C_drewN ?_ _) | (with_reducible refine Kd.C_drew ?_) | exact HR107_1.out)) hb); replace HR108_1 := am (Kd.C_below (by repeat (first | (with_reducible exact HR108_1.out) | (with_reducible refine Kd.C_alloc ?_ _) | (with_reducible refine Kd.C_drewN ?_ _) | (with_reducible refine Kd.C_drew ?_) | exact HR108_1.out)) hb); have BK110 := am (hbox); have GW110 := am ((by rw [hg]; exact (below_size (by repeat (first | (with_reducible first | exact HB.out | apply lA | apply lN | apply lD | refine lS ?_ GE101.out) | exact HB.out))) : w.heap.size ≤ gb110)); have GE110 := am ((by rw [hg]; exact (below_size (by repeat (first | (with_reducible first | exact HB.out | apply lA | apply lN | apply lD | refine lS ?_ GE101.out) | exact HB.out))) : w.heap.size ≤ gb110)); replace HB := am (below_step (by repeat (first | (with_reducible first | exact HB.out | apply lA | apply lN | apply lD | refine lS ?_ GE101.out) | exact HB.out)) hb); have NB101_110 := am ((by rw [hg]; exact Nat.ne_of_lt (blk_lt (g := gb101) (o := .cells #[.slice A0_0 l0_0.length c0_0, .slice A0_1 l0_1.length c0_1, .slice A0_2 l0_2.length c0_2, .int .i64 a0_3] 43 (0, 0)) (by (with_reducible repeat (first | refine bN ?_ _ | refine bD ?_ | refine bA ?_ _)); exact BK101.out)) : gb101 ≠ gb110)); have NB110_101 := am ((by rw [hg]; exact Nat.ne_of_gt (blk_lt (g := gb101) (o := .cells #[.slice A0_0 l0_0.length c0_0, .slice A0_1 l0_1.length c0_1, .slice A0_2 l0_2.length c0_2, .int .i64 a0_3] 43 (0, 0)) (by (with_reducible repeat (first | refine bN ?_ _ | refine bD ?_ | refine bA ?_ _)); exact BK101.out)) : gb110 ≠ gb101)); replace BK101 := am (blk_below (g := gb101) (o := .cells #[.slice A0_0 l0_0.length c0_0, .slice A0_1 l0_1.length c0_1, .slice A0_2 l0_2.length c0_2, .int .i64 a0_3] 43 (0, 0)) (by (with_reducible repeat (first | refine bN ?_ _ | refine bD ?_ | refine bA ?_ _)); exact BK101.out) hb); clear hb hbox hg; have hnb35 := NB110_101.out; have hnc35 := NB101_110.out; have hcz36_0 : w34.cell? ⟨gb110, 0, none⟩ = some (.string (⟨#[]⟩ : ByteArray)) := (blk_cell BK110.out 0).trans rfl; have hcz36_1 : w34.cell? ⟨gb110, 1, none⟩ = some (.int .i64 0) := (blk_cell BK110.out 1).trans rfl; have hcz36_2 : w34.cell? ⟨gb110, 2, none⟩ = some (.int .i64 0) := (blk_cell BK110.out 2).trans rfl; have hcz36_3 : w34.cell? ⟨gb110, 3, none⟩ = some (.bool false) := (blk_cell BK110.out 3).trans rfl; have hfz36_0 := blk_frozen BK110.out 0; have hfz36_1 := blk_frozen BK110.out 1; have hfz36_2 := blk_frozen BK110.out 2; have hfz36_3 := blk_frozen BK110.out 3))
            have n0_ : Aside0 (Kd.S k52 52 ((((w34.setCell ⟨gb110, 0, none⟩ (.string ((rd_T54 ((rd_T52 t104 x5_1).vars) x6_2).name))).setCell ⟨gb110, 1, none⟩ (.int .i64 ((rd_T54 ((rd_T52 t104 x5_1).vars) x6_2).n))).setCell ⟨gb110, 2, none⟩ (.int .i64 ((rd_T54 ((rd_T52 t104 x5_1).vars) x6_2).last))).setCell ⟨gb110, 3, none⟩ (.bool false)) w.heap.size (fun k_ => k_ ≠ gb110) (.slice (some ad107) t104.length co13) t104) := ⟨by (with_reducible repeat (first | apply Kd.S_alloc | apply Kd.S_drewN | apply Kd.S_drew)); exact Kd.S_mono (Kd.S_far (p := ⟨gb110, 3, none⟩) (Kd.S_far (p := ⟨gb110, 2, none⟩) (Kd.S_far (p := ⟨gb110, 1, none⟩) (Kd.S_far (p := ⟨gb110, 0, none⟩) (Kd.S_mono HO_4.out (fun k_ hk => (⟨hk, hk.2⟩ : _ ∧ k_ ≠ gb110))) (fun _ hk => hk.2) _) (fun _ hk => hk.2) _) (fun _ hk => hk.2) _) (fun _ hk => hk.2) _) (fun _ hk => hk.1.2)⟩
            have n1_ : Aside0 (Kd.R k54 54 ((((w34.setCell ⟨gb110, 0, none⟩ (.string ((rd_T54 ((rd_T52 t104 x5_1).vars) x6_2).name))).setCell ⟨gb110, 1, none⟩ (.int .i64 ((rd_T54 ((rd_T52 t104 x5_1).vars) x6_2).n))).setCell ⟨gb110, 2, none⟩ (.int .i64 ((rd_T54 ((rd_T52 t104 x5_1).vars) x6_2).last))).setCell ⟨gb110, 3, none⟩ (.bool false)) w.heap.size (fun k_ => some k_ ≠ (.slice (some ad107) t104.length co13 : Value).ownBlock ∧ k_ ≠ gb110) (.slice (some ad109) ((rd_T52 t104 x5_1).vars).length c107_1) ((rd_T52 t104 x5_1).vars)) := ⟨by (with_reducible repeat (first | apply Ra | apply Rn | apply Rd)); exact Kd.R_mono (Kd.R_far (p := ⟨gb110, 3, none⟩) (Kd.R_far (p := ⟨gb110, 2, none⟩) (Kd.R_far (p := ⟨gb110, 1, none⟩) (Kd.R_far (p := ⟨gb110, 0, none⟩) (Kd.R_mono HL107_1.out (fun k_ hk => (⟨hk, hk.2⟩ : _ ∧ k_ ≠ gb110))) (fun _ hk => hk.2) _) (fun _ hk => hk.2) _) (fun _ hk => hk.2) _) (fun _ hk => hk.2) _) (fun _ hk => ⟨hk.1.1.2, hk.1.2⟩)⟩
            have n2_ : Aside0 (Kd.R k54 54 ((((w34.setCell ⟨gb110, 0, none⟩ (.string ((rd_T54 ((rd_T52 t104 x5_1).vars) x6_2).name))).setCell ⟨gb110, 1, none⟩ (.int .i64 ((rd_T54 ((rd_T52 t104 x5_1).vars) x6_2).n))).setCell ⟨gb110, 2, none⟩ (.int .i64 ((rd_T54 ((rd_T52 t104 x5_1).vars) x6_2).last))).setCell ⟨gb110, 3, none⟩ (.bool false)) w.heap.size (fun k_ => some k_ ≠ (.slice (some ad107) t104.length co13 : Value).ownBlock ∧ k_ ≠ gb110) (.slice (some ad109) ((rd_T52 t104 x5_1).vars).length c107_1) ((rd_T52 t104 x5_1).vars)) := ⟨by (with_reducible repeat (first | apply Ra | apply Rn | apply Rd)); exact Kd.R_mono (Kd.R_far (p := ⟨gb110, 3, none⟩) (Kd.R_far (p := ⟨gb110, 2, none⟩) (Kd.R_far (p := ⟨gb110, 1, none⟩) (Kd.R_far (p := ⟨gb110, 0, none⟩) (Kd.R_mono HL108_1.out (fun k_ hk => (⟨hk, hk.2⟩ : _ ∧ k_ ≠ gb110))) (fun _ hk => hk.2) _) (fun _ hk => hk.2) _) (fun _ hk => hk.2) _) (fun _ hk => hk.2) _) (fun _ hk => ⟨hk.1.1.2, hk.1.2⟩)⟩
            have n3_ : Aside0 (((((w34.setCell ⟨gb110, 0, none⟩ (.string ((rd_T54 ((rd_T52 t104 x5_1).vars) x6_2).name))).setCell ⟨gb110, 1, none⟩ (.int .i64 ((rd_T54 ((rd_T52 t104 x5_1).vars) x6_2).n))).setCell ⟨gb110, 2, none⟩ (.int .i64 ((rd_T54 ((rd_T52 t104 x5_1).vars) x6_2).last))).setCell ⟨gb110, 3, none⟩ (.bool false)).heap[gb101]? = some (.cells #[.slice A0_0 l0_0.length c0_0, .slice A0_1 l0_1.length c0_1, .slice A0_2 l0_2.length c0_2, .int .i64 a0_3] 43 (0, 0))) := ⟨by repeat (first | (with_reducible first | exact BK101.out | refine bN ?_ _ | refine bD ?_ | refine bA ?_ _) | refine blk_far ?_ NB101_110.out _ | exact BK101.out)⟩
            have n4_ : Aside0 (((((w34.setCell ⟨gb110, 0, none⟩ (.string ((rd_T54 ((rd_T52 t104 x5_1).vars) x6_2).name))).setCell ⟨gb110, 1, none⟩ (.int .i64 ((rd_T54 ((rd_T52 t104 x5_1).vars) x6_2).n))).setCell ⟨gb110, 2, none⟩ (.int .i64 ((rd_T54 ((rd_T52 t104 x5_1).vars) x6_2).last))).setCell ⟨gb110, 3, none⟩ (.bool false)).heap[gb110]? = some (.cells #[.string ((rd_T54 ((rd_T52 t104 x5_1).vars) x6_2).name), .int .i64 ((rd_T54 ((rd_T52 t104 x5_1).vars) x6_2).n), .int .i64 ((rd_T54 ((rd_T52 t104 x5_1).vars) x6_2).last), .bool false] 54 (0, 0))) := ⟨by (with_reducible repeat (first | refine bN ?_ _ | refine bD ?_ | refine bA ?_ _)); refine blk_put (cs := #[.string ((rd_T54 ((rd_T52 t104 x5_1).vars) x6_2).name), .int .i64 ((rd_T54 ((rd_T52 t104 x5_1).vars) x6_2).n), .int .i64 ((rd_T54 ((rd_T52 t104 x5_1).vars) x6_2).last), .bool false]) ?_ 3 _ rfl; (with_reducible repeat (first | refine bN ?_ _ | refine bD ?_ | refine bA ?_ _)); refine blk_put (cs := #[.string ((rd_T54 ((rd_T52 t104 x5_1).vars) x6_2).name), .int .i64 ((rd_T54 ((rd_T52 t104 x5_1).vars) x6_2).n), .int .i64 0, .bool false]) ?_ 2 _ rfl; (with_reducible repeat (first | refine bN ?_ _ | refine bD ?_ | refine bA ?_ _)); refine blk_put (cs := #[.string ((rd_T54 ((rd_T52 t104 x5_1).vars) x6_2).name), .int .i64 0, .int .i64 0, .bool false]) ?_ 1 _ rfl; (with_reducible repeat (first | refine bN ?_ _ | refine bD ?_ | refine bA ?_ _)); refine blk_put (cs := #[.string (⟨#[]⟩ : ByteArray), .int .i64 0, .int .i64 0, .bool false]) ?_ 0 _ rfl; (with_reducible repeat (first | refine bN ?_ _ | refine bD ?_ | refine bA ?_ _)); exact BK110.out⟩
            have n5_ : Aside0 (Below w.heap.size w ((((w34.setCell ⟨gb110, 0, none⟩ (.string ((rd_T54 ((rd_T52 t104 x5_1).vars) x6_2).name))).setCell ⟨gb110, 1, none⟩ (.int .i64 ((rd_T54 ((rd_T52 t104 x5_1).vars) x6_2).n))).setCell ⟨gb110, 2, none⟩ (.int .i64 ((rd_T54 ((rd_T52 t104 x5_1).vars) x6_2).last))).setCell ⟨gb110, 3, none⟩ (.bool false))) := ⟨by repeat (first | (with_reducible first | exact HB.out | apply lA | apply lN | apply lD | refine lS ?_ GE101.out | refine lS ?_ GE110.out) | exact HB.out)⟩
            (try clear HO_4)
            (try clear HL107_1)
            (try clear HL108_1)
            (try clear BK101)
            (try clear BK110)
            (try clear HB)
            generalize ((((w34.setCell ⟨gb110, 0, none⟩ (.string ((rd_T54 ((rd_T52 t104 x5_1).vars) x6_2).name))).setCell ⟨gb110, 1, none⟩ (.int .i64 ((rd_T54 ((rd_T52 t104 x5_1).vars) x6_2).n))).setCell ⟨gb110, 2, none⟩ (.int .i64 ((rd_T54 ((rd_T52 t104 x5_1).vars) x6_2).last))).setCell ⟨gb110, 3, none⟩ (.bool false)) = w37 at n0_ n1_ n2_ n3_ n4_ n5_ ⊢
            have HO_4 := n0_
            have HL107_1 := n1_
            have HL108_1 := n2_
            have BK101 := n3_
            have BK110 := n4_
            have HB := n5_
            clear n0_ n1_ n2_ n3_ n4_ n5_
            replace HO_4 := am (Kd.S_drew HO_4.out)
            replace HL107_1 := am (Kd.R_drew HL107_1.out)
            replace HL108_1 := am (Kd.R_drew HL108_1.out)
            replace BK101 := am (blk_drew BK101.out)
            replace BK110 := am (blk_drew BK110.out)
            replace HB := am (below_drew1 HB.out)
            refine start_ (n := 15) (S := fun w' => w'.cell? ⟨gb110, 0, none⟩ = some (.string ((rd_T54 ((rd_T52 t104 x5_1).vars) x6_2).name)) ∧ w'.cell? ⟨gb110, 1, none⟩ = some (.int .i64 ((rd_T54 ((rd_T52 t104 x5_1).vars) x6_2).n)) ∧ w'.cell? ⟨gb110, 2, none⟩ = some (.int .i64 ((rd_T54 ((rd_T52 t104 x5_1).vars) x6_2).last)) ∧ w'.cell? ⟨gb110, 3, none⟩ = some (.bool false)) (ds := []) (bl 15 0) (by kernel_rfl) rfl rfl ⟨(blk_cell BK110.out 0).trans rfl, (blk_cell BK110.out 1).trans rfl, (blk_cell BK110.out 2).trans rfl, (blk_cell BK110.out 3).trans rfl⟩ (fun hHeld => ?_); refine with_tabW lambrequinlaw22_InterpTaints.tab12 lambrequinlaw22_InterpTaints.bits12 (fun HT_ HW_ => ?_)
            generalize w37.drew = w38 at HO_4 HL107_1 HL108_1 BK101 BK110 HB hHeld ⊢
            refine pure_ (i := 0) (N := some 46) (v := ?_) (a' := ?_) (bl 15 1) rfl rfl (any_of HT_.out (by kernel_rfl)) (fun _ _ _ h => h) (Or.inl ⟨by rfl, ?_⟩) ?_ ?_
            rotate_left
            ·intro w'
             go_simp
             with_reducible rfl
            rotate_left
            ·simp only [Act.put, sA, sZ, sS, i64_w, i32_w]
             rfl
            refine take_ (i := 1) (N := some 47) (v := ?_) (a' := ?_) (bl 15 3) rfl rfl (take_ofW HT_.out HW_.out (by kernel_rfl)) (fun _ _ _ h => h) (Or.inl ⟨by rfl, ?_⟩) hHeld ?_ ?_
            rotate_left
            ·rintro w' ⟨s0, s1, s2, s3⟩
             go_simp
             with_reducible rfl
            rotate_left
            ·simp only [Act.put, sA, sZ, sS, i64_w, i32_w]
             rfl
            refine pure_ (i := 2) (N := some 48) (v := ?_) (a' := ?_) (bl 15 7) rfl rfl (any_of HT_.out (by kernel_rfl)) (fun _ _ _ h => h) (Or.inl ⟨by rfl, ?_⟩) ?_ ?_
            rotate_left
            ·intro w'
             go_simp
             with_reducible rfl
            rotate_left
            ·simp only [Act.put, sA, sZ, sS, i64_w, i32_w]
             rfl
            refine pure_ (i := 3) (N := some 49) (v := undef) (a' := ?_) (bl 15 15) rfl rfl (any_of HT_.out (by kernel_rfl)) (fun _ _ _ h => h) (Or.inr ⟨by rfl, rfl⟩) ?_ ?_
            rotate_left
            ·simp only [Act.put, sA, sZ, sS, i64_w, i32_w]
             rfl
            refine pure_ (i := 4) (N := some 50) (v := undef) (a' := ?_) (bl 15 31) rfl rfl (any_of HT_.out (by kernel_rfl)) (fun _ _ _ h => h) (Or.inr ⟨by rfl, rfl⟩) ?_ ?_
            rotate_left
            ·simp only [Act.put, sA, sZ, sS, i64_w, i32_w]
             rfl
            refine pure_ (i := 5) (N := some 51) (v := undef) (a' := ?_) (bl 15 63) rfl rfl (any_of HT_.out (by kernel_rfl)) (fun _ _ _ h => h) (Or.inr ⟨by rfl, rfl⟩) ?_ ?_
            rotate_left
            ·simp only [Act.put, sA, sZ, sS, i64_w, i32_w]
             rfl
            refine pure_ (i := 6) (N := some 52) (v := undef) (a' := ?_) (bl 15 127) rfl rfl (any_of HT_.out (by kernel_rfl)) (fun _ _ _ h => h) (Or.inr ⟨by rfl, rfl⟩) ?_ ?_
            rotate_left
            ·simp only [Act.put, sA, sZ, sS, i64_w, i32_w]
             rfl
            refine pure_ (i := 7) (N := some 53) (v := undef) (a' := ?_) (bl 15 255) rfl rfl (any_of HT_.out (by kernel_rfl)) (fun _ _ _ h => h) (Or.inr ⟨by rfl, rfl⟩) ?_ ?_
            rotate_left
            ·simp only [Act.put, sA, sZ, sS, i64_w, i32_w]
             rfl
            refine pure_ (i := 8) (N := some 54) (v := undef) (a' := ?_) (bl 15 511) rfl rfl (any_of HT_.out (by kernel_rfl)) (fun _ _ _ h => h) (Or.inr ⟨by rfl, rfl⟩) ?_ ?_
            rotate_left
            ·simp only [Act.put, sA, sZ, sS, i64_w, i32_w]
             rfl
            refine pure_ (i := 9) (N := some 55) (v := undef) (a' := ?_) (bl 15 1023) rfl rfl (any_of HT_.out (by kernel_rfl)) (fun _ _ _ h => h) (Or.inr ⟨by rfl, rfl⟩) ?_ ?_
            rotate_left
            ·simp only [Act.put, sA, sZ, sS, i64_w, i32_w]
             rfl
            refine pure_ (i := 10) (N := some 56) (v := undef) (a' := ?_) (bl 15 2047) rfl rfl (any_of HT_.out (by kernel_rfl)) (fun _ _ _ h => h) (Or.inr ⟨by rfl, rfl⟩) ?_ ?_
            rotate_left
            ·simp only [Act.put, sA, sZ, sS, i64_w, i32_w]
             rfl
            refine pure_ (i := 11) (N := some 57) (v := undef) (a' := ?_) (bl 15 4095) rfl rfl (any_of HT_.out (by kernel_rfl)) (fun _ _ _ h => h) (Or.inr ⟨by rfl, rfl⟩) ?_ ?_
            rotate_left
            ·simp only [Act.put, sA, sZ, sS, i64_w, i32_w]
             rfl
            refine pure_ (i := 12) (N := some 58) (v := undef) (a' := ?_) (bl 15 8191) rfl rfl (any_of HT_.out (by kernel_rfl)) (fun _ _ _ h => h) (Or.inr ⟨by rfl, rfl⟩) ?_ ?_
            rotate_left
            ·simp only [Act.put, sA, sZ, sS, i64_w, i32_w]
             rfl
            refine pure_ (i := 13) (N := some 59) (v := undef) (a' := ?_) (bl 15 16383) rfl rfl (any_of HT_.out (by kernel_rfl)) (fun _ _ _ h => h) (Or.inr ⟨by rfl, rfl⟩) ?_ ?_
            rotate_left
            ·simp only [Act.put, sA, sZ, sS, i64_w, i32_w]
             rfl
            refine pure_ (i := 14) (N := some 60) (v := ?_) (a' := ?_) (bl 15 32767) rfl rfl (any_of HT_.out (by kernel_rfl)) (fun _ _ _ h => h) (Or.inl ⟨by rfl, ?_⟩) ?_ ?_
            rotate_left
            ·intro w'
             go_simp
             with_reducible rfl
            rotate_left
            ·simp only [Act.put, sA, sZ, sS, i64_w, i32_w]
             rfl
            refine done_ (done_of HT_.out (by kernel_rfl)) ?_
            try go_wp2
            go_roundg k2
            case measure => have := HK1.out; have := HK2.out; omega
            case rel => exact ⟨(wrap64 (x6_2 + 1)), (by first | rfl | (simp; done) | (simp [*]; done)), H', ⟨by have := HK1.out; have := HK2.out; omega⟩, ⟨by (with_reducible repeat (first | apply Kd.S_alloc | apply Kd.S_drewN | apply Kd.S_drew)); exact Kd.S_mono HO_4.out (fun _ hk => trivial)⟩, ⟨by (with_reducible repeat (first | refine bN ?_ _ | refine bD ?_ | refine bA ?_ _)); exact BK101.out⟩, ⟨by repeat (first | (with_reducible first | exact HB.out | apply lA | apply lN | apply lD | refine lS ?_ GE101.out | refine lS ?_ GE110.out) | exact HB.out)⟩⟩
          ·rw [if_neg c17] at H
           exact absurd H (by simp)
         ·rw [if_neg c16] at H
          have c16b0 : decide (x6_2 < (((rd_T52 t104 x5_1).vars).length : Int)) = false := decide_eq_false c16
          clear c16
          have H' := am H
          clear H
          have p107 : 0 ≤ (x5_1 : Int) := of_decide_eq_true (by first | (with_reducible assumption) | assumption)
          have q107 : x5_1 < (t104.length : Int) := of_decide_eq_true (by first | (with_reducible assumption) | assumption)
          obtain ⟨ad107, A107_1, c107_1, e107, hx107_0, hx107_1, hl107_1, hi107_1⟩ := at_T52 (Kd.S_reads' HO_4.out).2.2 x5_1 p107 q107
          cases e107
          obtain ⟨ce107, hce107, hMe107, hcc107⟩ := Kd.S_get HO_4.out z52 x5_1 p107 (by first | exact q107 | exact of_decide_eq_true (by first | (with_reducible assumption) | assumption) | (have e_ := (Kd.S_reads' HO_4.out).1; omega))
          obtain ⟨ve107_1, rfl, ge107_1⟩ := k52_openM hMe107
          have hv107_1 := hcc107 1 _ rfl
          rw [add_field _ _ 1 (by omega)] at hv107_1
          replace hv107_1 := Option.some.inj (hv107_1.symm.trans hx107_1)
          rw [hv107_1] at ge107_1
          have HL107_1 := am (show Kd.R k54 54 _ _ _ _ ((rd_T52 t104 x5_1).vars) from ge107_1)
          clear hv107_1 ge107_1
          clear hcc107 hce107
          have HR107_1 := am hi107_1
          have HC107_1 := am hl107_1
          clear hi107_1 hl107_1
          replace p107 := eq_true p107
          replace q107 := eq_true q107
          go_wp2
          go_roundg k2
          case measure => have := HK1.out; have := HK2.out; omega
          case rel => exact ⟨(wrap64 (x5_1 + 1)), (by first | rfl | (simp; done) | (simp [*]; done)), H', ⟨by have := HK1.out; have := HK2.out; omega⟩, ⟨by (with_reducible repeat (first | apply Kd.S_alloc | apply Kd.S_drewN | apply Kd.S_drew)); exact HO_4.out⟩, ⟨by (with_reducible repeat (first | refine bN ?_ _ | refine bD ?_ | refine bA ?_ _)); exact BK101.out⟩, ⟨by repeat (first | (with_reducible first | exact HB.out | apply lA | apply lN | apply lD | refine lS ?_ GE101.out) | exact HB.out)⟩⟩
        ·rw [if_neg c15] at H
         exact absurd H (by simp)
       ·rw [if_neg c14] at H
        exact absurd H (by simp)
    ·rw [if_neg c12] at H
     have c12b0 : decide (x5_1 < (t104.length : Int)) = false := decide_eq_false c12
     clear c12
     obtain rfl := Option.some.inj H
     obtain ⟨Ao39, co39, eo39⟩ := Kd.S_slice HO_4.out
     subst eo39
     go_wp2
     go_ret
     exact ⟨by first | rfl | (simp [errW_none, errW_some] <;> rfl) | (simp [*, errW_none, errW_some] <;> rfl), by repeat (first | (with_reducible first | exact HB.out | apply lA | apply lN | apply lD | refine lS ?_ GE101.out) | exact HB.out)⟩
 ·replace c4 := Bool.eq_false_iff.mpr c4
  subst c4
  have H1 : (some t102) = some r := by rw [if_neg (show ¬ (false = true) by decide)] at H; exact H
  clear H
  have H := H1
  clear H1
  obtain rfl := Option.some.inj H
  go_enter Try.func16, Try.ntmps16
  go_wp2_with (first | ((with_reducible refine gate_dst (N := 1) rfl ?_); refine box_event ?hg (N := 1) ?hd (cs := #[.slice A0_0 l0_0.length c0_0, .slice A0_1 l0_1.length c0_1, .slice A0_2 l0_2.length c0_2, .int .i64 a0_3]) (t := 43) ?hr ?_; (case hd => rfl); (case hg => rfl); (case hr => first | (go_simp; done) | (go_simp; rfl)); intro gb101 hg w40 hbox hb; have BK101 := am (hbox); have GW101 := am ((by rw [hg]; exact (below_size (by repeat (first | (with_reducible first | exact HB.out | apply lA | apply lN | apply lD) | exact HB.out))) : w.heap.size ≤ gb101)); have GE101 := am ((by rw [hg]; exact (below_size (by repeat (first | (with_reducible first | exact HB.out | apply lA | apply lN | apply lD) | exact HB.out))) : w.heap.size ≤ gb101)); replace HB := am (below_step (by repeat (first | (with_reducible first | exact HB.out | apply lA | apply lN | apply lD) | exact HB.out)) hb); clear hb hbox hg) | ((with_reducible refine gate_callee (f := 33) rfl ?_); refine goesL_ (some 8) rfl rfl Try.func33 (by kernel_rfl) rfl #[] rfl (by (try simp only [List.map_toArray, List.map_cons, List.map_nil]); first | done | rfl | (simp only [List.length_drop, List.length_take]; rfl)) ?_; (with_reducible refine (lambrequinlaw22_shown.calls  t102 _ A2.out).mono ?_); rintro e w41 ⟨rfl, hb⟩; refine ⟨_, rfl, ?_⟩; replace BK101 := am (blk_below (g := gb101) (o := .cells #[.slice A0_0 l0_0.length c0_0, .slice A0_1 l0_1.length c0_1, .slice A0_2 l0_2.length c0_2, .int .i64 a0_3] 43 (0, 0)) (by (with_reducible repeat (first | refine bN ?_ _ | refine bD ?_ | refine bA ?_ _)); exact BK101.out) hb); replace HB := am (below_step (by repeat (first | (with_reducible first | exact HB.out | apply lA | apply lN | apply lD | refine lS ?_ GE101.out) | exact HB.out)) hb); (try clear hb); (try clear hb2); (try clear hk); (try clear hi); have hcz42_0 : w41.cell? ⟨gb101, 0, none⟩ = some (.slice A0_0 l0_0.length c0_0) := (blk_cell BK101.out 0).trans rfl; have hcz42_1 : w41.cell? ⟨gb101, 1, none⟩ = some (.slice A0_1 l0_1.length c0_1) := (blk_cell BK101.out 1).trans rfl; have hcz42_2 : w41.cell? ⟨gb101, 2, none⟩ = some (.slice A0_2 l0_2.length c0_2) := (blk_cell BK101.out 2).trans rfl; have hcz42_3 : w41.cell? ⟨gb101, 3, none⟩ = some (.int .i64 a0_3) := (blk_cell BK101.out 3).trans rfl; have hfz42_0 := blk_frozen BK101.out 0; have hfz42_1 := blk_frozen BK101.out 1; have hfz42_2 := blk_frozen BK101.out 2; have hfz42_3 := blk_frozen BK101.out 3) | ((with_reducible refine gate_callee (f := 34) rfl ?_); refine goesL_ (some 10) rfl rfl Try.func34 (by kernel_rfl) rfl #[.agg #[.slice A0_0 l0_0.length c0_0, .slice A0_1 l0_1.length c0_1, .slice A0_2 l0_2.length c0_2, .int .i64 a0_3]] rfl (by (try simp only [List.map_toArray, List.map_cons, List.map_nil]); first | done | rfl | (simp only [List.length_drop, List.length_take]; rfl)) ?_; (with_reducible refine (lambrequinlaw22_few.calls _ _ l0_0 _ _ l0_1 _ _ l0_2 a0_3 false _ ?side1 ?side2 ?side3 ?side4 ?side5 ?side6 A3.out).mono ?_); (case side1 => repeat (first | exact (Kd.C_below HR0_0.out HB.out) | (with_reducible refine Kd.C_alloc ?_ _) | (with_reducible refine Kd.C_drewN ?_ _) | (with_reducible refine Kd.C_drew ?_))); (case side2 => exact HC0_0.out); (case side3 => repeat (first | exact (Kd.C_below HR0_1.out HB.out) | (with_reducible refine Kd.C_alloc ?_ _) | (with_reducible refine Kd.C_drewN ?_ _) | (with_reducible refine Kd.C_drew ?_))); (case side4 => exact HC0_1.out); (case side5 => repeat (first | exact (Kd.C_below HR0_2.out HB.out) | (with_reducible refine Kd.C_alloc ?_ _) | (with_reducible refine Kd.C_drewN ?_ _) | (with_reducible refine Kd.C_drew ?_))); (case side6 => exact HC0_2.out); rintro e w43 ⟨rfl, hb⟩; refine ⟨_, rfl, ?_⟩; replace BK101 := am (blk_below (g := gb101) (o := .cells #[.slice A0_0 l0_0.length c0_0, .slice A0_1 l0_1.length c0_1, .slice A0_2 l0_2.length c0_2, .int .i64 a0_3] 43 (0, 0)) (by (with_reducible repeat (first | refine bN ?_ _ | refine bD ?_ | refine bA ?_ _)); exact BK101.out) hb); replace HB := am (below_step (by repeat (first | (with_reducible first | exact HB.out | apply lA | apply lN | apply lD | refine lS ?_ GE101.out) | exact HB.out)) hb); (try clear hb); (try clear hb2); (try clear hk); (try clear hi)))
  go_ret
  exact ⟨by first | rfl | (simp [errW_none, errW_some] <;> rfl) | (simp [*, errW_none, errW_some] <;> rfl), by repeat (first | (with_reducible first | exact HB.out | apply lA | apply lN | apply lD | refine lS ?_ GE101.out) | exact HB.out)⟩
end Go.Proofs.Ytnepgcbgkhikkaa.H
/- InterpTaints: what is tainted on any trace is tainted as flows tell. Conditions: the statement's own. -/
namespace Go.Proofs.Ytnepgcbgkhikkaa.H
open Go.RowKit Go.Proofs.YtnepgcbgkhikkaaW.PrintWords
set_option linter.unusedVariables false
set_option linter.unusedSimpArgs false
set_option linter.unusedSectionVars false
section
variable (l : List Stmt) (ins : List Int) (ora : List Bool) (most : Int) (s : St) (m : Nat) (hl : l.length ≤ 1000) (hm : m ≤ 1000) (hin : ∀ i, i < m → inS l (sN l s i)) (hok : ∀ i, i < m → (sN l s i).vs.map Var.name = nmsV l ∧ ∀ (j : Nat) v, (sN l s i).vs[j]? = some v → okT l (sN l s i).n v)
include hl hm hin hok
theorem Ti_len (i : Nat) (hi : i < m) : (sN l s i).vs.length ≤ 10000 := by
  have h1 := congrArg List.length (hok i hi).1
  have h2 := names_len l
  rw [List.length_map] at h1
  unfold nmsV at h1
  omega
theorem Ti_l1 (i : Nat) (hi : i < m) (R : Bool) (go : Ev (fun n => lambrequinlaw22_InterpTaints.l0 n true (visN l s m) ((i + 1 : Nat) : Int) l ins ora most) R) : ∀ (r : List Var) (j : Nat), (sN l s i).vs.drop j = r →
    Ev (fun n => lambrequinlaw22_InterpTaints.l1 n true (visN l s m) i j l ins ora most) R
  | [], j, h => by
    have hv := Ti_len l s m hl hm hin hok i hi
    refine Ev.step (fun k => by rw [lambrequinlaw22_InterpTaints.l1]) (Ev.pos (by omega) (Ev.pos (by rw [visN_len]; omega) ?_))
    rw [vis_at hi]
    have e1 : (visS (sN l s i)).vars = (sN l s i).vs := rfl
    rw [e1, wrap_up (n := i) (by omega)]
    exact Ev.neg (drop_end h) go
  | v :: r, j, h => by
    have hv := Ti_len l s m hl hm hin hok i hi
    obtain ⟨h1, h2, h3, h4, h5⟩ := drop_more h (by omega)
    have ih := Ti_l1 i hi R go r (j + 1) h4
    have hvj : (sN l s i).vs[j]? = some v := by
      have := congrArg (fun z => z[0]?) h
      simpa using this
    have hI := hin i hi
    refine Ev.step (fun k => by rw [lambrequinlaw22_InterpTaints.l1]) (Ev.pos (by omega) (Ev.pos (by rw [visN_len]; omega) ?_))
    rw [vis_at hi]
    have e1 : (visS (sN l s i)).vars = (sN l s i).vs := rfl
    have e2 : (visS (sN l s i)).place = (sN l s i).n := rfl
    rw [e1, e2]
    refine Ev.pos h1 (Ev.pos h2 ?_)
    rw [show rd_T54 (sN l s i).vs j = v from h3 _, h5]
    by_cases c : v.taint = true
    · refine Ev.pos c (Ev.bind (Taints_yes l (sN l s i).n v.name hl hI.1 hI.2 ?_ ((hok i hi).2 j v hvj c)) (Ev.pos rfl ih))
      show v.name ∈ nmsV l
      rw [← (hok i hi).1]
      exact List.mem_map.2 ⟨v, List.mem_of_getElem? hvj, rfl⟩
    · exact Ev.neg c ih
theorem Ti_l0 : ∀ (d i : Nat), i + d = m → Ev (fun n => lambrequinlaw22_InterpTaints.l0 n true (visN l s m) i l ins ora most) true
  | 0, i, hd => by
    exact Ev.step (fun k => by rw [lambrequinlaw22_InterpTaints.l0]) (Ev.neg (by rw [visN_len]; omega) (Ev.now _))
  | d + 1, i, hd => by
    refine Ev.step (fun k => by rw [lambrequinlaw22_InterpTaints.l0]) (Ev.pos (by rw [visN_len]; omega) ?_)
    exact Ti_l1 l ins ora most s m hl hm hin hok i (by omega) true (Ti_l0 d (i + 1) (by omega)) (sN l s i).vs 0 rfl
end
theorem InterpTaints_pure (x0 : Script) (n1 : x0.l.length ≤ 9223372036854775807) (n2 : x0.ins.length ≤ 9223372036854775807) (n3 : x0.ora.length ≤ 9223372036854775807) : ∃ k, lambrequinlaw22_InterpTaints.f k x0.l x0.ins x0.ora x0.most = some true := by
  obtain ⟨l, ins, ora, most⟩ := x0
  refine Ev.rounds (g := fun k => lambrequinlaw22_InterpTaints.f k l ins ora most) ?_
  unfold lambrequinlaw22_InterpTaints.f
  refine Ev.pure shown22 (Ev.pure (few_eq l ins ora most) ?_)
  by_cases hf : l.length ≤ 25 ∧ most ≤ 60
  case neg => exact Ev.neg (by simpa using hf) (Ev.now _)
  refine Ev.pos (by simpa using hf) ?_
  obtain ⟨m, hr, hin, hm, hout⟩ := Run_spec l ins ora most (by omega)
  refine Ev.pure hr ?_
  rw [mostV_small (by omega)] at hm
  exact Ti_l0 l ins ora most (s0 l ins ora) m (by omega) (by omega) hin (fun i hi => ⟨names_sN (names_s0 l ins ora) i (fun j hj => hin j (by omega)), okT_all (names_s0 l ins ora) (okT_s0 l ins ora) i (fun j hj => hin j (by omega))⟩) m 0 (by omega)
theorem InterpTaints_walk (w : World) (x0 : Script) (A0_0 : Option Addr) (c0_0 : Nat) (l0_0 : x0.l.length ≤ c0_0) (g0_0 : Kd.C k30 w A0_0 x0.l.length x0.l) (A0_1 : Option Addr) (c0_1 : Nat) (l0_1 : x0.ins.length ≤ c0_1) (g0_1 : Kd.C (Kd.int .i64) w A0_1 x0.ins.length x0.ins) (A0_2 : Option Addr) (c0_2 : Nat) (l0_2 : x0.ora.length ≤ c0_2) (g0_2 : Kd.C Kd.bool w A0_2 x0.ora.length x0.ora) :
    Calls Try.prog 16 #[.agg #[.slice A0_0 x0.l.length c0_0, .slice A0_1 x0.ins.length c0_1, .slice A0_2 x0.ora.length c0_2, .int .i64 x0.most]] w fun e w' => e = .returned (.bool true) ∧ Below w.heap.size w w' := by
  obtain ⟨k, h⟩ := InterpTaints_pure x0 g0_0.2.1 g0_1.2.1 g0_2.2.1
  exact (lambrequinlaw22_InterpTaints.calls k A0_0 c0_0 x0.l A0_1 c0_1 x0.ins A0_2 c0_2 x0.ora x0.most true w g0_0 l0_0 g0_1 l0_1 g0_2 l0_2 h).mono (fun e w' h' => ⟨h'.1, h'.2⟩)
end Go.Proofs.Ytnepgcbgkhikkaa.H
