/- RowCfgTaint of the seat's law CfgTaint: the law holds, under the statement's own conditions. -/
import Derived.Test.YtnepgcbgkhikkaaNXCfgTaint
import Derived.Test.YtnepgcbgkhikkaaNXCfgTaint1
import Derived.Test.YtnepgcbgkhikkaaNW
import Derived.Deep.DeepMust
namespace Go.Proofs.Ytnepgcbgkhikkaa.H
open Go.RowKit Go.Proofs.YtnepgcbgkhikkaaW.PrintWords Go.Proofs.YtnepgcbgkhikkaaW.PrintLast Go.Proofs.YtnepgcbgkhikkaaW.PrintMore
attribute [local go_sem] max2_int min2_int max_two min_two max_three min_three max_four min_four
set_option linter.unusedVariables false
set_option linter.unusedSimpArgs false
def lambrequinlaw20_shown.f (k : Nat)  : Option (Bool) := (some (([(⟨1, (⟨#[120]⟩ : ByteArray), (⟨#[]⟩ : ByteArray), (⟨#[]⟩ : ByteArray), (⟨#[]⟩ : ByteArray), 1, 0, 0⟩ : Stmt), (⟨6, (⟨#[]⟩ : ByteArray), (⟨#[120]⟩ : ByteArray), (⟨#[]⟩ : ByteArray), (⟨#[]⟩ : ByteArray), 0, 0, 0⟩ : Stmt), (⟨9, (⟨#[]⟩ : ByteArray), (⟨#[]⟩ : ByteArray), (⟨#[]⟩ : ByteArray), (⟨#[]⟩ : ByteArray), 0, 0, 0⟩ : Stmt)] : List (Stmt)) : List (Stmt))).bind fun y101 => ((cfg_Reaches.f k y101 1 (⟨#[120]⟩ : ByteArray) 0).bind fun t104 => (if t104 = true then ((cfg_Reaches.f k y101 2 (⟨#[120]⟩ : ByteArray) 0).bind fun t105 => (if t105 = true then ((cfg_Reaches.f k y101 0 (⟨#[120]⟩ : ByteArray) 0).bind fun t106 => (if t106 = true then (some false) else ((cfg_Lives.f k y101 1 (⟨#[120]⟩ : ByteArray)).bind fun t107 => (if t107 = true then ((cfg_Lives.f k y101 0 (⟨#[120]⟩ : ByteArray)).bind fun t108 => (if t108 = true then (some false) else ((cfg_Lives.f k y101 2 (⟨#[120]⟩ : ByteArray)).bind fun t109 => (if t109 = true then (some false) else ((cfg_Next.f y101 1).bind fun t110 => ((lambrequinref10_Ints.f k t110 (([2] : List Int))).bind fun t116 => (some t116))))))) else (some false))))) else (some false))) else (some false)))
theorem lambrequinlaw20_shown.mono : ∀ k, LeO (lambrequinlaw20_shown.f k ) (lambrequinlaw20_shown.f (k + 1) ) := by
 intro  k
 unfold lambrequinlaw20_shown.f
 repeat' first
   | (with_reducible exact cfg_Lives.mono _ _ _ _)
   | (with_reducible exact cfg_Reaches.mono _ _ _ _ _)
   | (with_reducible exact lambrequinref10_Ints.mono _ _ _)
   | (with_reducible exact LeO.refl _)
   | (with_reducible exact LeO.none _)
   | (with_reducible refine LeO.ite ?_ ?_)
   | (with_reducible refine LeO.bind ?_ (fun _ => ?_))
   | exact cfg_Lives.mono _ _ _ _
   | exact cfg_Reaches.mono _ _ _ _ _
   | exact lambrequinref10_Ints.mono _ _ _
   | exact LeO.none _
   | refine LeO.ite ?_ ?_
   | refine LeO.bind ?_ (fun _ => ?_)
set_option maxHeartbeats 8000000 in
set_option maxRecDepth 100000 in
theorem lambrequinlaw20_shown.calls (k : Nat)  (r : Bool) (w : World) (h : lambrequinlaw20_shown.f k  = some r) :
  Calls Try.prog 17 #[] w fun e w' => e = .returned (.bool r) ∧ Below w.heap.size w w' := by
 have hu30 := Try.underlying30
 have HB := am (Below.refl w.heap.size w)
 have H : ((some (([(⟨1, (⟨#[120]⟩ : ByteArray), (⟨#[]⟩ : ByteArray), (⟨#[]⟩ : ByteArray), (⟨#[]⟩ : ByteArray), 1, 0, 0⟩ : Stmt), (⟨6, (⟨#[]⟩ : ByteArray), (⟨#[120]⟩ : ByteArray), (⟨#[]⟩ : ByteArray), (⟨#[]⟩ : ByteArray), 0, 0, 0⟩ : Stmt), (⟨9, (⟨#[]⟩ : ByteArray), (⟨#[]⟩ : ByteArray), (⟨#[]⟩ : ByteArray), (⟨#[]⟩ : ByteArray), 0, 0, 0⟩ : Stmt)] : List (Stmt)) : List (Stmt))).bind fun y101 => ((cfg_Reaches.f k y101 1 (⟨#[120]⟩ : ByteArray) 0).bind fun t104 => (if t104 = true then ((cfg_Reaches.f k y101 2 (⟨#[120]⟩ : ByteArray) 0).bind fun t105 => (if t105 = true then ((cfg_Reaches.f k y101 0 (⟨#[120]⟩ : ByteArray) 0).bind fun t106 => (if t106 = true then (some false) else ((cfg_Lives.f k y101 1 (⟨#[120]⟩ : ByteArray)).bind fun t107 => (if t107 = true then ((cfg_Lives.f k y101 0 (⟨#[120]⟩ : ByteArray)).bind fun t108 => (if t108 = true then (some false) else ((cfg_Lives.f k y101 2 (⟨#[120]⟩ : ByteArray)).bind fun t109 => (if t109 = true then (some false) else ((cfg_Next.f y101 1).bind fun t110 => ((lambrequinref10_Ints.f k t110 (([2] : List Int))).bind fun t116 => (some t116))))))) else (some false))))) else (some false))) else (some false)))) = some r := h
 clear h
 obtain ⟨y101, hy101⟩ : ∃ y_ : List (Stmt), y_ = (([(⟨1, (⟨#[120]⟩ : ByteArray), (⟨#[]⟩ : ByteArray), (⟨#[]⟩ : ByteArray), (⟨#[]⟩ : ByteArray), 1, 0, 0⟩ : Stmt), (⟨6, (⟨#[]⟩ : ByteArray), (⟨#[120]⟩ : ByteArray), (⟨#[]⟩ : ByteArray), (⟨#[]⟩ : ByteArray), 0, 0, 0⟩ : Stmt), (⟨9, (⟨#[]⟩ : ByteArray), (⟨#[]⟩ : ByteArray), (⟨#[]⟩ : ByteArray), (⟨#[]⟩ : ByteArray), 0, 0, 0⟩ : Stmt)] : List (Stmt))) := ⟨_, rfl⟩
 replace H : ((cfg_Reaches.f k y101 1 (⟨#[120]⟩ : ByteArray) 0).bind fun t104 => (if t104 = true then ((cfg_Reaches.f k y101 2 (⟨#[120]⟩ : ByteArray) 0).bind fun t105 => (if t105 = true then ((cfg_Reaches.f k y101 0 (⟨#[120]⟩ : ByteArray) 0).bind fun t106 => (if t106 = true then (some false) else ((cfg_Lives.f k y101 1 (⟨#[120]⟩ : ByteArray)).bind fun t107 => (if t107 = true then ((cfg_Lives.f k y101 0 (⟨#[120]⟩ : ByteArray)).bind fun t108 => (if t108 = true then (some false) else ((cfg_Lives.f k y101 2 (⟨#[120]⟩ : ByteArray)).bind fun t109 => (if t109 = true then (some false) else ((cfg_Next.f y101 1).bind fun t110 => ((lambrequinref10_Ints.f k t110 (([2] : List Int))).bind fun t116 => (some t116))))))) else (some false))))) else (some false))) else (some false))) = some r := by first | (rw [hy101]; with_reducible exact H) | (have H2_ := (Option.bind_some _ _).symm.trans H; rw [hy101]; with_reducible exact H2_) | (have H2_ := (Option.bind_some _ _).symm.trans H; with_reducible exact H2_) | with_reducible exact H | (rw [hy101]; exact H) | exact H
 have Ny101 := am hy101
 clear hy101
 replace H := Option.bind_eq_some_iff.mp H
 obtain ⟨t104, A10, H⟩ := H
 replace H : (if t104 = true then ((cfg_Reaches.f k y101 2 (⟨#[120]⟩ : ByteArray) 0).bind fun t105 => (if t105 = true then ((cfg_Reaches.f k y101 0 (⟨#[120]⟩ : ByteArray) 0).bind fun t106 => (if t106 = true then (some false) else ((cfg_Lives.f k y101 1 (⟨#[120]⟩ : ByteArray)).bind fun t107 => (if t107 = true then ((cfg_Lives.f k y101 0 (⟨#[120]⟩ : ByteArray)).bind fun t108 => (if t108 = true then (some false) else ((cfg_Lives.f k y101 2 (⟨#[120]⟩ : ByteArray)).bind fun t109 => (if t109 = true then (some false) else ((cfg_Next.f y101 1).bind fun t110 => ((lambrequinref10_Ints.f k t110 (([2] : List Int))).bind fun t116 => (some t116))))))) else (some false))))) else (some false))) else (some false)) = some r := H
 have A1 := am A10
 clear A10
 by_cases c2 : t104 = true
 ·subst c2
  have H1 : ((cfg_Reaches.f k y101 2 (⟨#[120]⟩ : ByteArray) 0).bind fun t105 => (if t105 = true then ((cfg_Reaches.f k y101 0 (⟨#[120]⟩ : ByteArray) 0).bind fun t106 => (if t106 = true then (some false) else ((cfg_Lives.f k y101 1 (⟨#[120]⟩ : ByteArray)).bind fun t107 => (if t107 = true then ((cfg_Lives.f k y101 0 (⟨#[120]⟩ : ByteArray)).bind fun t108 => (if t108 = true then (some false) else ((cfg_Lives.f k y101 2 (⟨#[120]⟩ : ByteArray)).bind fun t109 => (if t109 = true then (some false) else ((cfg_Next.f y101 1).bind fun t110 => ((lambrequinref10_Ints.f k t110 (([2] : List Int))).bind fun t116 => (some t116))))))) else (some false))))) else (some false))) = some r := by rw [if_pos rfl] at H; exact H
  clear H
  have H := H1
  clear H1
  replace H := Option.bind_eq_some_iff.mp H
  obtain ⟨t105, A30, H⟩ := H
  replace H : (if t105 = true then ((cfg_Reaches.f k y101 0 (⟨#[120]⟩ : ByteArray) 0).bind fun t106 => (if t106 = true then (some false) else ((cfg_Lives.f k y101 1 (⟨#[120]⟩ : ByteArray)).bind fun t107 => (if t107 = true then ((cfg_Lives.f k y101 0 (⟨#[120]⟩ : ByteArray)).bind fun t108 => (if t108 = true then (some false) else ((cfg_Lives.f k y101 2 (⟨#[120]⟩ : ByteArray)).bind fun t109 => (if t109 = true then (some false) else ((cfg_Next.f y101 1).bind fun t110 => ((lambrequinref10_Ints.f k t110 (([2] : List Int))).bind fun t116 => (some t116))))))) else (some false))))) else (some false)) = some r := H
  have A3 := am A30
  clear A30
  by_cases c4 : t105 = true
  ·subst c4
   have H1 : ((cfg_Reaches.f k y101 0 (⟨#[120]⟩ : ByteArray) 0).bind fun t106 => (if t106 = true then (some false) else ((cfg_Lives.f k y101 1 (⟨#[120]⟩ : ByteArray)).bind fun t107 => (if t107 = true then ((cfg_Lives.f k y101 0 (⟨#[120]⟩ : ByteArray)).bind fun t108 => (if t108 = true then (some false) else ((cfg_Lives.f k y101 2 (⟨#[120]⟩ : ByteArray)).bind fun t109 => (if t109 = true then (some false) else ((cfg_Next.f y101 1).bind fun t110 => ((lambrequinref10_Ints.f k t110 (([2] : List Int))).bind fun t116 => (some t116))))))) else (some false))))) = some r := by rw [if_pos rfl] at H; exact H
   clear H
   have H := H1
   clear H1
   replace H := Option.bind_eq_some_iff.mp H
   obtain ⟨t106, A50, H⟩ := H
   replace H : (if t106 = true then (some false) else ((cfg_Lives.f k y101 1 (⟨#[120]⟩ : ByteArray)).bind fun t107 => (if t107 = true then ((cfg_Lives.f k y101 0 (⟨#[120]⟩ : ByteArray)).bind fun t108 => (if t108 = true then (some false) else ((cfg_Lives.f k y101 2 (⟨#[120]⟩ : ByteArray)).bind fun t109 => (if t109 = true then (some false) else ((cfg_Next.f y101 1).bind fun t110 => ((lambrequinref10_Ints.f k t110 (([2] : List Int))).bind fun t116 => (some t116))))))) else (some false)))) = some r := H
   have A5 := am A50
   clear A50
   by_cases c6 : t106 = true
   ·subst c6
    have H1 : (some false) = some r := by rw [if_pos rfl] at H; exact H
    clear H
    have H := H1
    clear H1
    obtain rfl := Option.some.inj H
    go_enter Try.func17, Try.ntmps17
    go_wp2_with (first | ((with_reducible refine gate_dst (N := 5) rfl ?_); (try (refine gate_guard (by rfl) ?_; dsimp only)); refine Kd.R_lit k30 _ 30 ?hg (N := 5) ?hd (xs := ([(⟨1, (⟨#[120]⟩ : ByteArray), (⟨#[]⟩ : ByteArray), (⟨#[]⟩ : ByteArray), (⟨#[]⟩ : ByteArray), 1, 0, 0⟩ : Stmt), (⟨6, (⟨#[]⟩ : ByteArray), (⟨#[120]⟩ : ByteArray), (⟨#[]⟩ : ByteArray), (⟨#[]⟩ : ByteArray), 0, 0, 0⟩ : Stmt), (⟨9, (⟨#[]⟩ : ByteArray), (⟨#[]⟩ : ByteArray), (⟨#[]⟩ : ByteArray), (⟨#[]⟩ : ByteArray), 0, 0, 0⟩ : Stmt)] : List (Stmt))) (inner := [.int .i64 1, .string (⟨#[120]⟩ : ByteArray), .string (⟨#[]⟩ : ByteArray), .string (⟨#[]⟩ : ByteArray), .string (⟨#[]⟩ : ByteArray), .int .i64 1, .int .i64 0, .int .i64 0, .int .i64 6, .string (⟨#[]⟩ : ByteArray), .string (⟨#[120]⟩ : ByteArray), .string (⟨#[]⟩ : ByteArray), .string (⟨#[]⟩ : ByteArray), .int .i64 0, .int .i64 0, .int .i64 0, .int .i64 9, .string (⟨#[]⟩ : ByteArray), .string (⟨#[]⟩ : ByteArray), .string (⟨#[]⟩ : ByteArray), .string (⟨#[]⟩ : ByteArray), .int .i64 0, .int .i64 0, .int .i64 0]) (ok := fun _ => True) (okp := fun _ => True) ?hr ?hp (fun _ hk => hk) trivial (Below.refl _ _) (Nat.le_refl _) (by simp) ?_; (case hd => rfl); (case hg => rfl); (case hr => first | (go_simp; done) | (go_simp; rfl)); (case hp => exact (Reps.c8 (show Kd.M k30 _ _ _ (⟨1, (⟨#[120]⟩ : ByteArray), (⟨#[]⟩ : ByteArray), (⟨#[]⟩ : ByteArray), (⟨#[]⟩ : ByteArray), 1, 0, 0⟩ : Stmt) [.int .i64 1, .string (⟨#[120]⟩ : ByteArray), .string (⟨#[]⟩ : ByteArray), .string (⟨#[]⟩ : ByteArray), .string (⟨#[]⟩ : ByteArray), .int .i64 1, .int .i64 0, .int .i64 0] from (k30_mkM _ _ _ (⟨1, (⟨#[120]⟩ : ByteArray), (⟨#[]⟩ : ByteArray), (⟨#[]⟩ : ByteArray), (⟨#[]⟩ : ByteArray), 1, 0, 0⟩ : Stmt) )) (Reps.c8 (show Kd.M k30 _ _ _ (⟨6, (⟨#[]⟩ : ByteArray), (⟨#[120]⟩ : ByteArray), (⟨#[]⟩ : ByteArray), (⟨#[]⟩ : ByteArray), 0, 0, 0⟩ : Stmt) [.int .i64 6, .string (⟨#[]⟩ : ByteArray), .string (⟨#[120]⟩ : ByteArray), .string (⟨#[]⟩ : ByteArray), .string (⟨#[]⟩ : ByteArray), .int .i64 0, .int .i64 0, .int .i64 0] from (k30_mkM _ _ _ (⟨6, (⟨#[]⟩ : ByteArray), (⟨#[120]⟩ : ByteArray), (⟨#[]⟩ : ByteArray), (⟨#[]⟩ : ByteArray), 0, 0, 0⟩ : Stmt) )) (Reps.c8 (show Kd.M k30 _ _ _ (⟨9, (⟨#[]⟩ : ByteArray), (⟨#[]⟩ : ByteArray), (⟨#[]⟩ : ByteArray), (⟨#[]⟩ : ByteArray), 0, 0, 0⟩ : Stmt) [.int .i64 9, .string (⟨#[]⟩ : ByteArray), .string (⟨#[]⟩ : ByteArray), .string (⟨#[]⟩ : ByteArray), .string (⟨#[]⟩ : ByteArray), .int .i64 0, .int .i64 0, .int .i64 0] from (k30_mkM _ _ _ (⟨9, (⟨#[]⟩ : ByteArray), (⟨#[]⟩ : ByteArray), (⟨#[]⟩ : ByteArray), (⟨#[]⟩ : ByteArray), 0, 0, 0⟩ : Stmt) )) (Reps.none _ _))))); intro v102 w7 ho8 hb hg_ hnew_; clear hg_ hnew_; (first | rw [← Ny101.out] at ho8 | (simp only [Int.reduceToNat] at ho8; rw [← Ny101.out] at ho8)); have HO103 := am (Kd.R_lower ho8 (below_size (by repeat (first | (with_reducible first | exact HB.out | apply lA | apply lN | apply lD) | exact HB.out)))); replace HB := am (below_step (by repeat (first | (with_reducible first | exact HB.out | apply lA | apply lN | apply lD) | exact HB.out)) hb); clear hb ho8; obtain ⟨Ao9, co9, eo9⟩ := Kd.R_slice HO103.out; subst eo9) | ((with_reducible refine gate_callee (f := 23) rfl ?_); refine goesL_ (some 7) rfl rfl Try.func23 (by kernel_rfl) rfl #[.slice Ao9 y101.length co9, .int .i64 1, .string (⟨#[120]⟩ : ByteArray), .int .i64 0] rfl (by (try simp only [List.map_toArray, List.map_cons, List.map_nil]); first | done | rfl | (simp only [List.length_drop, List.length_take]; rfl)) ?_; (with_reducible refine (cfg_Reaches.calls k _ _ y101 1 (⟨#[120]⟩ : ByteArray) 0 true _ ?side1 ?side2 A1.out).mono ?_); (case side1 => repeat (first | exact (Kd.R_reads' HO103.out).2.2 | (with_reducible refine Kd.C_alloc ?_ _) | (with_reducible refine Kd.C_drewN ?_ _) | (with_reducible refine Kd.C_drew ?_))); (case side2 => exact (Kd.R_reads' HO103.out).2.1); rintro e w10 ⟨rfl, hb⟩; refine ⟨_, rfl, ?_⟩; replace HO103 := am (Kd.R_below (by (with_reducible repeat (first | apply Ra | apply Rn | apply Rd)); exact HO103.out) hb); replace HB := am (below_step (by repeat (first | (with_reducible first | exact HB.out | apply lA | apply lN | apply lD) | exact HB.out)) hb); (try clear hb); (try clear hb2); (try clear hk); (try clear hi)) | (go_at_call 23; (with_reducible refine (cfg_Reaches.calls k _ _ y101 2 (⟨#[120]⟩ : ByteArray) 0 true _ ?side1 ?side2 A3.out).mono ?_); (case side1 => repeat (first | exact (Kd.R_reads' HO103.out).2.2 | (with_reducible refine Kd.C_alloc ?_ _) | (with_reducible refine Kd.C_drewN ?_ _) | (with_reducible refine Kd.C_drew ?_))); (case side2 => exact (Kd.R_reads' HO103.out).2.1); rintro e w11 ⟨rfl, hb⟩; replace HO103 := am (Kd.R_below (by (with_reducible repeat (first | apply Ra | apply Rn | apply Rd)); exact HO103.out) hb); replace HB := am (below_step (by repeat (first | (with_reducible first | exact HB.out | apply lA | apply lN | apply lD) | exact HB.out)) hb); (try clear hb); (try clear hb2); (try clear hk); (try clear hi)) | (go_at_call 23; (with_reducible refine (cfg_Reaches.calls k _ _ y101 0 (⟨#[120]⟩ : ByteArray) 0 true _ ?side1 ?side2 A5.out).mono ?_); (case side1 => repeat (first | exact (Kd.R_reads' HO103.out).2.2 | (with_reducible refine Kd.C_alloc ?_ _) | (with_reducible refine Kd.C_drewN ?_ _) | (with_reducible refine Kd.C_drew ?_))); (case side2 => exact (Kd.R_reads' HO103.out).2.1); rintro e w12 ⟨rfl, hb⟩; replace HO103 := am (Kd.R_below (by (with_reducible repeat (first | apply Ra | apply Rn | apply Rd)); exact HO103.out) hb); replace HB := am (below_step (by repeat (first | (with_reducible first | exact HB.out | apply lA | apply lN | apply lD) | exact HB.out)) hb); (try clear hb); (try clear hb2); (try clear hk); (try clear hi)))
    go_ret
    exact ⟨by first | rfl | (simp [errW_none, errW_some] <;> rfl) | (simp [*, errW_none, errW_some] <;> rfl), by repeat (first | (with_reducible first | exact HB.out | apply lA | apply lN | apply lD) | exact HB.out)⟩
   ·replace c6 := Bool.eq_false_iff.mpr c6
    subst c6
    have H1 : ((cfg_Lives.f k y101 1 (⟨#[120]⟩ : ByteArray)).bind fun t107 => (if t107 = true then ((cfg_Lives.f k y101 0 (⟨#[120]⟩ : ByteArray)).bind fun t108 => (if t108 = true then (some false) else ((cfg_Lives.f k y101 2 (⟨#[120]⟩ : ByteArray)).bind fun t109 => (if t109 = true then (some false) else ((cfg_Next.f y101 1).bind fun t110 => ((lambrequinref10_Ints.f k t110 (([2] : List Int))).bind fun t116 => (some t116))))))) else (some false))) = some r := by rw [if_neg (show ¬ (false = true) by decide)] at H; exact H
    clear H
    have H := H1
    clear H1
    replace H := Option.bind_eq_some_iff.mp H
    obtain ⟨t107, A130, H⟩ := H
    replace H : (if t107 = true then ((cfg_Lives.f k y101 0 (⟨#[120]⟩ : ByteArray)).bind fun t108 => (if t108 = true then (some false) else ((cfg_Lives.f k y101 2 (⟨#[120]⟩ : ByteArray)).bind fun t109 => (if t109 = true then (some false) else ((cfg_Next.f y101 1).bind fun t110 => ((lambrequinref10_Ints.f k t110 (([2] : List Int))).bind fun t116 => (some t116))))))) else (some false)) = some r := H
    have A13 := am A130
    clear A130
    by_cases c14 : t107 = true
    ·subst c14
     have H1 : ((cfg_Lives.f k y101 0 (⟨#[120]⟩ : ByteArray)).bind fun t108 => (if t108 = true then (some false) else ((cfg_Lives.f k y101 2 (⟨#[120]⟩ : ByteArray)).bind fun t109 => (if t109 = true then (some false) else ((cfg_Next.f y101 1).bind fun t110 => ((lambrequinref10_Ints.f k t110 (([2] : List Int))).bind fun t116 => (some t116))))))) = some r := by rw [if_pos rfl] at H; exact H
     clear H
     have H := H1
     clear H1
     replace H := Option.bind_eq_some_iff.mp H
     obtain ⟨t108, A150, H⟩ := H
     replace H : (if t108 = true then (some false) else ((cfg_Lives.f k y101 2 (⟨#[120]⟩ : ByteArray)).bind fun t109 => (if t109 = true then (some false) else ((cfg_Next.f y101 1).bind fun t110 => ((lambrequinref10_Ints.f k t110 (([2] : List Int))).bind fun t116 => (some t116)))))) = some r := H
     have A15 := am A150
     clear A150
     by_cases c16 : t108 = true
     ·subst c16
      have H1 : (some false) = some r := by rw [if_pos rfl] at H; exact H
      clear H
      have H := H1
      clear H1
      obtain rfl := Option.some.inj H
      go_enter Try.func17, Try.ntmps17
      go_wp2_with (first | ((with_reducible refine gate_dst (N := 5) rfl ?_); (try (refine gate_guard (by rfl) ?_; dsimp only)); refine Kd.R_lit k30 _ 30 ?hg (N := 5) ?hd (xs := ([(⟨1, (⟨#[120]⟩ : ByteArray), (⟨#[]⟩ : ByteArray), (⟨#[]⟩ : ByteArray), (⟨#[]⟩ : ByteArray), 1, 0, 0⟩ : Stmt), (⟨6, (⟨#[]⟩ : ByteArray), (⟨#[120]⟩ : ByteArray), (⟨#[]⟩ : ByteArray), (⟨#[]⟩ : ByteArray), 0, 0, 0⟩ : Stmt), (⟨9, (⟨#[]⟩ : ByteArray), (⟨#[]⟩ : ByteArray), (⟨#[]⟩ : ByteArray), (⟨#[]⟩ : ByteArray), 0, 0, 0⟩ : Stmt)] : List (Stmt))) (inner := [.int .i64 1, .string (⟨#[120]⟩ : ByteArray), .string (⟨#[]⟩ : ByteArray), .string (⟨#[]⟩ : ByteArray), .string (⟨#[]⟩ : ByteArray), .int .i64 1, .int .i64 0, .int .i64 0, .int .i64 6, .string (⟨#[]⟩ : ByteArray), .string (⟨#[120]⟩ : ByteArray), .string (⟨#[]⟩ : ByteArray), .string (⟨#[]⟩ : ByteArray), .int .i64 0, .int .i64 0, .int .i64 0, .int .i64 9, .string (⟨#[]⟩ : ByteArray), .string (⟨#[]⟩ : ByteArray), .string (⟨#[]⟩ : ByteArray), .string (⟨#[]⟩ : ByteArray), .int .i64 0, .int .i64 0, .int .i64 0]) (ok := fun _ => True) (okp := fun _ => True) ?hr ?hp (fun _ hk => hk) trivial (Below.refl _ _) (Nat.le_refl _) (by simp) ?_; (case hd => rfl); (case hg => rfl); (case hr => first | (go_simp; done) | (go_simp; rfl)); (case hp => exact (Reps.c8 (show Kd.M k30 _ _ _ (⟨1, (⟨#[120]⟩ : ByteArray), (⟨#[]⟩ : ByteArray), (⟨#[]⟩ : ByteArray), (⟨#[]⟩ : ByteArray), 1, 0, 0⟩ : Stmt) [.int .i64 1, .string (⟨#[120]⟩ : ByteArray), .string (⟨#[]⟩ : ByteArray), .string (⟨#[]⟩ : ByteArray), .string (⟨#[]⟩ : ByteArray), .int .i64 1, .int .i64 0, .int .i64 0] from (k30_mkM _ _ _ (⟨1, (⟨#[120]⟩ : ByteArray), (⟨#[]⟩ : ByteArray), (⟨#[]⟩ : ByteArray), (⟨#[]⟩ : ByteArray), 1, 0, 0⟩ : Stmt) )) (Reps.c8 (show Kd.M k30 _ _ _ (⟨6, (⟨#[]⟩ : ByteArray), (⟨#[120]⟩ : ByteArray), (⟨#[]⟩ : ByteArray), (⟨#[]⟩ : ByteArray), 0, 0, 0⟩ : Stmt) [.int .i64 6, .string (⟨#[]⟩ : ByteArray), .string (⟨#[120]⟩ : ByteArray), .string (⟨#[]⟩ : ByteArray), .string (⟨#[]⟩ : ByteArray), .int .i64 0, .int .i64 0, .int .i64 0] from (k30_mkM _ _ _ (⟨6, (⟨#[]⟩ : ByteArray), (⟨#[120]⟩ : ByteArray), (⟨#[]⟩ : ByteArray), (⟨#[]⟩ : ByteArray), 0, 0, 0⟩ : Stmt) )) (Reps.c8 (show Kd.M k30 _ _ _ (⟨9, (⟨#[]⟩ : ByteArray), (⟨#[]⟩ : ByteArray), (⟨#[]⟩ : ByteArray), (⟨#[]⟩ : ByteArray), 0, 0, 0⟩ : Stmt) [.int .i64 9, .string (⟨#[]⟩ : ByteArray), .string (⟨#[]⟩ : ByteArray), .string (⟨#[]⟩ : ByteArray), .string (⟨#[]⟩ : ByteArray), .int .i64 0, .int .i64 0, .int .i64 0] from (k30_mkM _ _ _ (⟨9, (⟨#[]⟩ : ByteArray), (⟨#[]⟩ : ByteArray), (⟨#[]⟩ : ByteArray), (⟨#[]⟩ : ByteArray), 0, 0, 0⟩ : Stmt) )) (Reps.none _ _))))); intro v102 w17 ho18 hb hg_ hnew_; clear hg_ hnew_; (first | rw [← Ny101.out] at ho18 | (simp only [Int.reduceToNat] at ho18; rw [← Ny101.out] at ho18)); have HO103 := am (Kd.R_lower ho18 (below_size (by repeat (first | (with_reducible first | exact HB.out | apply lA | apply lN | apply lD) | exact HB.out)))); replace HB := am (below_step (by repeat (first | (with_reducible first | exact HB.out | apply lA | apply lN | apply lD) | exact HB.out)) hb); clear hb ho18; obtain ⟨Ao19, co19, eo19⟩ := Kd.R_slice HO103.out; subst eo19) | ((with_reducible refine gate_callee (f := 23) rfl ?_); refine goesL_ (some 7) rfl rfl Try.func23 (by kernel_rfl) rfl #[.slice Ao19 y101.length co19, .int .i64 1, .string (⟨#[120]⟩ : ByteArray), .int .i64 0] rfl (by (try simp only [List.map_toArray, List.map_cons, List.map_nil]); first | done | rfl | (simp only [List.length_drop, List.length_take]; rfl)) ?_; (with_reducible refine (cfg_Reaches.calls k _ _ y101 1 (⟨#[120]⟩ : ByteArray) 0 true _ ?side1 ?side2 A1.out).mono ?_); (case side1 => repeat (first | exact (Kd.R_reads' HO103.out).2.2 | (with_reducible refine Kd.C_alloc ?_ _) | (with_reducible refine Kd.C_drewN ?_ _) | (with_reducible refine Kd.C_drew ?_))); (case side2 => exact (Kd.R_reads' HO103.out).2.1); rintro e w20 ⟨rfl, hb⟩; refine ⟨_, rfl, ?_⟩; replace HO103 := am (Kd.R_below (by (with_reducible repeat (first | apply Ra | apply Rn | apply Rd)); exact HO103.out) hb); replace HB := am (below_step (by repeat (first | (with_reducible first | exact HB.out | apply lA | apply lN | apply lD) | exact HB.out)) hb); (try clear hb); (try clear hb2); (try clear hk); (try clear hi)) | (go_at_call 23; (with_reducible refine (cfg_Reaches.calls k _ _ y101 2 (⟨#[120]⟩ : ByteArray) 0 true _ ?side1 ?side2 A3.out).mono ?_); (case side1 => repeat (first | exact (Kd.R_reads' HO103.out).2.2 | (with_reducible refine Kd.C_alloc ?_ _) | (with_reducible refine Kd.C_drewN ?_ _) | (with_reducible refine Kd.C_drew ?_))); (case side2 => exact (Kd.R_reads' HO103.out).2.1); rintro e w21 ⟨rfl, hb⟩; replace HO103 := am (Kd.R_below (by (with_reducible repeat (first | apply Ra | apply Rn | apply Rd)); exact HO103.out) hb); replace HB := am (below_step (by repeat (first | (with_reducible first | exact HB.out | apply lA | apply lN | apply lD) | exact HB.out)) hb); (try clear hb); (try clear hb2); (try clear hk); (try clear hi)) | (go_at_call 23; (with_reducible refine (cfg_Reaches.calls k _ _ y101 0 (⟨#[120]⟩ : ByteArray) 0 false _ ?side1 ?side2 A5.out).mono ?_); (case side1 => repeat (first | exact (Kd.R_reads' HO103.out).2.2 | (with_reducible refine Kd.C_alloc ?_ _) | (with_reducible refine Kd.C_drewN ?_ _) | (with_reducible refine Kd.C_drew ?_))); (case side2 => exact (Kd.R_reads' HO103.out).2.1); rintro e w22 ⟨rfl, hb⟩; replace HO103 := am (Kd.R_below (by (with_reducible repeat (first | apply Ra | apply Rn | apply Rd)); exact HO103.out) hb); replace HB := am (below_step (by repeat (first | (with_reducible first | exact HB.out | apply lA | apply lN | apply lD) | exact HB.out)) hb); (try clear hb); (try clear hb2); (try clear hk); (try clear hi)) | (go_at_call 18; (with_reducible refine (cfg_Lives.calls k _ _ y101 1 (⟨#[120]⟩ : ByteArray) true _ ?side1 ?side2 A13.out).mono ?_); (case side1 => repeat (first | exact (Kd.R_reads' HO103.out).2.2 | (with_reducible refine Kd.C_alloc ?_ _) | (with_reducible refine Kd.C_drewN ?_ _) | (with_reducible refine Kd.C_drew ?_))); (case side2 => exact (Kd.R_reads' HO103.out).2.1); rintro e w23 ⟨rfl, hb⟩; replace HO103 := am (Kd.R_below (by (with_reducible repeat (first | apply Ra | apply Rn | apply Rd)); exact HO103.out) hb); replace HB := am (below_step (by repeat (first | (with_reducible first | exact HB.out | apply lA | apply lN | apply lD) | exact HB.out)) hb); (try clear hb); (try clear hb2); (try clear hk); (try clear hi)) | (go_at_call 18; (with_reducible refine (cfg_Lives.calls k _ _ y101 0 (⟨#[120]⟩ : ByteArray) true _ ?side1 ?side2 A15.out).mono ?_); (case side1 => repeat (first | exact (Kd.R_reads' HO103.out).2.2 | (with_reducible refine Kd.C_alloc ?_ _) | (with_reducible refine Kd.C_drewN ?_ _) | (with_reducible refine Kd.C_drew ?_))); (case side2 => exact (Kd.R_reads' HO103.out).2.1); rintro e w24 ⟨rfl, hb⟩; replace HO103 := am (Kd.R_below (by (with_reducible repeat (first | apply Ra | apply Rn | apply Rd)); exact HO103.out) hb); replace HB := am (below_step (by repeat (first | (with_reducible first | exact HB.out | apply lA | apply lN | apply lD) | exact HB.out)) hb); (try clear hb); (try clear hb2); (try clear hk); (try clear hi)))
      go_ret
      exact ⟨by first | rfl | (simp [errW_none, errW_some] <;> rfl) | (simp [*, errW_none, errW_some] <;> rfl), by repeat (first | (with_reducible first | exact HB.out | apply lA | apply lN | apply lD) | exact HB.out)⟩
     ·replace c16 := Bool.eq_false_iff.mpr c16
      subst c16
      have H1 : ((cfg_Lives.f k y101 2 (⟨#[120]⟩ : ByteArray)).bind fun t109 => (if t109 = true then (some false) else ((cfg_Next.f y101 1).bind fun t110 => ((lambrequinref10_Ints.f k t110 (([2] : List Int))).bind fun t116 => (some t116))))) = some r := by rw [if_neg (show ¬ (false = true) by decide)] at H; exact H
      clear H
      have H := H1
      clear H1
      replace H := Option.bind_eq_some_iff.mp H
      obtain ⟨t109, A250, H⟩ := H
      replace H : (if t109 = true then (some false) else ((cfg_Next.f y101 1).bind fun t110 => ((lambrequinref10_Ints.f k t110 (([2] : List Int))).bind fun t116 => (some t116)))) = some r := H
      have A25 := am A250
      clear A250
      by_cases c26 : t109 = true
      ·subst c26
       have H1 : (some false) = some r := by rw [if_pos rfl] at H; exact H
       clear H
       have H := H1
       clear H1
       obtain rfl := Option.some.inj H
       go_enter Try.func17, Try.ntmps17
       go_wp2_with (first | ((with_reducible refine gate_dst (N := 5) rfl ?_); (try (refine gate_guard (by rfl) ?_; dsimp only)); refine Kd.R_lit k30 _ 30 ?hg (N := 5) ?hd (xs := ([(⟨1, (⟨#[120]⟩ : ByteArray), (⟨#[]⟩ : ByteArray), (⟨#[]⟩ : ByteArray), (⟨#[]⟩ : ByteArray), 1, 0, 0⟩ : Stmt), (⟨6, (⟨#[]⟩ : ByteArray), (⟨#[120]⟩ : ByteArray), (⟨#[]⟩ : ByteArray), (⟨#[]⟩ : ByteArray), 0, 0, 0⟩ : Stmt), (⟨9, (⟨#[]⟩ : ByteArray), (⟨#[]⟩ : ByteArray), (⟨#[]⟩ : ByteArray), (⟨#[]⟩ : ByteArray), 0, 0, 0⟩ : Stmt)] : List (Stmt))) (inner := [.int .i64 1, .string (⟨#[120]⟩ : ByteArray), .string (⟨#[]⟩ : ByteArray), .string (⟨#[]⟩ : ByteArray), .string (⟨#[]⟩ : ByteArray), .int .i64 1, .int .i64 0, .int .i64 0, .int .i64 6, .string (⟨#[]⟩ : ByteArray), .string (⟨#[120]⟩ : ByteArray), .string (⟨#[]⟩ : ByteArray), .string (⟨#[]⟩ : ByteArray), .int .i64 0, .int .i64 0, .int .i64 0, .int .i64 9, .string (⟨#[]⟩ : ByteArray), .string (⟨#[]⟩ : ByteArray), .string (⟨#[]⟩ : ByteArray), .string (⟨#[]⟩ : ByteArray), .int .i64 0, .int .i64 0, .int .i64 0]) (ok := fun _ => True) (okp := fun _ => True) ?hr ?hp (fun _ hk => hk) trivial (Below.refl _ _) (Nat.le_refl _) (by simp) ?_; (case hd => rfl); (case hg => rfl); (case hr => first | (go_simp; done) | (go_simp; rfl)); (case hp => exact (Reps.c8 (show Kd.M k30 _ _ _ (⟨1, (⟨#[120]⟩ : ByteArray), (⟨#[]⟩ : ByteArray), (⟨#[]⟩ : ByteArray), (⟨#[]⟩ : ByteArray), 1, 0, 0⟩ : Stmt) [.int .i64 1, .string (⟨#[120]⟩ : ByteArray), .string (⟨#[]⟩ : ByteArray), .string (⟨#[]⟩ : ByteArray), .string (⟨#[]⟩ : ByteArray), .int .i64 1, .int .i64 0, .int .i64 0] from (k30_mkM _ _ _ (⟨1, (⟨#[120]⟩ : ByteArray), (⟨#[]⟩ : ByteArray), (⟨#[]⟩ : ByteArray), (⟨#[]⟩ : ByteArray), 1, 0, 0⟩ : Stmt) )) (Reps.c8 (show Kd.M k30 _ _ _ (⟨6, (⟨#[]⟩ : ByteArray), (⟨#[120]⟩ : ByteArray), (⟨#[]⟩ : ByteArray), (⟨#[]⟩ : ByteArray), 0, 0, 0⟩ : Stmt) [.int .i64 6, .string (⟨#[]⟩ : ByteArray), .string (⟨#[120]⟩ : ByteArray), .string (⟨#[]⟩ : ByteArray), .string (⟨#[]⟩ : ByteArray), .int .i64 0, .int .i64 0, .int .i64 0] from (k30_mkM _ _ _ (⟨6, (⟨#[]⟩ : ByteArray), (⟨#[120]⟩ : ByteArray), (⟨#[]⟩ : ByteArray), (⟨#[]⟩ : ByteArray), 0, 0, 0⟩ : Stmt) )) (Reps.c8 (show Kd.M k30 _ _ _ (⟨9, (⟨#[]⟩ : ByteArray), (⟨#[]⟩ : ByteArray), (⟨#[]⟩ : ByteArray), (⟨#[]⟩ : ByteArray), 0, 0, 0⟩ : Stmt) [.int .i64 9, .string (⟨#[]⟩ : ByteArray), .string (⟨#[]⟩ : ByteArray), .string (⟨#[]⟩ : ByteArray), .string (⟨#[]⟩ : ByteArray), .int .i64 0, .int .i64 0, .int .i64 0] from (k30_mkM _ _ _ (⟨9, (⟨#[]⟩ : ByteArray), (⟨#[]⟩ : ByteArray), (⟨#[]⟩ : ByteArray), (⟨#[]⟩ : ByteArray), 0, 0, 0⟩ : Stmt) )) (Reps.none _ _))))); intro v102 w27 ho28 hb hg_ hnew_; clear hg_ hnew_; (first | rw [← Ny101.out] at ho28 | (simp only [Int.reduceToNat] at ho28; rw [← Ny101.out] at ho28)); have HO103 := am (Kd.R_lower ho28 (below_size (by repeat (first | (with_reducible first | exact HB.out | apply lA | apply lN | apply lD) | exact HB.out)))); replace HB := am (below_step (by repeat (first | (with_reducible first | exact HB.out | apply lA | apply lN | apply lD) | exact HB.out)) hb); clear hb ho28; obtain ⟨Ao29, co29, eo29⟩ := Kd.R_slice HO103.out; subst eo29) | ((with_reducible refine gate_callee (f := 23) rfl ?_); refine goesL_ (some 7) rfl rfl Try.func23 (by kernel_rfl) rfl #[.slice Ao29 y101.length co29, .int .i64 1, .string (⟨#[120]⟩ : ByteArray), .int .i64 0] rfl (by (try simp only [List.map_toArray, List.map_cons, List.map_nil]); first | done | rfl | (simp only [List.length_drop, List.length_take]; rfl)) ?_; (with_reducible refine (cfg_Reaches.calls k _ _ y101 1 (⟨#[120]⟩ : ByteArray) 0 true _ ?side1 ?side2 A1.out).mono ?_); (case side1 => repeat (first | exact (Kd.R_reads' HO103.out).2.2 | (with_reducible refine Kd.C_alloc ?_ _) | (with_reducible refine Kd.C_drewN ?_ _) | (with_reducible refine Kd.C_drew ?_))); (case side2 => exact (Kd.R_reads' HO103.out).2.1); rintro e w30 ⟨rfl, hb⟩; refine ⟨_, rfl, ?_⟩; replace HO103 := am (Kd.R_below (by (with_reducible repeat (first | apply Ra | apply Rn | apply Rd)); exact HO103.out) hb); replace HB := am (below_step (by repeat (first | (with_reducible first | exact HB.out | apply lA | apply lN | apply lD) | exact HB.out)) hb); (try clear hb); (try clear hb2); (try clear hk); (try clear hi)) | (go_at_call 23; (with_reducible refine (cfg_Reaches.calls k _ _ y101 2 (⟨#[120]⟩ : ByteArray) 0 true _ ?side1 ?side2 A3.out).mono ?_); (case side1 => repeat (first | exact (Kd.R_reads' HO103.out).2.2 | (with_reducible refine Kd.C_alloc ?_ _) | (with_reducible refine Kd.C_drewN ?_ _) | (with_reducible refine Kd.C_drew ?_))); (case side2 => exact (Kd.R_reads' HO103.out).2.1); rintro e w31 ⟨rfl, hb⟩; replace HO103 := am (Kd.R_below (by (with_reducible repeat (first | apply Ra | apply Rn | apply Rd)); exact HO103.out) hb); replace HB := am (below_step (by repeat (first | (with_reducible first | exact HB.out | apply lA | apply lN | apply lD) | exact HB.out)) hb); (try clear hb); (try clear hb2); (try clear hk); (try clear hi)) | (go_at_call 23; (with_reducible refine (cfg_Reaches.calls k _ _ y101 0 (⟨#[120]⟩ : ByteArray) 0 false _ ?side1 ?side2 A5.out).mono ?_); (case side1 => repeat (first | exact (Kd.R_reads' HO103.out).2.2 | (with_reducible refine Kd.C_alloc ?_ _) | (with_reducible refine Kd.C_drewN ?_ _) | (with_reducible refine Kd.C_drew ?_))); (case side2 => exact (Kd.R_reads' HO103.out).2.1); rintro e w32 ⟨rfl, hb⟩; replace HO103 := am (Kd.R_below (by (with_reducible repeat (first | apply Ra | apply Rn | apply Rd)); exact HO103.out) hb); replace HB := am (below_step (by repeat (first | (with_reducible first | exact HB.out | apply lA | apply lN | apply lD) | exact HB.out)) hb); (try clear hb); (try clear hb2); (try clear hk); (try clear hi)) | (go_at_call 18; (with_reducible refine (cfg_Lives.calls k _ _ y101 1 (⟨#[120]⟩ : ByteArray) true _ ?side1 ?side2 A13.out).mono ?_); (case side1 => repeat (first | exact (Kd.R_reads' HO103.out).2.2 | (with_reducible refine Kd.C_alloc ?_ _) | (with_reducible refine Kd.C_drewN ?_ _) | (with_reducible refine Kd.C_drew ?_))); (case side2 => exact (Kd.R_reads' HO103.out).2.1); rintro e w33 ⟨rfl, hb⟩; replace HO103 := am (Kd.R_below (by (with_reducible repeat (first | apply Ra | apply Rn | apply Rd)); exact HO103.out) hb); replace HB := am (below_step (by repeat (first | (with_reducible first | exact HB.out | apply lA | apply lN | apply lD) | exact HB.out)) hb); (try clear hb); (try clear hb2); (try clear hk); (try clear hi)) | (go_at_call 18; (with_reducible refine (cfg_Lives.calls k _ _ y101 0 (⟨#[120]⟩ : ByteArray) false _ ?side1 ?side2 A15.out).mono ?_); (case side1 => repeat (first | exact (Kd.R_reads' HO103.out).2.2 | (with_reducible refine Kd.C_alloc ?_ _) | (with_reducible refine Kd.C_drewN ?_ _) | (with_reducible refine Kd.C_drew ?_))); (case side2 => exact (Kd.R_reads' HO103.out).2.1); rintro e w34 ⟨rfl, hb⟩; replace HO103 := am (Kd.R_below (by (with_reducible repeat (first | apply Ra | apply Rn | apply Rd)); exact HO103.out) hb); replace HB := am (below_step (by repeat (first | (with_reducible first | exact HB.out | apply lA | apply lN | apply lD) | exact HB.out)) hb); (try clear hb); (try clear hb2); (try clear hk); (try clear hi)) | (go_at_call 18; (with_reducible refine (cfg_Lives.calls k _ _ y101 2 (⟨#[120]⟩ : ByteArray) true _ ?side1 ?side2 A25.out).mono ?_); (case side1 => repeat (first | exact (Kd.R_reads' HO103.out).2.2 | (with_reducible refine Kd.C_alloc ?_ _) | (with_reducible refine Kd.C_drewN ?_ _) | (with_reducible refine Kd.C_drew ?_))); (case side2 => exact (Kd.R_reads' HO103.out).2.1); rintro e w35 ⟨rfl, hb⟩; replace HO103 := am (Kd.R_below (by (with_reducible repeat (first | apply Ra | apply Rn | apply Rd)); exact HO103.out) hb); replace HB := am (below_step (by repeat (first | (with_reducible first | exact HB.out | apply lA | apply lN | apply lD) | exact HB.out)) hb); (try clear hb); (try clear hb2); (try clear hk); (try clear hi)))
       go_ret
       exact ⟨by first | rfl | (simp [errW_none, errW_some] <;> rfl) | (simp [*, errW_none, errW_some] <;> rfl), by repeat (first | (with_reducible first | exact HB.out | apply lA | apply lN | apply lD) | exact HB.out)⟩
      ·replace c26 := Bool.eq_false_iff.mpr c26
       subst c26
       have H1 : ((cfg_Next.f y101 1).bind fun t110 => ((lambrequinref10_Ints.f k t110 (([2] : List Int))).bind fun t116 => (some t116))) = some r := by rw [if_neg (show ¬ (false = true) by decide)] at H; exact H
       clear H
       have H := H1
       clear H1
       replace H := Option.bind_eq_some_iff.mp H
       obtain ⟨t110, A360, H⟩ := H
       replace H : ((lambrequinref10_Ints.f k t110 (([2] : List Int))).bind fun t116 => (some t116)) = some r := H
       have A36 := am A360
       clear A360
       obtain ⟨y113, hy113⟩ : ∃ y_ : List Int, y_ = (([2] : List Int)) := ⟨_, rfl⟩
       replace H : ((lambrequinref10_Ints.f k t110 y113).bind fun t116 => (some t116)) = some r := by first | (rw [hy113]; with_reducible exact H) | (have H2_ := (Option.bind_some _ _).symm.trans H; rw [hy113]; with_reducible exact H2_) | (have H2_ := (Option.bind_some _ _).symm.trans H; with_reducible exact H2_) | with_reducible exact H | (rw [hy113]; exact H) | exact H
       have Ny113 := am hy113
       clear hy113
       replace H := Option.bind_eq_some_iff.mp H
       obtain ⟨t116, A370, H⟩ := H
       replace H : (some t116) = some r := H
       have A37 := am A370
       clear A370
       obtain rfl := Option.some.inj H
       go_enter Try.func17, Try.ntmps17
       go_wp2_with (first | ((with_reducible refine gate_dst (N := 5) rfl ?_); (try (refine gate_guard (by rfl) ?_; dsimp only)); refine Kd.R_lit k30 _ 30 ?hg (N := 5) ?hd (xs := ([(⟨1, (⟨#[120]⟩ : ByteArray), (⟨#[]⟩ : ByteArray), (⟨#[]⟩ : ByteArray), (⟨#[]⟩ : ByteArray), 1, 0, 0⟩ : Stmt), (⟨6, (⟨#[]⟩ : ByteArray), (⟨#[120]⟩ : ByteArray), (⟨#[]⟩ : ByteArray), (⟨#[]⟩ : ByteArray), 0, 0, 0⟩ : Stmt), (⟨9, (⟨#[]⟩ : ByteArray), (⟨#[]⟩ : ByteArray), (⟨#[]⟩ : ByteArray), (⟨#[]⟩ : ByteArray), 0, 0, 0⟩ : Stmt)] : List (Stmt))) (inner := [.int .i64 1, .string (⟨#[120]⟩ : ByteArray), .string (⟨#[]⟩ : ByteArray), .string (⟨#[]⟩ : ByteArray), .string (⟨#[]⟩ : ByteArray), .int .i64 1, .int .i64 0, .int .i64 0, .int .i64 6, .string (⟨#[]⟩ : ByteArray), .string (⟨#[120]⟩ : ByteArray), .string (⟨#[]⟩ : ByteArray), .string (⟨#[]⟩ : ByteArray), .int .i64 0, .int .i64 0, .int .i64 0, .int .i64 9, .string (⟨#[]⟩ : ByteArray), .string (⟨#[]⟩ : ByteArray), .string (⟨#[]⟩ : ByteArray), .string (⟨#[]⟩ : ByteArray), .int .i64 0, .int .i64 0, .int .i64 0]) (ok := fun _ => True) (okp := fun _ => True) ?hr ?hp (fun _ hk => hk) trivial (Below.refl _ _) (Nat.le_refl _) (by simp) ?_; (case hd => rfl); (case hg => rfl); (case hr => first | (go_simp; done) | (go_simp; rfl)); (case hp => exact (Reps.c8 (show Kd.M k30 _ _ _ (⟨1, (⟨#[120]⟩ : ByteArray), (⟨#[]⟩ : ByteArray), (⟨#[]⟩ : ByteArray), (⟨#[]⟩ : ByteArray), 1, 0, 0⟩ : Stmt) [.int .i64 1, .string (⟨#[120]⟩ : ByteArray), .string (⟨#[]⟩ : ByteArray), .string (⟨#[]⟩ : ByteArray), .string (⟨#[]⟩ : ByteArray), .int .i64 1, .int .i64 0, .int .i64 0] from (k30_mkM _ _ _ (⟨1, (⟨#[120]⟩ : ByteArray), (⟨#[]⟩ : ByteArray), (⟨#[]⟩ : ByteArray), (⟨#[]⟩ : ByteArray), 1, 0, 0⟩ : Stmt) )) (Reps.c8 (show Kd.M k30 _ _ _ (⟨6, (⟨#[]⟩ : ByteArray), (⟨#[120]⟩ : ByteArray), (⟨#[]⟩ : ByteArray), (⟨#[]⟩ : ByteArray), 0, 0, 0⟩ : Stmt) [.int .i64 6, .string (⟨#[]⟩ : ByteArray), .string (⟨#[120]⟩ : ByteArray), .string (⟨#[]⟩ : ByteArray), .string (⟨#[]⟩ : ByteArray), .int .i64 0, .int .i64 0, .int .i64 0] from (k30_mkM _ _ _ (⟨6, (⟨#[]⟩ : ByteArray), (⟨#[120]⟩ : ByteArray), (⟨#[]⟩ : ByteArray), (⟨#[]⟩ : ByteArray), 0, 0, 0⟩ : Stmt) )) (Reps.c8 (show Kd.M k30 _ _ _ (⟨9, (⟨#[]⟩ : ByteArray), (⟨#[]⟩ : ByteArray), (⟨#[]⟩ : ByteArray), (⟨#[]⟩ : ByteArray), 0, 0, 0⟩ : Stmt) [.int .i64 9, .string (⟨#[]⟩ : ByteArray), .string (⟨#[]⟩ : ByteArray), .string (⟨#[]⟩ : ByteArray), .string (⟨#[]⟩ : ByteArray), .int .i64 0, .int .i64 0, .int .i64 0] from (k30_mkM _ _ _ (⟨9, (⟨#[]⟩ : ByteArray), (⟨#[]⟩ : ByteArray), (⟨#[]⟩ : ByteArray), (⟨#[]⟩ : ByteArray), 0, 0, 0⟩ : Stmt) )) (Reps.none _ _))))); intro v102 w38 ho39 hb hg_ hnew_; clear hg_ hnew_; (first | rw [← Ny101.out] at ho39 | (simp only [Int.reduceToNat] at ho39; rw [← Ny101.out] at ho39)); have HO103 := am (Kd.R_lower ho39 (below_size (by repeat (first | (with_reducible first | exact HB.out | apply lA | apply lN | apply lD) | exact HB.out)))); replace HB := am (below_step (by repeat (first | (with_reducible first | exact HB.out | apply lA | apply lN | apply lD) | exact HB.out)) hb); clear hb ho39; obtain ⟨Ao40, co40, eo40⟩ := Kd.R_slice HO103.out; subst eo40) | ((with_reducible refine gate_callee (f := 23) rfl ?_); refine goesL_ (some 7) rfl rfl Try.func23 (by kernel_rfl) rfl #[.slice Ao40 y101.length co40, .int .i64 1, .string (⟨#[120]⟩ : ByteArray), .int .i64 0] rfl (by (try simp only [List.map_toArray, List.map_cons, List.map_nil]); first | done | rfl | (simp only [List.length_drop, List.length_take]; rfl)) ?_; (with_reducible refine (cfg_Reaches.calls k _ _ y101 1 (⟨#[120]⟩ : ByteArray) 0 true _ ?side1 ?side2 A1.out).mono ?_); (case side1 => repeat (first | exact (Kd.R_reads' HO103.out).2.2 | (with_reducible refine Kd.C_alloc ?_ _) | (with_reducible refine Kd.C_drewN ?_ _) | (with_reducible refine Kd.C_drew ?_))); (case side2 => exact (Kd.R_reads' HO103.out).2.1); rintro e w41 ⟨rfl, hb⟩; refine ⟨_, rfl, ?_⟩; replace HO103 := am (Kd.R_below (by (with_reducible repeat (first | apply Ra | apply Rn | apply Rd)); exact HO103.out) hb); replace HB := am (below_step (by repeat (first | (with_reducible first | exact HB.out | apply lA | apply lN | apply lD) | exact HB.out)) hb); (try clear hb); (try clear hb2); (try clear hk); (try clear hi)) | (go_at_call 23; (with_reducible refine (cfg_Reaches.calls k _ _ y101 2 (⟨#[120]⟩ : ByteArray) 0 true _ ?side1 ?side2 A3.out).mono ?_); (case side1 => repeat (first | exact (Kd.R_reads' HO103.out).2.2 | (with_reducible refine Kd.C_alloc ?_ _) | (with_reducible refine Kd.C_drewN ?_ _) | (with_reducible refine Kd.C_drew ?_))); (case side2 => exact (Kd.R_reads' HO103.out).2.1); rintro e w42 ⟨rfl, hb⟩; replace HO103 := am (Kd.R_below (by (with_reducible repeat (first | apply Ra | apply Rn | apply Rd)); exact HO103.out) hb); replace HB := am (below_step (by repeat (first | (with_reducible first | exact HB.out | apply lA | apply lN | apply lD) | exact HB.out)) hb); (try clear hb); (try clear hb2); (try clear hk); (try clear hi)) | (go_at_call 23; (with_reducible refine (cfg_Reaches.calls k _ _ y101 0 (⟨#[120]⟩ : ByteArray) 0 false _ ?side1 ?side2 A5.out).mono ?_); (case side1 => repeat (first | exact (Kd.R_reads' HO103.out).2.2 | (with_reducible refine Kd.C_alloc ?_ _) | (with_reducible refine Kd.C_drewN ?_ _) | (with_reducible refine Kd.C_drew ?_))); (case side2 => exact (Kd.R_reads' HO103.out).2.1); rintro e w43 ⟨rfl, hb⟩; replace HO103 := am (Kd.R_below (by (with_reducible repeat (first | apply Ra | apply Rn | apply Rd)); exact HO103.out) hb); replace HB := am (below_step (by repeat (first | (with_reducible first | exact HB.out | apply lA | apply lN | apply lD) | exact HB.out)) hb); (try clear hb); (try clear hb2); (try clear hk); (try clear hi)) | (go_at_call 18; (with_reducible refine (cfg_Lives.calls k _ _ y101 1 (⟨#[120]⟩ : ByteArray) true _ ?side1 ?side2 A13.out).mono ?_); (case side1 => repeat (first | exact (Kd.R_reads' HO103.out).2.2 | (with_reducible refine Kd.C_alloc ?_ _) | (with_reducible refine Kd.C_drewN ?_ _) | (with_reducible refine Kd.C_drew ?_))); (case side2 => exact (Kd.R_reads' HO103.out).2.1); rintro e w44 ⟨rfl, hb⟩; replace HO103 := am (Kd.R_below (by (with_reducible repeat (first | apply Ra | apply Rn | apply Rd)); exact HO103.out) hb); replace HB := am (below_step (by repeat (first | (with_reducible first | exact HB.out | apply lA | apply lN | apply lD) | exact HB.out)) hb); (try clear hb); (try clear hb2); (try clear hk); (try clear hi)) | (go_at_call 18; (with_reducible refine (cfg_Lives.calls k _ _ y101 0 (⟨#[120]⟩ : ByteArray) false _ ?side1 ?side2 A15.out).mono ?_); (case side1 => repeat (first | exact (Kd.R_reads' HO103.out).2.2 | (with_reducible refine Kd.C_alloc ?_ _) | (with_reducible refine Kd.C_drewN ?_ _) | (with_reducible refine Kd.C_drew ?_))); (case side2 => exact (Kd.R_reads' HO103.out).2.1); rintro e w45 ⟨rfl, hb⟩; replace HO103 := am (Kd.R_below (by (with_reducible repeat (first | apply Ra | apply Rn | apply Rd)); exact HO103.out) hb); replace HB := am (below_step (by repeat (first | (with_reducible first | exact HB.out | apply lA | apply lN | apply lD) | exact HB.out)) hb); (try clear hb); (try clear hb2); (try clear hk); (try clear hi)) | (go_at_call 18; (with_reducible refine (cfg_Lives.calls k _ _ y101 2 (⟨#[120]⟩ : ByteArray) false _ ?side1 ?side2 A25.out).mono ?_); (case side1 => repeat (first | exact (Kd.R_reads' HO103.out).2.2 | (with_reducible refine Kd.C_alloc ?_ _) | (with_reducible refine Kd.C_drewN ?_ _) | (with_reducible refine Kd.C_drew ?_))); (case side2 => exact (Kd.R_reads' HO103.out).2.1); rintro e w46 ⟨rfl, hb⟩; replace HO103 := am (Kd.R_below (by (with_reducible repeat (first | apply Ra | apply Rn | apply Rd)); exact HO103.out) hb); replace HB := am (below_step (by repeat (first | (with_reducible first | exact HB.out | apply lA | apply lN | apply lD) | exact HB.out)) hb); (try clear hb); (try clear hb2); (try clear hk); (try clear hi)) | (go_at_call 19; (with_reducible refine (cfg_Next.calls _ _ y101 1 t110 _ ?side1 ?side2 A36.out).mono ?_); (case side1 => repeat (first | exact (Kd.R_reads' HO103.out).2.2 | (with_reducible refine Kd.C_alloc ?_ _) | (with_reducible refine Kd.C_drewN ?_ _) | (with_reducible refine Kd.C_drew ?_))); (case side2 => exact (Kd.R_reads' HO103.out).2.1); rintro e w47 ⟨v111, rfl, ho0, hb⟩; replace HO103 := am (Kd.R_below (by (with_reducible repeat (first | apply Ra | apply Rn | apply Rd)); exact HO103.out) hb); have HO112 := am (Kd.R_lower ho0 (below_size (by repeat (first | (with_reducible first | exact HB.out | apply lA | apply lN | apply lD) | exact HB.out)))); replace HB := am (below_step (by repeat (first | (with_reducible first | exact HB.out | apply lA | apply lN | apply lD) | exact HB.out)) hb); (try clear hb); (try clear hb2); (try clear hk); (try clear hi); (try clear ho0)) | ((with_reducible refine gate_dst (N := 34) rfl ?_); (try (refine gate_guard (by rfl) ?_; dsimp only)); refine Kd.R_lit (Kd.int .i64) _ 3 ?hg (N := 34) ?hd (xs := ([2] : List Int)) (inner := [.int .i64 2]) (ok := fun _ => True) (okp := fun _ => True) ?hr ?hp (fun _ hk => hk) trivial (Below.refl _ _) (Nat.le_refl _) (by simp) ?_; (case hd => rfl); (case hg => rfl); (case hr => first | (go_simp; done) | (go_simp; rfl)); (case hp => exact (Reps.one (show Kd.M (Kd.int .i64) _ _ _ 2 [.int .i64 2] from rfl) (Reps.none _ _))); intro v114 w48 ho49 hb hg_ hnew_; clear hg_ hnew_; (first | rw [← Ny113.out] at ho49 | (simp only [Int.reduceToNat] at ho49; rw [← Ny113.out] at ho49)); replace HO103 := am (Kd.R_below (by (with_reducible repeat (first | apply Ra | apply Rn | apply Rd)); exact HO103.out) hb); have HO115 := am (Kd.R_lower (Kd.R_new' ho49 (Kd.R_lt (by (with_reducible repeat (first | apply Ra | apply Rn | apply Rd)); exact HO112.out))) (below_size (by repeat (first | (with_reducible first | exact HB.out | apply lA | apply lN | apply lD) | exact HB.out)))); replace HO112 := am (Kd.R_elder' (by (with_reducible repeat (first | apply Ra | apply Rn | apply Rd)); exact HO112.out) (Kd.R_base ho49) hb); replace HB := am (below_step (by repeat (first | (with_reducible first | exact HB.out | apply lA | apply lN | apply lD) | exact HB.out)) hb); clear hb ho49; obtain ⟨Ao50, co50, eo50⟩ := Kd.R_slice HO112.out; subst eo50; obtain ⟨Ao51, co51, eo51⟩ := Kd.R_slice HO115.out; subst eo51) | (go_at_call 26; (with_reducible refine (lambrequinref10_Ints.calls k _ _ t110 _ _ y113 t116 _ ?side1 ?side2 ?side3 ?side4 A37.out).mono ?_); (case side1 => repeat (first | exact (Kd.R_reads' HO112.out).2.2 | (with_reducible refine Kd.C_alloc ?_ _) | (with_reducible refine Kd.C_drewN ?_ _) | (with_reducible refine Kd.C_drew ?_))); (case side2 => exact (Kd.R_reads' HO112.out).2.1); (case side3 => repeat (first | exact (Kd.R_reads' HO115.out).2.2 | (with_reducible refine Kd.C_alloc ?_ _) | (with_reducible refine Kd.C_drewN ?_ _) | (with_reducible refine Kd.C_drew ?_))); (case side4 => exact (Kd.R_reads' HO115.out).2.1); rintro e w' ⟨rfl, ⟨nd, rfl⟩⟩))
       go_ret
       exact ⟨by first | rfl | (simp [errW_none, errW_some] <;> rfl) | (simp [*, errW_none, errW_some] <;> rfl), by repeat (first | (with_reducible first | exact HB.out | apply lA | apply lN | apply lD) | exact HB.out)⟩
    ·replace c14 := Bool.eq_false_iff.mpr c14
     subst c14
     have H1 : (some false) = some r := by rw [if_neg (show ¬ (false = true) by decide)] at H; exact H
     clear H
     have H := H1
     clear H1
     obtain rfl := Option.some.inj H
     go_enter Try.func17, Try.ntmps17
     go_wp2_with (first | ((with_reducible refine gate_dst (N := 5) rfl ?_); (try (refine gate_guard (by rfl) ?_; dsimp only)); refine Kd.R_lit k30 _ 30 ?hg (N := 5) ?hd (xs := ([(⟨1, (⟨#[120]⟩ : ByteArray), (⟨#[]⟩ : ByteArray), (⟨#[]⟩ : ByteArray), (⟨#[]⟩ : ByteArray), 1, 0, 0⟩ : Stmt), (⟨6, (⟨#[]⟩ : ByteArray), (⟨#[120]⟩ : ByteArray), (⟨#[]⟩ : ByteArray), (⟨#[]⟩ : ByteArray), 0, 0, 0⟩ : Stmt), (⟨9, (⟨#[]⟩ : ByteArray), (⟨#[]⟩ : ByteArray), (⟨#[]⟩ : ByteArray), (⟨#[]⟩ : ByteArray), 0, 0, 0⟩ : Stmt)] : List (Stmt))) (inner := [.int .i64 1, .string (⟨#[120]⟩ : ByteArray), .string (⟨#[]⟩ : ByteArray), .string (⟨#[]⟩ : ByteArray), .string (⟨#[]⟩ : ByteArray), .int .i64 1, .int .i64 0, .int .i64 0, .int .i64 6, .string (⟨#[]⟩ : ByteArray), .string (⟨#[120]⟩ : ByteArray), .string (⟨#[]⟩ : ByteArray), .string (⟨#[]⟩ : ByteArray), .int .i64 0, .int .i64 0, .int .i64 0, .int .i64 9, .string (⟨#[]⟩ : ByteArray), .string (⟨#[]⟩ : ByteArray), .string (⟨#[]⟩ : ByteArray), .string (⟨#[]⟩ : ByteArray), .int .i64 0, .int .i64 0, .int .i64 0]) (ok := fun _ => True) (okp := fun _ => True) ?hr ?hp (fun _ hk => hk) trivial (Below.refl _ _) (Nat.le_refl _) (by simp) ?_; (case hd => rfl); (case hg => rfl); (case hr => first | (go_simp; done) | (go_simp; rfl)); (case hp => exact (Reps.c8 (show Kd.M k30 _ _ _ (⟨1, (⟨#[120]⟩ : ByteArray), (⟨#[]⟩ : ByteArray), (⟨#[]⟩ : ByteArray), (⟨#[]⟩ : ByteArray), 1, 0, 0⟩ : Stmt) [.int .i64 1, .string (⟨#[120]⟩ : ByteArray), .string (⟨#[]⟩ : ByteArray), .string (⟨#[]⟩ : ByteArray), .string (⟨#[]⟩ : ByteArray), .int .i64 1, .int .i64 0, .int .i64 0] from (k30_mkM _ _ _ (⟨1, (⟨#[120]⟩ : ByteArray), (⟨#[]⟩ : ByteArray), (⟨#[]⟩ : ByteArray), (⟨#[]⟩ : ByteArray), 1, 0, 0⟩ : Stmt) )) (Reps.c8 (show Kd.M k30 _ _ _ (⟨6, (⟨#[]⟩ : ByteArray), (⟨#[120]⟩ : ByteArray), (⟨#[]⟩ : ByteArray), (⟨#[]⟩ : ByteArray), 0, 0, 0⟩ : Stmt) [.int .i64 6, .string (⟨#[]⟩ : ByteArray), .string (⟨#[120]⟩ : ByteArray), .string (⟨#[]⟩ : ByteArray), .string (⟨#[]⟩ : ByteArray), .int .i64 0, .int .i64 0, .int .i64 0] from (k30_mkM _ _ _ (⟨6, (⟨#[]⟩ : ByteArray), (⟨#[120]⟩ : ByteArray), (⟨#[]⟩ : ByteArray), (⟨#[]⟩ : ByteArray), 0, 0, 0⟩ : Stmt) )) (Reps.c8 (show Kd.M k30 _ _ _ (⟨9, (⟨#[]⟩ : ByteArray), (⟨#[]⟩ : ByteArray), (⟨#[]⟩ : ByteArray), (⟨#[]⟩ : ByteArray), 0, 0, 0⟩ : Stmt) [.int .i64 9, .string (⟨#[]⟩ : ByteArray), .string (⟨#[]⟩ : ByteArray), .string (⟨#[]⟩ : ByteArray), .string (⟨#[]⟩ : ByteArray), .int .i64 0, .int .i64 0, .int .i64 0] from (k30_mkM _ _ _ (⟨9, (⟨#[]⟩ : ByteArray), (⟨#[]⟩ : ByteArray), (⟨#[]⟩ : ByteArray), (⟨#[]⟩ : ByteArray), 0, 0, 0⟩ : Stmt) )) (Reps.none _ _))))); intro v102 w52 ho53 hb hg_ hnew_; clear hg_ hnew_; (first | rw [← Ny101.out] at ho53 | (simp only [Int.reduceToNat] at ho53; rw [← Ny101.out] at ho53)); have HO103 := am (Kd.R_lower ho53 (below_size (by repeat (first | (with_reducible first | exact HB.out | apply lA | apply lN | apply lD) | exact HB.out)))); replace HB := am (below_step (by repeat (first | (with_reducible first | exact HB.out | apply lA | apply lN | apply lD) | exact HB.out)) hb); clear hb ho53; obtain ⟨Ao54, co54, eo54⟩ := Kd.R_slice HO103.out; subst eo54) | ((with_reducible refine gate_callee (f := 23) rfl ?_); refine goesL_ (some 7) rfl rfl Try.func23 (by kernel_rfl) rfl #[.slice Ao54 y101.length co54, .int .i64 1, .string (⟨#[120]⟩ : ByteArray), .int .i64 0] rfl (by (try simp only [List.map_toArray, List.map_cons, List.map_nil]); first | done | rfl | (simp only [List.length_drop, List.length_take]; rfl)) ?_; (with_reducible refine (cfg_Reaches.calls k _ _ y101 1 (⟨#[120]⟩ : ByteArray) 0 true _ ?side1 ?side2 A1.out).mono ?_); (case side1 => repeat (first | exact (Kd.R_reads' HO103.out).2.2 | (with_reducible refine Kd.C_alloc ?_ _) | (with_reducible refine Kd.C_drewN ?_ _) | (with_reducible refine Kd.C_drew ?_))); (case side2 => exact (Kd.R_reads' HO103.out).2.1); rintro e w55 ⟨rfl, hb⟩; refine ⟨_, rfl, ?_⟩; replace HO103 := am (Kd.R_below (by (with_reducible repeat (first | apply Ra | apply Rn | apply Rd)); exact HO103.out) hb); replace HB := am (below_step (by repeat (first | (with_reducible first | exact HB.out | apply lA | apply lN | apply lD) | exact HB.out)) hb); (try clear hb); (try clear hb2); (try clear hk); (try clear hi)) | (go_at_call 23; (with_reducible refine (cfg_Reaches.calls k _ _ y101 2 (⟨#[120]⟩ : ByteArray) 0 true _ ?side1 ?side2 A3.out).mono ?_); (case side1 => repeat (first | exact (Kd.R_reads' HO103.out).2.2 | (with_reducible refine Kd.C_alloc ?_ _) | (with_reducible refine Kd.C_drewN ?_ _) | (with_reducible refine Kd.C_drew ?_))); (case side2 => exact (Kd.R_reads' HO103.out).2.1); rintro e w56 ⟨rfl, hb⟩; replace HO103 := am (Kd.R_below (by (with_reducible repeat (first | apply Ra | apply Rn | apply Rd)); exact HO103.out) hb); replace HB := am (below_step (by repeat (first | (with_reducible first | exact HB.out | apply lA | apply lN | apply lD) | exact HB.out)) hb); (try clear hb); (try clear hb2); (try clear hk); (try clear hi)) | (go_at_call 23; (with_reducible refine (cfg_Reaches.calls k _ _ y101 0 (⟨#[120]⟩ : ByteArray) 0 false _ ?side1 ?side2 A5.out).mono ?_); (case side1 => repeat (first | exact (Kd.R_reads' HO103.out).2.2 | (with_reducible refine Kd.C_alloc ?_ _) | (with_reducible refine Kd.C_drewN ?_ _) | (with_reducible refine Kd.C_drew ?_))); (case side2 => exact (Kd.R_reads' HO103.out).2.1); rintro e w57 ⟨rfl, hb⟩; replace HO103 := am (Kd.R_below (by (with_reducible repeat (first | apply Ra | apply Rn | apply Rd)); exact HO103.out) hb); replace HB := am (below_step (by repeat (first | (with_reducible first | exact HB.out | apply lA | apply lN | apply lD) | exact HB.out)) hb); (try clear hb); (try clear hb2); (try clear hk); (try clear hi)) | (go_at_call 18; (with_reducible refine (cfg_Lives.calls k _ _ y101 1 (⟨#[120]⟩ : ByteArray) false _ ?side1 ?side2 A13.out).mono ?_); (case side1 => repeat (first | exact (Kd.R_reads' HO103.out).2.2 | (with_reducible refine Kd.C_alloc ?_ _) | (with_reducible refine Kd.C_drewN ?_ _) | (with_reducible refine Kd.C_drew ?_))); (case side2 => exact (Kd.R_reads' HO103.out).2.1); rintro e w58 ⟨rfl, hb⟩; replace HO103 := am (Kd.R_below (by (with_reducible repeat (first | apply Ra | apply Rn | apply Rd)); exact HO103.out) hb); replace HB := am (below_step (by repeat (first | (with_reducible first | exact HB.out | apply lA | apply lN | apply lD) | exact HB.out)) hb); (try clear hb); (try clear hb2); (try clear hk); (try clear hi)))
     go_ret
     exact ⟨by first | rfl | (simp [errW_none, errW_some] <;> rfl) | (simp [*, errW_none, errW_some] <;> rfl), by repeat (first | (with_reducible first | exact HB.out | apply lA | apply lN | apply lD) | exact HB.out)⟩
  ·replace c4 := Bool.eq_false_iff.mpr c4
   subst c4
   have H1 : (some false) = some r := by rw [if_neg (show ¬ (false = true) by decide)] at H; exact H
   clear H
   have H := H1
   clear H1
   obtain rfl := Option.some.inj H
   go_enter Try.func17, Try.ntmps17
   go_wp2_with (first | ((with_reducible refine gate_dst (N := 5) rfl ?_); (try (refine gate_guard (by rfl) ?_; dsimp only)); refine Kd.R_lit k30 _ 30 ?hg (N := 5) ?hd (xs := ([(⟨1, (⟨#[120]⟩ : ByteArray), (⟨#[]⟩ : ByteArray), (⟨#[]⟩ : ByteArray), (⟨#[]⟩ : ByteArray), 1, 0, 0⟩ : Stmt), (⟨6, (⟨#[]⟩ : ByteArray), (⟨#[120]⟩ : ByteArray), (⟨#[]⟩ : ByteArray), (⟨#[]⟩ : ByteArray), 0, 0, 0⟩ : Stmt), (⟨9, (⟨#[]⟩ : ByteArray), (⟨#[]⟩ : ByteArray), (⟨#[]⟩ : ByteArray), (⟨#[]⟩ : ByteArray), 0, 0, 0⟩ : Stmt)] : List (Stmt))) (inner := [.int .i64 1, .string (⟨#[120]⟩ : ByteArray), .string (⟨#[]⟩ : ByteArray), .string (⟨#[]⟩ : ByteArray), .string (⟨#[]⟩ : ByteArray), .int .i64 1, .int .i64 0, .int .i64 0, .int .i64 6, .string (⟨#[]⟩ : ByteArray), .string (⟨#[120]⟩ : ByteArray), .string (⟨#[]⟩ : ByteArray), .string (⟨#[]⟩ : ByteArray), .int .i64 0, .int .i64 0, .int .i64 0, .int .i64 9, .string (⟨#[]⟩ : ByteArray), .string (⟨#[]⟩ : ByteArray), .string (⟨#[]⟩ : ByteArray), .string (⟨#[]⟩ : ByteArray), .int .i64 0, .int .i64 0, .int .i64 0]) (ok := fun _ => True) (okp := fun _ => True) ?hr ?hp (fun _ hk => hk) trivial (Below.refl _ _) (Nat.le_refl _) (by simp) ?_; (case hd => rfl); (case hg => rfl); (case hr => first | (go_simp; done) | (go_simp; rfl)); (case hp => exact (Reps.c8 (show Kd.M k30 _ _ _ (⟨1, (⟨#[120]⟩ : ByteArray), (⟨#[]⟩ : ByteArray), (⟨#[]⟩ : ByteArray), (⟨#[]⟩ : ByteArray), 1, 0, 0⟩ : Stmt) [.int .i64 1, .string (⟨#[120]⟩ : ByteArray), .string (⟨#[]⟩ : ByteArray), .string (⟨#[]⟩ : ByteArray), .string (⟨#[]⟩ : ByteArray), .int .i64 1, .int .i64 0, .int .i64 0] from (k30_mkM _ _ _ (⟨1, (⟨#[120]⟩ : ByteArray), (⟨#[]⟩ : ByteArray), (⟨#[]⟩ : ByteArray), (⟨#[]⟩ : ByteArray), 1, 0, 0⟩ : Stmt) )) (Reps.c8 (show Kd.M k30 _ _ _ (⟨6, (⟨#[]⟩ : ByteArray), (⟨#[120]⟩ : ByteArray), (⟨#[]⟩ : ByteArray), (⟨#[]⟩ : ByteArray), 0, 0, 0⟩ : Stmt) [.int .i64 6, .string (⟨#[]⟩ : ByteArray), .string (⟨#[120]⟩ : ByteArray), .string (⟨#[]⟩ : ByteArray), .string (⟨#[]⟩ : ByteArray), .int .i64 0, .int .i64 0, .int .i64 0] from (k30_mkM _ _ _ (⟨6, (⟨#[]⟩ : ByteArray), (⟨#[120]⟩ : ByteArray), (⟨#[]⟩ : ByteArray), (⟨#[]⟩ : ByteArray), 0, 0, 0⟩ : Stmt) )) (Reps.c8 (show Kd.M k30 _ _ _ (⟨9, (⟨#[]⟩ : ByteArray), (⟨#[]⟩ : ByteArray), (⟨#[]⟩ : ByteArray), (⟨#[]⟩ : ByteArray), 0, 0, 0⟩ : Stmt) [.int .i64 9, .string (⟨#[]⟩ : ByteArray), .string (⟨#[]⟩ : ByteArray), .string (⟨#[]⟩ : ByteArray), .string (⟨#[]⟩ : ByteArray), .int .i64 0, .int .i64 0, .int .i64 0] from (k30_mkM _ _ _ (⟨9, (⟨#[]⟩ : ByteArray), (⟨#[]⟩ : ByteArray), (⟨#[]⟩ : ByteArray), (⟨#[]⟩ : ByteArray), 0, 0, 0⟩ : Stmt) )) (Reps.none _ _))))); intro v102 w59 ho60 hb hg_ hnew_; clear hg_ hnew_; (first | rw [← Ny101.out] at ho60 | (simp only [Int.reduceToNat] at ho60; rw [← Ny101.out] at ho60)); have HO103 := am (Kd.R_lower ho60 (below_size (by repeat (first | (with_reducible first | exact HB.out | apply lA | apply lN | apply lD) | exact HB.out)))); replace HB := am (below_step (by repeat (first | (with_reducible first | exact HB.out | apply lA | apply lN | apply lD) | exact HB.out)) hb); clear hb ho60; obtain ⟨Ao61, co61, eo61⟩ := Kd.R_slice HO103.out; subst eo61) | ((with_reducible refine gate_callee (f := 23) rfl ?_); refine goesL_ (some 7) rfl rfl Try.func23 (by kernel_rfl) rfl #[.slice Ao61 y101.length co61, .int .i64 1, .string (⟨#[120]⟩ : ByteArray), .int .i64 0] rfl (by (try simp only [List.map_toArray, List.map_cons, List.map_nil]); first | done | rfl | (simp only [List.length_drop, List.length_take]; rfl)) ?_; (with_reducible refine (cfg_Reaches.calls k _ _ y101 1 (⟨#[120]⟩ : ByteArray) 0 true _ ?side1 ?side2 A1.out).mono ?_); (case side1 => repeat (first | exact (Kd.R_reads' HO103.out).2.2 | (with_reducible refine Kd.C_alloc ?_ _) | (with_reducible refine Kd.C_drewN ?_ _) | (with_reducible refine Kd.C_drew ?_))); (case side2 => exact (Kd.R_reads' HO103.out).2.1); rintro e w62 ⟨rfl, hb⟩; refine ⟨_, rfl, ?_⟩; replace HO103 := am (Kd.R_below (by (with_reducible repeat (first | apply Ra | apply Rn | apply Rd)); exact HO103.out) hb); replace HB := am (below_step (by repeat (first | (with_reducible first | exact HB.out | apply lA | apply lN | apply lD) | exact HB.out)) hb); (try clear hb); (try clear hb2); (try clear hk); (try clear hi)) | (go_at_call 23; (with_reducible refine (cfg_Reaches.calls k _ _ y101 2 (⟨#[120]⟩ : ByteArray) 0 false _ ?side1 ?side2 A3.out).mono ?_); (case side1 => repeat (first | exact (Kd.R_reads' HO103.out).2.2 | (with_reducible refine Kd.C_alloc ?_ _) | (with_reducible refine Kd.C_drewN ?_ _) | (with_reducible refine Kd.C_drew ?_))); (case side2 => exact (Kd.R_reads' HO103.out).2.1); rintro e w63 ⟨rfl, hb⟩; replace HO103 := am (Kd.R_below (by (with_reducible repeat (first | apply Ra | apply Rn | apply Rd)); exact HO103.out) hb); replace HB := am (below_step (by repeat (first | (with_reducible first | exact HB.out | apply lA | apply lN | apply lD) | exact HB.out)) hb); (try clear hb); (try clear hb2); (try clear hk); (try clear hi)))
   go_ret
   exact ⟨by first | rfl | (simp [errW_none, errW_some] <;> rfl) | (simp [*, errW_none, errW_some] <;> rfl), by repeat (first | (with_reducible first | exact HB.out | apply lA | apply lN | apply lD) | exact HB.out)⟩
 ·replace c2 := Bool.eq_false_iff.mpr c2
  subst c2
  have H1 : (some false) = some r := by rw [if_neg (show ¬ (false = true) by decide)] at H; exact H
  clear H
  have H := H1
  clear H1
  obtain rfl := Option.some.inj H
  go_enter Try.func17, Try.ntmps17
  go_wp2_with (first | ((with_reducible refine gate_dst (N := 5) rfl ?_); (try (refine gate_guard (by rfl) ?_; dsimp only)); refine Kd.R_lit k30 _ 30 ?hg (N := 5) ?hd (xs := ([(⟨1, (⟨#[120]⟩ : ByteArray), (⟨#[]⟩ : ByteArray), (⟨#[]⟩ : ByteArray), (⟨#[]⟩ : ByteArray), 1, 0, 0⟩ : Stmt), (⟨6, (⟨#[]⟩ : ByteArray), (⟨#[120]⟩ : ByteArray), (⟨#[]⟩ : ByteArray), (⟨#[]⟩ : ByteArray), 0, 0, 0⟩ : Stmt), (⟨9, (⟨#[]⟩ : ByteArray), (⟨#[]⟩ : ByteArray), (⟨#[]⟩ : ByteArray), (⟨#[]⟩ : ByteArray), 0, 0, 0⟩ : Stmt)] : List (Stmt))) (inner := [.int .i64 1, .string (⟨#[120]⟩ : ByteArray), .string (⟨#[]⟩ : ByteArray), .string (⟨#[]⟩ : ByteArray), .string (⟨#[]⟩ : ByteArray), .int .i64 1, .int .i64 0, .int .i64 0, .int .i64 6, .string (⟨#[]⟩ : ByteArray), .string (⟨#[120]⟩ : ByteArray), .string (⟨#[]⟩ : ByteArray), .string (⟨#[]⟩ : ByteArray), .int .i64 0, .int .i64 0, .int .i64 0, .int .i64 9, .string (⟨#[]⟩ : ByteArray), .string (⟨#[]⟩ : ByteArray), .string (⟨#[]⟩ : ByteArray), .string (⟨#[]⟩ : ByteArray), .int .i64 0, .int .i64 0, .int .i64 0]) (ok := fun _ => True) (okp := fun _ => True) ?hr ?hp (fun _ hk => hk) trivial (Below.refl _ _) (Nat.le_refl _) (by simp) ?_; (case hd => rfl); (case hg => rfl); (case hr => first | (go_simp; done) | (go_simp; rfl)); (case hp => exact (Reps.c8 (show Kd.M k30 _ _ _ (⟨1, (⟨#[120]⟩ : ByteArray), (⟨#[]⟩ : ByteArray), (⟨#[]⟩ : ByteArray), (⟨#[]⟩ : ByteArray), 1, 0, 0⟩ : Stmt) [.int .i64 1, .string (⟨#[120]⟩ : ByteArray), .string (⟨#[]⟩ : ByteArray), .string (⟨#[]⟩ : ByteArray), .string (⟨#[]⟩ : ByteArray), .int .i64 1, .int .i64 0, .int .i64 0] from (k30_mkM _ _ _ (⟨1, (⟨#[120]⟩ : ByteArray), (⟨#[]⟩ : ByteArray), (⟨#[]⟩ : ByteArray), (⟨#[]⟩ : ByteArray), 1, 0, 0⟩ : Stmt) )) (Reps.c8 (show Kd.M k30 _ _ _ (⟨6, (⟨#[]⟩ : ByteArray), (⟨#[120]⟩ : ByteArray), (⟨#[]⟩ : ByteArray), (⟨#[]⟩ : ByteArray), 0, 0, 0⟩ : Stmt) [.int .i64 6, .string (⟨#[]⟩ : ByteArray), .string (⟨#[120]⟩ : ByteArray), .string (⟨#[]⟩ : ByteArray), .string (⟨#[]⟩ : ByteArray), .int .i64 0, .int .i64 0, .int .i64 0] from (k30_mkM _ _ _ (⟨6, (⟨#[]⟩ : ByteArray), (⟨#[120]⟩ : ByteArray), (⟨#[]⟩ : ByteArray), (⟨#[]⟩ : ByteArray), 0, 0, 0⟩ : Stmt) )) (Reps.c8 (show Kd.M k30 _ _ _ (⟨9, (⟨#[]⟩ : ByteArray), (⟨#[]⟩ : ByteArray), (⟨#[]⟩ : ByteArray), (⟨#[]⟩ : ByteArray), 0, 0, 0⟩ : Stmt) [.int .i64 9, .string (⟨#[]⟩ : ByteArray), .string (⟨#[]⟩ : ByteArray), .string (⟨#[]⟩ : ByteArray), .string (⟨#[]⟩ : ByteArray), .int .i64 0, .int .i64 0, .int .i64 0] from (k30_mkM _ _ _ (⟨9, (⟨#[]⟩ : ByteArray), (⟨#[]⟩ : ByteArray), (⟨#[]⟩ : ByteArray), (⟨#[]⟩ : ByteArray), 0, 0, 0⟩ : Stmt) )) (Reps.none _ _))))); intro v102 w64 ho65 hb hg_ hnew_; clear hg_ hnew_; (first | rw [← Ny101.out] at ho65 | (simp only [Int.reduceToNat] at ho65; rw [← Ny101.out] at ho65)); have HO103 := am (Kd.R_lower ho65 (below_size (by repeat (first | (with_reducible first | exact HB.out | apply lA | apply lN | apply lD) | exact HB.out)))); replace HB := am (below_step (by repeat (first | (with_reducible first | exact HB.out | apply lA | apply lN | apply lD) | exact HB.out)) hb); clear hb ho65; obtain ⟨Ao66, co66, eo66⟩ := Kd.R_slice HO103.out; subst eo66) | ((with_reducible refine gate_callee (f := 23) rfl ?_); refine goesL_ (some 7) rfl rfl Try.func23 (by kernel_rfl) rfl #[.slice Ao66 y101.length co66, .int .i64 1, .string (⟨#[120]⟩ : ByteArray), .int .i64 0] rfl (by (try simp only [List.map_toArray, List.map_cons, List.map_nil]); first | done | rfl | (simp only [List.length_drop, List.length_take]; rfl)) ?_; (with_reducible refine (cfg_Reaches.calls k _ _ y101 1 (⟨#[120]⟩ : ByteArray) 0 false _ ?side1 ?side2 A1.out).mono ?_); (case side1 => repeat (first | exact (Kd.R_reads' HO103.out).2.2 | (with_reducible refine Kd.C_alloc ?_ _) | (with_reducible refine Kd.C_drewN ?_ _) | (with_reducible refine Kd.C_drew ?_))); (case side2 => exact (Kd.R_reads' HO103.out).2.1); rintro e w67 ⟨rfl, hb⟩; refine ⟨_, rfl, ?_⟩; replace HO103 := am (Kd.R_below (by (with_reducible repeat (first | apply Ra | apply Rn | apply Rd)); exact HO103.out) hb); replace HB := am (below_step (by repeat (first | (with_reducible first | exact HB.out | apply lA | apply lN | apply lD) | exact HB.out)) hb); (try clear hb); (try clear hb2); (try clear hk); (try clear hi)))
  go_ret
  exact ⟨by first | rfl | (simp [errW_none, errW_some] <;> rfl) | (simp [*, errW_none, errW_some] <;> rfl), by repeat (first | (with_reducible first | exact HB.out | apply lA | apply lN | apply lD) | exact HB.out)⟩
end Go.Proofs.Ytnepgcbgkhikkaa.H
namespace Go.Proofs.Ytnepgcbgkhikkaa.H
open Go.RowKit Go.Proofs.YtnepgcbgkhikkaaW.PrintWords
set_option linter.unusedVariables false
set_option linter.unusedSimpArgs false
def defB (st : Stmt) (x : ByteArray) : Bool := (defN st).2 && decide ((defN st).1 = x)
theorem defB_iff {st : Stmt} {x : ByteArray} : defB st x = true ↔ (defN st).2 = true ∧ (defN st).1 = x := by simp [defB]
theorem defines_eq (st : Stmt) (x : ByteArray) : cfg_defines.f st.kind st.x st.y st.z st.op st.n st.a st.b x = some (defB st x) := by
  unfold cfg_defines.f
  rw [Def_eq]
  simp only [Option.bind_some, defB]
  cases h : (defN st).2 with
  | true =>
    rw [if_pos rfl]
    have : ((defN st).1.toList == x.toList) = decide ((defN st).1 = x) := by
      rw [Bool.eq_iff_iff]; simp [lib_ba_eq]
    simp [this]
  | false => rw [if_neg (by simp)]; rfl
def keepS (s : List Stmt) (x : ByteArray) : Int → Bool := fun m => !defB (at_ s m) x
theorem keepF_on (s : List Stmt) (x : ByteArray) (m : Int) (h0 : 0 ≤ m) (h1 : m < (s.length : Int)) : keepF s x m = some (keepS s x m) := by
  unfold keepF keepS at_
  rw [if_pos h0, if_pos h1, defines_eq]; rfl
def reachP (s : List Stmt) (n : Int) (x : ByteArray) (d : Int) : Prop := 0 ≤ n ∧ n < (s.length : Int) ∧ 0 ≤ d ∧ d < (s.length : Int) ∧ defB (at_ s d) x = true ∧ Rch s (keepS s x) (nxt s d) n
theorem Reaches_ev (s : List Stmt) (n : Int) (x : ByteArray) (d : Int) (hs : s.length ≤ 1000) : ∃ b, Ev (fun k => cfg_Reaches.f k s n x d) b ∧ (b = true ↔ reachP s n x d) := by
  unfold cfg_Reaches.f
  have no : Ev (fun k => cfg_Reaches.j0 k n d true s x) false := Ev.step (fun k => by rw [cfg_Reaches.j0]) (Ev.pos rfl (Ev.now _))
  have w : ∀ m : Int, withinB s.length m = true ↔ 0 ≤ m ∧ m < (s.length : Int) := by intro m; simp [withinB]
  by_cases hn : 0 ≤ n ∧ n < (s.length : Int)
  · by_cases hd : 0 ≤ d ∧ d < (s.length : Int)
    · cases hb : defB (at_ s d) x with
      | false =>
        refine ⟨false, Ev.pure (within_eq s n) (Ev.pos ((w n).2 hn) (Ev.pure (within_eq s d) (Ev.pos ((w d).2 hd) (Ev.pos hd.1 (Ev.pos hd.2 (Ev.pure (defines_eq (at_ s d) x) ?_)))))), by simp [reachP, hb]⟩
        rw [hb]; exact no
      | true =>
        obtain ⟨r, hr, hrl, hri⟩ := ways_ev s (keepF s x) (keepS s x) (keepF_on s x) (nxt s d) (fun f hf => ⟨(nxt_within hf).1, (nxt_within hf).2.1⟩) hs (by have := nxt_len s d; omega)
        obtain ⟨i, rfl⟩ : ∃ q : Nat, n = (q : Int) := ⟨n.toNat, by omega⟩
        cases hv : r[i]? with
        | none => rw [List.getElem?_eq_none_iff] at hv; omega
        | some v =>
          refine ⟨v, Ev.pure (within_eq s i) (Ev.pos ((w i).2 hn) (Ev.pure (within_eq s d) (Ev.pos ((w d).2 hd) (Ev.pos hd.1 (Ev.pos hd.2 (Ev.pure (defines_eq (at_ s d) x) ?_)))))), ?_⟩
          · rw [hb]
            refine Ev.step (fun k => by rw [cfg_Reaches.j0]) (Ev.neg (by simp) (Ev.pure (Next_eq s d) (Ev.bind hr ?_)))
            exact Ev.pos (by omega) (Ev.pos (by omega) (Ev.some (getD_at hv _)))
          · rw [← Option.some_inj, ← hv, hri i]
            simp [reachP, hb, hn, hd]
    · refine ⟨false, Ev.pure (within_eq s n) (Ev.pos ((w n).2 hn) (Ev.pure (within_eq s d) (Ev.neg (fun h => hd ((w d).1 h)) no))), ⟨fun h => by simp at h, fun h => absurd ⟨h.2.2.1, h.2.2.2.1⟩ hd⟩⟩
  · refine ⟨false, Ev.pure (within_eq s n) (Ev.neg (fun h => hn ((w n).1 h)) no), ⟨fun h => by simp at h, fun h => absurd ⟨h.1, h.2.1⟩ hn⟩⟩
def liveP (s : List Stmt) (n : Int) (x : ByteArray) : Prop := 0 ≤ n ∧ n < (s.length : Int) ∧ ∃ m : Int, Rch s (keepS s x) [n] m ∧ x ∈ usesS (at_ s m)
theorem Rch_within {s : List Stmt} {on : Int → Bool} {fr : List Int} (hfr : ∀ f ∈ fr, 0 ≤ f ∧ f < (s.length : Int)) {n : Int} (h : Rch s on fr n) : 0 ≤ n ∧ n < (s.length : Int) := by
  cases h with
  | base h => exact hfr _ h
  | step _ _ h => exact ⟨(nxt_within h).1, (nxt_within h).2.1⟩
theorem Lives_l0 (s : List Stmt) (x : ByteArray) (seen : List Bool) (hl : seen.length = s.length) (hs : s.length ≤ 1000) : ∀ (d i : Nat), i + d = s.length →
    ∃ b, Ev (fun k => cfg_Lives.l0 k seen (seen.length : Int) i s x) b ∧ (b = true ↔ ∃ m : Nat, i ≤ m ∧ seen[m]? = some true ∧ x ∈ usesS (at_ s m))
  | 0, i, e => by
    refine ⟨false, Ev.step (fun k => by rw [cfg_Lives.l0]) (Ev.neg (by omega) (Ev.now _)), by
      simp only [Bool.false_eq_true, false_iff, not_exists]
      rintro m ⟨h1, h2, -⟩
      have := (List.getElem?_eq_some_iff.1 h2).1
      omega⟩
  | d + 1, i, e => by
    obtain ⟨b, hb, hbi⟩ := Lives_l0 s x seen hl hs d (i + 1) (by omega)
    have more : ∀ {P : Prop}, (P ↔ ∃ m : Nat, i + 1 ≤ m ∧ seen[m]? = some true ∧ x ∈ usesS (at_ s m)) → ¬ (seen[i]? = some true ∧ x ∈ usesS (at_ s i)) → (P ↔ ∃ m : Nat, i ≤ m ∧ seen[m]? = some true ∧ x ∈ usesS (at_ s m)) := by
      intro P hP hn
      rw [hP]
      constructor
      · rintro ⟨m, h1, h2⟩; exact ⟨m, by omega, h2⟩
      · rintro ⟨m, h1, h2⟩
        rcases Nat.lt_or_ge i m with h | h
        · exact ⟨m, h, h2⟩
        · obtain rfl : m = i := by omega
          exact absurd h2 hn
    cases hv : seen[i]? with
    | none => rw [List.getElem?_eq_none_iff] at hv; omega
    | some v =>
      cases v with
      | false =>
        refine ⟨b, Ev.step (fun k => by rw [cfg_Lives.l0]) (Ev.pos (by omega) (Ev.pos (by omega) (Ev.pos (by omega) ?_))), more hbi (by rw [hv]; simp)⟩
        rw [show rdOf false seen (i : Int) = false from getD_at hv _, wrap_up (by omega)]
        exact Ev.neg (by simp) hb
      | true =>
        by_cases c : x ∈ usesS (at_ s i)
        · refine ⟨true, Ev.step (fun k => by rw [cfg_Lives.l0]) (Ev.pos (by omega) (Ev.pos (by omega) (Ev.pos (by omega) ?_))), by simp only [true_iff]; exact ⟨i, Nat.le_refl _, hv, c⟩⟩
          rw [show rdOf false seen (i : Int) = true from getD_at hv _]
          refine Ev.pos rfl (Ev.pos (by omega) (Ev.pure (Uses_eq (at_ s i)) (Ev.bind (Contains_ev _ x (by have := usesS_len (at_ s i); omega)) ?_)))
          rw [mem_iff.2 c]
          exact Ev.pos rfl (Ev.now _)
        · refine ⟨b, Ev.step (fun k => by rw [cfg_Lives.l0]) (Ev.pos (by omega) (Ev.pos (by omega) (Ev.pos (by omega) ?_))), more hbi (fun h => c h.2)⟩
          rw [show rdOf false seen (i : Int) = true from getD_at hv _, wrap_up (by omega)]
          refine Ev.pos rfl (Ev.pos (by omega) (Ev.pure (Uses_eq (at_ s i)) (Ev.bind (Contains_ev _ x (by have := usesS_len (at_ s i); omega)) ?_)))
          exact Ev.neg (by rw [mem_iff]; exact c) hb
theorem Lives_ev (s : List Stmt) (n : Int) (x : ByteArray) (hs : s.length ≤ 1000) : ∃ b, Ev (fun k => cfg_Lives.f k s n x) b ∧ (b = true ↔ liveP s n x) := by
  unfold cfg_Lives.f
  have w : withinB s.length n = true ↔ 0 ≤ n ∧ n < (s.length : Int) := by simp [withinB]
  by_cases hn : 0 ≤ n ∧ n < (s.length : Int)
  · have hfr : ∀ f ∈ [n], 0 ≤ f ∧ f < (s.length : Int) := by intro f hf; simp at hf; subst hf; exact hn
    obtain ⟨r, hr, hrl, hri⟩ := ways_ev s (keepF s x) (keepS s x) (keepF_on s x) [n] hfr hs (by simp)
    obtain ⟨b, hb, hbi⟩ := Lives_l0 s x r hrl hs s.length 0 (by omega)
    refine ⟨b, Ev.pure (within_eq s n) (Ev.pos (w.2 hn) (Ev.bind hr hb)), ?_⟩
    rw [hbi]
    constructor
    · rintro ⟨m, -, h2, h3⟩; exact ⟨hn.1, hn.2, m, (hri m).1 h2, h3⟩
    · rintro ⟨-, -, m, h1, h2⟩
      have hm := Rch_within hfr h1
      obtain ⟨i, rfl⟩ : ∃ q : Nat, m = (q : Int) := ⟨m.toNat, by omega⟩
      exact ⟨i, by omega, (hri i).2 h1, h2⟩
  · refine ⟨false, Ev.pure (within_eq s n) (Ev.neg (fun h => hn (w.1 h)) (Ev.now _)), ?_⟩
    simp only [liveP, Bool.false_eq_true, false_iff]
    rintro ⟨a, b, -⟩
    exact hn ⟨a, b⟩
theorem ev_of {g : Nat → Option Bool} {P : Prop} (h : ∃ b, Ev g b ∧ (b = true ↔ P)) {b : Bool} (e : b = true ↔ P) : Ev g b := by
  obtain ⟨c, hc, hp⟩ := h
  have : c = b := by rw [Bool.eq_iff_iff, hp, e]
  exact this ▸ hc
theorem ev_yes {g : Nat → Option Bool} {P : Prop} (h : ∃ b, Ev g b ∧ (b = true ↔ P)) (e : P) : Ev g true := ev_of h (by simp [e])
theorem ev_no {g : Nat → Option Bool} {P : Prop} (h : ∃ b, Ev g b ∧ (b = true ↔ P)) (e : ¬ P) : Ev g false := ev_of h (by simp [e])
def exX : ByteArray := (⟨#[120]⟩ : ByteArray)
def exL : List Stmt := [(⟨1, (⟨#[120]⟩ : ByteArray), (⟨#[]⟩ : ByteArray), (⟨#[]⟩ : ByteArray), (⟨#[]⟩ : ByteArray), 1, 0, 0⟩ : Stmt), (⟨6, (⟨#[]⟩ : ByteArray), (⟨#[120]⟩ : ByteArray), (⟨#[]⟩ : ByteArray), (⟨#[]⟩ : ByteArray), 0, 0, 0⟩ : Stmt), (⟨9, (⟨#[]⟩ : ByteArray), (⟨#[]⟩ : ByteArray), (⟨#[]⟩ : ByteArray), (⟨#[]⟩ : ByteArray), 0, 0, 0⟩ : Stmt)]
theorem exn (n : Int) : nxt exL n = if n = 0 then [1] else if n = 1 then [2] else [] := by
  by_cases h0 : n = 0
  · subst h0; decide +kernel
  · by_cases h1 : n = 1
    · subst h1; decide +kernel
    · by_cases h2 : n = 2
      · subst h2; decide +kernel
      · unfold nxt
        rw [if_neg (by intro h; have : (exL.length : Int) = 3 := rfl; omega), if_neg h0, if_neg h1]
theorem shown20_ev : Ev (fun k => lambrequinlaw20_shown.f k) true := by
  unfold lambrequinlaw20_shown.f
  refine Ev.pure (a := exL) rfl ?_
  have hl : exL.length ≤ 1000 := by decide
  have k0 : keepS exL exX 0 = false := by decide +kernel
  have k1 : keepS exL exX 1 = true := by decide +kernel
  have k2 : keepS exL exX 2 = true := by decide +kernel
  have e0 : nxt exL 0 = [1] := by rw [exn]; rfl
  have r1 : Rch exL (keepS exL exX) (nxt exL 0) 1 := .base (by rw [e0]; simp)
  refine Ev.bind (ev_yes (Reaches_ev exL 1 exX 0 hl) ⟨by decide, by decide, by decide, by decide, by decide +kernel, r1⟩) (Ev.pos rfl ?_)
  refine Ev.bind (ev_yes (Reaches_ev exL 2 exX 0 hl) ⟨by decide, by decide, by decide, by decide, by decide +kernel, .step r1 k1 (by rw [exn]; decide)⟩) (Ev.pos rfl ?_)
  have n0 : ∀ m : Int, (0 : Int) ∈ nxt exL m → False := by
    intro m hm
    rw [exn] at hm
    split at hm
    · simp at hm
    · split at hm <;> simp at hm
  refine Ev.bind (ev_no (Reaches_ev exL 0 exX 0 hl) ?_) (Ev.neg (by simp) ?_)
  · rintro ⟨-, -, -, -, -, h⟩
    cases h with
    | base h => exact n0 _ h
    | step _ _ h => exact n0 _ h
  refine Ev.bind (ev_yes (Lives_ev exL 1 exX hl) ⟨by decide, by decide, 1, .base (by simp), mem_iff.1 (by decide +kernel)⟩) (Ev.pos rfl ?_)
  refine Ev.bind (ev_no (Lives_ev exL 0 exX hl) ?_) (Ev.neg (by simp) ?_)
  · rintro ⟨-, -, m, h, hu⟩
    have : m = 0 := by
      clear hu
      induction h with
      | base h => simpa using h
      | step h1 ho hj ih => rw [ih, k0] at ho; cases ho
    subst this
    rw [← mem_iff] at hu
    revert hu; decide +kernel
  refine Ev.bind (ev_no (Lives_ev exL 2 exX hl) ?_) (Ev.neg (by simp) ?_)
  · rintro ⟨-, -, m, h, hu⟩
    have : m = 2 := by
      clear hu
      induction h with
      | base h => simpa using h
      | step h1 ho hj ih => rw [ih, exn] at hj; simp at hj
    subst this
    rw [← mem_iff] at hu
    revert hu; decide +kernel
  refine Ev.pure (Next_eq exL 1) (Ev.bind (Ints_ev _ _ (by rw [exn]; decide)) (Ev.some ?_))
  rw [exn]; decide
end Go.Proofs.Ytnepgcbgkhikkaa.H
/- the steps of a flow's taints, in plain words -/
namespace Go.Proofs.Ytnepgcbgkhikkaa.H
open Go.RowKit Go.Proofs.YtnepgcbgkhikkaaW.PrintWords
set_option linter.unusedVariables false
set_option linter.unusedSimpArgs false
def idxS (names : List ByteArray) (x : ByteArray) : Int := idxP (fun y => decide (y = x)) names 0
theorem Index_at (l : List ByteArray) (s : ByteArray) (hl : l.length ≤ 9223372036854775807) : ∀ (r : List ByteArray) (n : Nat), l.drop n = r → Ev (fun k => slices_Index_string_string.l0 k l s (l.length : Int) n) (idxP (fun y => decide (y = s)) r n)
  | [], n, h => by
    refine Ev.step (fun k => by rw [slices_Index_string_string.l0]) ?_
    exact Ev.neg (drop_end h) (Ev.now _)
  | y :: r, n, h => by
    obtain ⟨h1, h2, h3, h4, h5⟩ := drop_more h hl
    have ih := Index_at l s hl r (n + 1) h4
    refine Ev.step (fun k => by rw [slices_Index_string_string.l0]) (Ev.pos h1 (Ev.pos h2 (Ev.pos h1 ?_)))
    rw [show rdOf ByteArray.empty l n = y from h3 _, h5]
    by_cases c : s = y
    · rw [show idxP (fun y => decide (y = s)) (y :: r) n = (n : Int) by unfold idxP; rw [if_pos (by simp [c])]]
      exact Ev.pos (by rw [c]) (Ev.now _)
    · rw [show idxP (fun y => decide (y = s)) (y :: r) n = idxP (fun y => decide (y = s)) r (n + 1) by rw [idxP, if_neg (by simpa using fun e => c e.symm)]]
      exact Ev.neg (by rw [lib_ba_eq]; exact c) ih
theorem Index_ev (l : List ByteArray) (s : ByteArray) (hl : l.length ≤ 9223372036854775807) : Ev (fun k => slices_Index_string_string.f k l s) (idxS l s) := Index_at l s hl l 0 rfl
theorem idxS_range (l : List ByteArray) (s : ByteArray) : -1 ≤ idxS l s ∧ idxS l s < (l.length : Int) := by
  have h : ∀ (r : List ByteArray) (i : Nat), -1 ≤ idxP (fun y => decide (y = s)) r i ∧ idxP (fun y => decide (y = s)) r i < ((i + r.length : Nat) : Int) ∨ idxP (fun y => decide (y = s)) r i = -1 := by
    intro r
    induction r with
    | nil => intro i; right; rfl
    | cons y r ih =>
      intro i
      unfold idxP
      split
      · left; simp; omega
      · rcases ih (i + 1) with h | h
        · left; simp at h ⊢; omega
        · right; exact h
  rcases h l 0 with h | h
  · unfold idxS; simp at h; omega
  · unfold idxS; omega
/-- the place of a name ahead of a statement -/
def atP (names : List ByteArray) (n : Int) (x : ByteArray) : Int := n * names.length + idxS names x
/-- the steps from a statement to one to which it leads: of the names that it doesn't define -/
def keptF (names : List ByteArray) (n m : Int) (st : Stmt) (y : ByteArray) : List (Int × Int) := if defB st y = true then [] else [(atP names n y, atP names m y)]
/-- of those that it uses -/
def usedF (names : List ByteArray) (n m : Int) (st : Stmt) (y : ByteArray) : (Int × Int) := (atP names n y, atP names m (defN st).1)
def opK (st : Stmt) : Prop := st.kind = 2 ∨ st.kind = 3
instance (st : Stmt) : Decidable (opK st) := by unfold opK; infer_instance
def stF (names : List ByteArray) (n : Int) (st : Stmt) (m : Int) : List (Int × Int) := names.flatMap (keptF names n m st) ++ (if opK st then (usesS st).map (usedF names n m st) else [])
def srcF (names : List ByteArray) (st : Stmt) (m : Int) : List Int := if st.kind = 4 then [atP names m (defN st).1] else []
def stepsAt (l : List Stmt) (names : List ByteArray) (n : Nat) : List (Int × Int) := (nxt l n).flatMap (stF names n (at_ l n))
def srcsAt (l : List Stmt) (names : List ByteArray) (n : Nat) : List Int := (nxt l n).flatMap (srcF names (at_ l n))
def stepsP (l : List Stmt) (names : List ByteArray) : List (Int × Int) := (List.range l.length).flatMap (stepsAt l names)
def srcsP (l : List Stmt) (names : List ByteArray) : List Int := (List.range l.length).flatMap (srcsAt l names)
theorem flatMap_len {α β : Type} (f : α → List β) (K : Nat) (h : ∀ a, (f a).length ≤ K) : ∀ l : List α, (l.flatMap f).length ≤ l.length * K
  | [] => by simp
  | a :: l => by
    rw [List.flatMap_cons, List.length_append, List.length_cons, Nat.succ_mul]
    have := flatMap_len f K h l
    have := h a
    omega
theorem stF_len (names : List ByteArray) (n : Int) (st : Stmt) (m : Int) : (stF names n st m).length ≤ names.length + 2 := by
  unfold stF
  rw [List.length_append]
  have h1 := flatMap_len (keptF names n m st) 1 (fun y => by unfold keptF; split <;> simp) names
  have h2 := usesS_len st
  split
  · rw [List.length_map]; omega
  · rw [List.length_nil]; omega
theorem srcF_len (names : List ByteArray) (st : Stmt) (m : Int) : (srcF names st m).length ≤ 1 := by
  unfold srcF; split <;> simp
theorem stepsAt_len (l : List Stmt) (names : List ByteArray) (n : Nat) : (stepsAt l names n).length ≤ 2 * (names.length + 2) := by
  unfold stepsAt
  have h1 := flatMap_len (stF names n (at_ l n)) (names.length + 2) (stF_len names n (at_ l n)) (nxt l n)
  have h2 := nxt_len l n
  exact Nat.le_trans h1 (Nat.mul_le_mul_right _ h2)
theorem srcsAt_len (l : List Stmt) (names : List ByteArray) (n : Nat) : (srcsAt l names n).length ≤ 2 := by
  unfold srcsAt
  have h1 := flatMap_len (srcF names (at_ l n)) 1 (srcF_len names (at_ l n)) (nxt l n)
  have h2 := nxt_len l n
  omega
theorem flatMap_take {α β : Type} (f : α → List β) {l : List α} {k : Nat} {y : α} (h : l[k]? = some y) : (l.take (k + 1)).flatMap f = (l.take k).flatMap f ++ f y := by
  rw [List.take_add_one, h]; simp
theorem atP_range {names : List ByteArray} {n : Int} {x : ByteArray} (h0 : 0 ≤ n) (h1 : n ≤ 1000) (hl : names.length ≤ 3000) : -1 ≤ atP names n x ∧ atP names n x ≤ 4000000 := by
  have := idxS_range names x
  unfold atP
  have h2 : 0 ≤ n * (names.length : Int) := Int.mul_nonneg h0 (by omega)
  have h3 : n * (names.length : Int) ≤ 1000 * 3000 := Int.mul_le_mul h1 (by omega) (by omega) (by omega)
  omega
end Go.Proofs.Ytnepgcbgkhikkaa.H
/- breadth first over the steps of taints, in plain words: what is seen is what is tainted -/
namespace Go.Proofs.Ytnepgcbgkhikkaa.H
open Go.RowKit Go.Proofs.YtnepgcbgkhikkaaW.PrintWords
set_option linter.unusedVariables false
set_option linter.unusedSimpArgs false
def nextG (steps : List (Int × Int)) (a : Int) : List Int := (steps.filter fun p => decide (p.1 = a)).map Prod.snd
theorem nextG_snoc (steps : List (Int × Int)) (p : Int × Int) (a : Int) : nextG (steps ++ [p]) a = nextG steps a ++ (if p.1 = a then [p.2] else []) := by
  unfold nextG
  rw [List.filter_append, List.map_append]
  by_cases h : p.1 = a <;> simp [h]
theorem mem_nextG {steps : List (Int × Int)} {a b : Int} : b ∈ nextG steps a ↔ (a, b) ∈ steps := by
  unfold nextG
  simp only [List.mem_map, List.mem_filter, decide_eq_true_eq]
  constructor
  · rintro ⟨⟨p, q⟩, ⟨h1, rfl⟩, rfl⟩; exact h1
  · intro h; exact ⟨(a, b), ⟨h, rfl⟩, rfl⟩
def seeV (seen : Int → Bool) (k : Int) : Int → Bool := fun y => if y = k then true else seen y
def tntV (G : Int → List Int) : Nat → (Int → Bool) → List Int → Option (Int → Bool)
  | 0, _, _ => none
  | _ + 1, seen, [] => some seen
  | g + 1, seen, k :: r => if seen k = true then tntV G g seen r else tntV G g (seeV seen k) (r ++ G k)
/-- what is tainted: what comes of a source, step by step -/
inductive Tnt (steps : List (Int × Int)) (srcs : List Int) : Int → Prop
  | base {p : Int} : p ∈ srcs → Tnt steps srcs p
  | step {p q : Int} : Tnt steps srcs p → (p, q) ∈ steps → Tnt steps srcs q
structure Mid (steps : List (Int × Int)) (srcs : List Int) (seen : Int → Bool) (todo : List Int) : Prop where
  t : ∀ k ∈ todo, Tnt steps srcs k
  s : ∀ k, seen k = true → Tnt steps srcs k
  b : ∀ p ∈ srcs, seen p = true ∨ p ∈ todo
  c : ∀ p q, seen p = true → (p, q) ∈ steps → seen q = true ∨ q ∈ todo
theorem Mid.skip {steps : List (Int × Int)} {srcs : List Int} {seen : Int → Bool} {k : Int} {r : List Int} (h : Mid steps srcs seen (k :: r)) (hk : seen k = true) : Mid steps srcs seen r where
  t := fun x hx => h.t x (List.mem_cons_of_mem _ hx)
  s := h.s
  b := fun p hp => by
    rcases h.b p hp with q | q
    · exact .inl q
    · rcases List.mem_cons.1 q with rfl | q
      · exact .inl hk
      · exact .inr q
  c := fun p q hp hq => by
    rcases h.c p q hp hq with z | z
    · exact .inl z
    · rcases List.mem_cons.1 z with rfl | z
      · exact .inl hk
      · exact .inr z
theorem Mid.see {steps : List (Int × Int)} {srcs : List Int} {seen : Int → Bool} {k : Int} {r : List Int} (h : Mid steps srcs seen (k :: r)) : Mid steps srcs (seeV seen k) (r ++ nextG steps k) where
  t := fun x hx => by
    rcases List.mem_append.1 hx with hx | hx
    · exact h.t x (List.mem_cons_of_mem _ hx)
    · exact .step (h.t k (by simp)) (mem_nextG.1 hx)
  s := fun x hx => by
    unfold seeV at hx
    split at hx
    · rename_i e; subst e; exact h.t _ (by simp)
    · exact h.s x hx
  b := fun p hp => by
    unfold seeV
    by_cases e : p = k
    · left; rw [if_pos e]
    · rw [if_neg e]
      rcases h.b p hp with z | z
      · exact .inl z
      · rcases List.mem_cons.1 z with rfl | z
        · exact absurd rfl e
        · exact .inr (List.mem_append_left _ z)
  c := fun p q hp hq => by
    unfold seeV at hp ⊢
    by_cases e : q = k
    · left; rw [if_pos e]
    · rw [if_neg e]
      by_cases e2 : p = k
      · subst e2
        exact .inr (List.mem_append_right _ (mem_nextG.2 hq))
      · rw [if_neg e2] at hp
        rcases h.c p q hp hq with z | z
        · exact .inl z
        · rcases List.mem_cons.1 z with rfl | z
          · exact absurd rfl e
          · exact .inr (List.mem_append_left _ z)
theorem tntV_spec (steps : List (Int × Int)) (srcs : List Int) : ∀ (g : Nat) (seen : Int → Bool) (todo : List Int) (r : Int → Bool), Mid steps srcs seen todo → tntV (nextG steps) g seen todo = some r → ∀ k, r k = true ↔ Tnt steps srcs k
  | 0, seen, todo, r, h, e => by simp [tntV] at e
  | g + 1, seen, [], r, h, e => by
    obtain rfl : seen = r := by simpa [tntV] using e
    intro k
    refine ⟨h.s k, fun ht => ?_⟩
    induction ht with
    | base hp => rcases h.b _ hp with z | z; exact z; simp at z
    | step _ hq ih => rcases h.c _ _ ih hq with z | z; exact z; simp at z
  | g + 1, seen, k :: t, r, h, e => by
    rw [tntV] at e
    by_cases c : seen k = true
    · rw [if_pos c] at e
      exact tntV_spec steps srcs g seen t r (h.skip c) e
    · rw [if_neg c] at e
      exact tntV_spec steps srcs g _ _ r h.see e
/-- how many rounds are left at most -/
def potV (steps : List (Int × Int)) (seen : Int → Bool) (todo : List Int) : Nat := todo.length + (steps.filter fun p => !seen p.1).length
theorem pot_see (steps : List (Int × Int)) (seen : Int → Bool) (k : Int) (r : List Int) (h : seen k = false) : potV steps (seeV seen k) (r ++ nextG steps k) + 1 = potV steps seen (k :: r) := by
  have e : (steps.filter fun p => !seen p.1).length = (steps.filter fun p => !seeV seen k p.1).length + (nextG steps k).length := by
    unfold nextG
    rw [List.length_map]
    induction steps with
    | nil => rfl
    | cons p s ih =>
      by_cases c : p.1 = k
      · have h1 : seen p.1 = false := by rw [c]; exact h
        simp [List.filter_cons, c, h, seeV] at ih ⊢
        omega
      · simp only [List.filter_cons, seeV, if_neg c, c, decide_false, Bool.false_eq_true, if_false]
        cases hs : seen p.1
        · simp [hs] at ih ⊢; simp [seeV] at ih; omega
        · simp [hs] at ih ⊢; simp [seeV] at ih; omega
  unfold potV
  rw [List.length_append, e, List.length_cons]
  omega
theorem tntV_some (steps : List (Int × Int)) : ∀ (g : Nat) (seen : Int → Bool) (todo : List Int), potV steps seen todo < g → ∃ r, tntV (nextG steps) g seen todo = some r
  | 0, seen, todo, h => by omega
  | g + 1, seen, [], h => ⟨seen, rfl⟩
  | g + 1, seen, k :: t, h => by
    rw [tntV]
    by_cases c : seen k = true
    · rw [if_pos c]
      exact tntV_some steps g seen t (by unfold potV at h ⊢; rw [List.length_cons] at h; omega)
    · rw [if_neg c]
      have := pot_see steps seen k t (by simpa using c)
      exact tntV_some steps g _ _ (by omega)
theorem tntV_more (G : Int → List Int) : ∀ (g : Nat) (seen : Int → Bool) (todo : List Int), LeO (tntV G g seen todo) (tntV G (g + 1) seen todo)
  | 0, _, _ => LeO.none _
  | g + 1, seen, [] => LeO.refl _
  | g + 1, seen, k :: t => by
    rw [tntV, tntV.eq_3]
    exact LeO.ite (tntV_more G g _ _) (tntV_more G g _ _)
end Go.Proofs.Ytnepgcbgkhikkaa.H
namespace Go.Proofs.Ytnepgcbgkhikkaa.H
open Go.RowKit Go.Proofs.YtnepgcbgkhikkaaW.PrintWords Go.Proofs.YtnepgcbgkhikkaaW.PrintLast Go.Proofs.YtnepgcbgkhikkaaW.PrintMore
set_option linter.unusedVariables false
/-- A kind of elements whose cells are told by the element alone (no rows inside). -/
structure Flat {α : Type} (d : Kd α) (c : α → List Value) : Prop where
  M : ∀ {w base ok x cs}, d.M w base ok x cs ↔ cs = c x
  K : ∀ {w x cs}, d.K w x cs ↔ cs = c x
  len : ∀ x, (c x).length = d.sz
  one : ∀ x, ∀ u ∈ c x, u.oneCell' = true
  pos : 0 < d.sz
section
variable {α : Type} {d : Kd α} {c : α → List Value}
theorem Flat.flen (F : Flat d c) : ∀ xs : List α, (xs.flatMap c).length = xs.length * d.sz
  | [] => by simp
  | x :: xs => by rw [List.flatMap_cons, List.length_append, F.len, F.flen xs, List.length_cons, Nat.succ_mul, Nat.add_comm]
theorem Flat.fone (F : Flat d c) (xs : List α) : ∀ u ∈ xs.flatMap c, u.oneCell' = true := fun u hu => by
  obtain ⟨x, _, hx⟩ := List.mem_flatMap.1 hu
  exact F.one x u hx
theorem Flat.fdrop (F : Flat d c) : ∀ (xs : List α) (i : Nat), (xs.flatMap c).drop (i * d.sz) = (xs.drop i).flatMap c
  | xs, 0 => by simp
  | [], i + 1 => by simp
  | x :: xs, i + 1 => by
    rw [List.flatMap_cons, List.drop_append, F.len, List.drop_eq_nil_of_le (by rw [F.len, Nat.succ_mul]; omega), List.nil_append, List.drop_succ_cons, ← F.fdrop xs i]
    congr 1
    rw [Nat.succ_mul]; omega
theorem Flat.ftake (F : Flat d c) : ∀ (xs : List α) (i : Nat), (xs.flatMap c).take (i * d.sz) = (xs.take i).flatMap c
  | xs, 0 => by simp
  | [], i + 1 => by simp
  | x :: xs, i + 1 => by
    rw [List.flatMap_cons, List.take_append, F.len, List.take_of_length_le (by rw [F.len, Nat.succ_mul]; omega), List.take_succ_cons, List.flatMap_cons, ← F.ftake xs i]
    congr 2
    rw [Nat.succ_mul]; omega
theorem Flat.fget (F : Flat d c) {xs : List α} {i : Nat} {x : α} (h : xs[i]? = some x) : ((xs.flatMap c).drop (i * d.sz)).take d.sz = c x := by
  rw [F.fdrop, drop_cons h, List.flatMap_cons, List.take_append_of_le_length (by rw [F.len]; exact Nat.le_refl _), List.take_of_length_le (by rw [F.len]; exact Nat.le_refl _)]
theorem Flat.reps (F : Flat d c) {R : α → List Value → Prop} (hR : ∀ x cs, R x cs ↔ cs = c x) : ∀ {xs : List α} {inner : List Value}, Reps R d.sz xs inner ↔ inner = xs.flatMap c := by
  intro xs inner
  constructor
  · intro h
    apply List.ext_getElem?
    intro q
    by_cases hq : q < xs.length * d.sz
    · have hi : q / d.sz < xs.length := (Nat.div_lt_iff_lt_mul F.pos).2 hq
      have h1 := (hR _ _).1 (h.2 (q / d.sz) _ (List.getElem?_eq_getElem hi))
      have h2 := F.fget (List.getElem?_eq_getElem hi)
      have e : ∀ l : List Value, ((l.drop (q / d.sz * d.sz)).take d.sz)[q % d.sz]? = l[q]? := fun l => by
        rw [List.getElem?_take, if_pos (Nat.mod_lt _ F.pos), List.getElem?_drop, Nat.mul_comm, Nat.div_add_mod]
      rw [← e inner, ← e (xs.flatMap c), h1, h2]
    · rw [List.getElem?_eq_none (by rw [h.1]; omega), List.getElem?_eq_none (by rw [F.flen]; omega)]
  · rintro rfl
    exact ⟨F.flen xs, fun j p hj => (hR _ _).2 (F.fget hj)⟩
/-- what a row of one's own is, told by its block -/
structure Blk (d : Kd α) (c : α → List Value) (e : Nat) (w : World) (base : Nat) (ok : Nat → Prop) (g n cap : Nat) (xs : List α) (cur : Array Value) : Prop where
  len : n = xs.length
  okg : ok g
  bas : base ≤ g
  heap : w.heap[g]? = some (.cells cur e (0, 0))
  le : n ≤ cap
  max : cap ≤ maxLen
  size : cur.size = cap * d.sz
  take : cur.toList.take (n * d.sz) = xs.flatMap c
theorem Flat.blk (F : Flat d c) {e : Nat} {w : World} {base : Nat} {ok : Nat → Prop} {g n cap : Nat} {xs : List α} (h : d.R e w base ok (.slice (some ⟨g, 0, none⟩) n cap) xs) : ∃ cur, Blk d c e w base ok g n cap xs cur := by
  obtain ⟨hn, _, _⟩ := Kd.R_reads' h
  obtain ⟨hok, inner, ⟨hlen, ho⟩, hr⟩ := h
  rcases ho with ⟨he, _⟩ | ⟨g', cap', cur, he, hb, hh, hnc, hcm, hcs, htk⟩
  · cases he
  · cases he
    exact ⟨cur, hn, hok g rfl, hb, hh, by omega, hcm, hcs, by rw [hn, htk]; exact (F.reps (fun _ _ => F.M)).1 hr⟩
theorem Flat.row (F : Flat d c) {e : Nat} {w : World} {base : Nat} {ok : Nat → Prop} {g n cap : Nat} {xs : List α} {cur : Array Value} (h : Blk d c e w base ok g n cap xs cur) : d.R e w base ok (.slice (some ⟨g, 0, none⟩) n cap) xs := by
  have hn := h.len
  subst hn
  refine ⟨fun k hk => ?_, xs.flatMap c, ⟨F.flen xs, .inr ⟨g, cap, cur, rfl, h.bas, h.heap, h.le, h.max, h.size, h.take⟩⟩, (F.reps (fun _ _ => F.M)).2 rfl⟩
  have : g = k := by simpa [Value.ownBlock] using hk
  exact this ▸ h.okg
/-- a row that is read: its cells -/
theorem Flat.cell (F : Flat d c) {w : World} {A : Addr} {n : Nat} {xs : List α} (h : d.C w (some A) n xs) : ∀ j u, (xs.flatMap c)[j]? = some u → w.cell? (A.add j) = some u := by
  intro j u hj
  have hjl : j < xs.length * d.sz := by rw [← F.flen]; exact (List.getElem?_eq_some_iff.1 hj).1
  have hi : j / d.sz < xs.length := (Nat.div_lt_iff_lt_mul F.pos).2 hjl
  obtain ⟨ad, cs, e, hs, hK, hc⟩ := Kd.C_nth h (List.getElem?_eq_getElem hi)
  cases e
  have hk := F.K.1 hK
  have h2 := F.fget (List.getElem?_eq_getElem hi)
  have e : ((xs.flatMap c).drop (j / d.sz * d.sz)).take d.sz = cs := by rw [h2, hk]
  have h3 : cs[j % d.sz]? = some u := by
    rw [← e, List.getElem?_take, if_pos (Nat.mod_lt _ F.pos), List.getElem?_drop, Nat.mul_comm, Nat.div_add_mod]; exact hj
  have := hc _ _ h3
  rwa [Nat.mul_comm, Nat.div_add_mod] at this
end
section
variable {P : Program}
theorem run_copy_sz (w : World) (dT sT ty elem : TypeId) (b o dLen dCap : Nat) (a : Addr) (sLen sCap sz k : Nat) (cs : List Value)
    (hu : P.underlying dT = some (.slice elem)) (hs : (P.info? elem).map (·.size) = some sz) (hk : k = Nat.min sLen dLen) (hn : cs.length = k * sz)
    (hsrc : ∀ j v, cs[j]? = some v → w.cell? (a.add j) = some v) (hc : ∀ j, j < cs.length → (w.cell? ⟨b, o + j, none⟩).isSome = true) (hf : ∀ j, j < cs.length → w.frozen? ⟨b, o + j, none⟩ = false) (h1 : ∀ v ∈ cs, v.oneCell' = true) :
    (Builtin.copy_ #[dT, sT] ty #[.slice (some ⟨b, o, none⟩) dLen dCap, .slice (some a) sLen sCap]).run P w = .ok (goInt k) (w.setCells b o cs) := by
  have hl := run_loadCells_list (P := P) w a cs hsrc
  have hst := run_storeCells_cells (P := P) b o cs 0 w (by simpa using hc) (by simpa using hf) h1
  cases hq : P.info? elem with
  | none => simp [hq] at hs
  | some i =>
    have hi : i.size = sz := by simpa [hq] using hs
    simp [Builtin.copy_, run_underlying hu, Builtin.lenOf, Builtin.firstCells, sizeOf, typeInfo, hq, hi, ← hk, ← hn, hl, hst]
end
/-- the cells of a block behind 'setCells' -/
theorem setCells_heap {g : Nat} {e : TypeId} : ∀ (vs : List Value) (o : Nat) (w : World) (cur : Array Value), w.heap[g]? = some (.cells cur e (0, 0)) → o + vs.length ≤ cur.size →
    ∃ cur' : Array Value, (w.setCells g o vs).heap[g]? = some (.cells cur' e (0, 0)) ∧ cur'.size = cur.size ∧ cur'.toList = cur.toList.take o ++ vs ++ cur.toList.drop (o + vs.length)
  | [], o, w, cur, h, _ => ⟨cur, h, rfl, by simp⟩
  | v :: r, o, w, cur, h, hl => by
    have h1 := blk_set h o v
    obtain ⟨cur', h2, h3, h4⟩ := setCells_heap r (o + 1) _ _ h1 (by simp at hl ⊢; omega)
    refine ⟨cur', h2, by rw [h3]; simp, ?_⟩
    rw [h4]
    have e := list_seg_step cur.toList o v r (by simp at hl ⊢; omega)
    simpa [Array.toList_setIfInBounds, Nat.add_assoc] using e
theorem setCells_grown (g : Nat) : ∀ (vs : List Value) (o : Nat) (w : World), w.grownBy (w.setCells g o vs) (some g)
  | [], o, w => World.grownBy.refl w _
  | v :: r, o, w => grown_trans (grown_set w g o v) (setCells_grown g r (o + 1) _)
theorem seg_take {α : Type} (L C : List α) (a N : Nat) (h : a + C.length ≤ N) (hN : N ≤ L.length) : (L.take a ++ C ++ L.drop (a + C.length)).take N = (L.take N).take a ++ C ++ (L.take N).drop (a + C.length) := by
  have e1 : (L.take a).length = a := by rw [List.length_take]; omega
  have t1 : (L.take a).take N = L.take a := by rw [List.take_take, Nat.min_eq_right (by omega)]
  have t2 : C.take (N - a) = C := List.take_of_length_le (by omega)
  have t3 : (L.take N).take a = L.take a := by rw [List.take_take, Nat.min_eq_left (by omega)]
  rw [t3, List.append_assoc, List.take_append, t1, e1, List.take_append, t2, List.drop_take, List.append_assoc, Nat.sub_sub]
theorem Flat.put {α : Type} {d : Kd α} {c : α → List Value} (F : Flat d c) {e : Nat} {w : World} {base : Nat} {ok : Nat → Prop} {g n cap : Nat} {xs : List α} (h : d.R e w base ok (.slice (some ⟨g, 0, none⟩) n cap) xs) {i : Nat} (hi : i < xs.length) (x : α) :
    d.R e (w.setCells g (i * d.sz) (c x)) base ok (.slice (some ⟨g, 0, none⟩) n cap) (xs.set i x) ∧ w.grownBy (w.setCells g (i * d.sz) (c x)) (some g) := by
  obtain ⟨cur, B⟩ := F.blk h
  have hn := B.len
  subst hn
  have hle : i * d.sz + d.sz ≤ xs.length * d.sz := by rw [← Nat.succ_mul]; exact Nat.mul_le_mul_right _ hi
  have hcs : xs.length * d.sz ≤ cur.size := by rw [B.size]; exact Nat.mul_le_mul_right _ B.le
  obtain ⟨cur', h1, h2, h3⟩ := setCells_heap (c x) (i * d.sz) w cur B.heap (by rw [F.len]; omega)
  refine ⟨F.row ⟨by simp, B.okg, B.bas, h1, B.le, B.max, by rw [h2, B.size], ?_⟩, setCells_grown g _ _ _⟩
  rw [h3, seg_take _ _ _ _ (by rw [F.len]; exact hle) (by simpa using hcs), B.take, F.ftake, F.len, ← Nat.succ_mul, F.fdrop, List.set_eq_take_append_cons_drop, if_pos hi]
  simp
end Go.Proofs.Ytnepgcbgkhikkaa.H
namespace Go.Proofs.Ytnepgcbgkhikkaa.H
open Go.RowKit Go.Proofs.YtnepgcbgkhikkaaW.PrintWords
def cVar (x : Var) : List Value := [.string x.name, .int .i64 x.n, .int .i64 x.last, .bool x.taint]
theorem flatVar : Flat k54 cVar :=
  ⟨⟨fun h => k54_openM h, fun h => h ▸ k54_mkM _ _ _ _⟩, ⟨fun h => k54_open h, fun h => h ▸ k54_mk _ _⟩, fun _ => rfl, fun x u hu => by
    simp only [cVar, List.mem_cons, List.not_mem_nil, or_false] at hu
    rcases hu with rfl | rfl | rfl | rfl <;> rfl, by decide⟩
end Go.Proofs.Ytnepgcbgkhikkaa.H
/- what a machine's name has: (*machine).of, and the library's IndexFunc at names -/
namespace Go.Proofs.Ytnepgcbgkhikkaa.H
open Go.RowKit Go.Proofs.YtnepgcbgkhikkaaW.PrintWords Go.Proofs.YtnepgcbgkhikkaaW.PrintLast Go.Proofs.YtnepgcbgkhikkaaW.PrintMore
set_option linter.unusedVariables false
set_option maxHeartbeats 4000000 in
/-- slices.IndexFunc, a struct -/
theorem IndexFuncVar (g : Nat) (lb : Array Value) (eg : ∀ args w, (callFunc g args).run Try.prog w = .ok (.enter g args) w) (p : Var → Bool)
    (A0 : Option Addr) (c0 : Nat) (l0 : List Var) (w : World) (hr0 : Kd.C k54 w A0 l0.length l0) (hp : PredA Try.prog g lb k54 p w l0) :
    Calls Try.prog 71 #[.slice A0 l0.length c0, .func (.func g) #[] lb] w fun e w' => e = .returned (.int .i64 (idxP p l0 0)) ∧ Below w.heap.size w w' := by
  have HR := Aside0.mk hr0
  have HP := Aside0.mk hp
  have hl : l0.length ≤ 9223372036854775807 := hr0.2.1
  clear hr0 hp
  go_enter Try.func71, Try.ntmps71
  go_wp2
  go_loopg [5, 8] l0.length (fun gg _ s8 wr => ∃ kk : Nat, kk ≤ l0.length ∧ l0.length - kk ≤ gg ∧ s8 = .int .i64 kk ∧ Aside0 (Below w.heap.size w wr) ∧ Aside0 (idxP p l0 0 = idxP p (l0.drop kk) kk))
  case atStart => exact ⟨0, Nat.zero_le _, by omega, rfl, ⟨Below.refl _ w⟩, ⟨rfl⟩⟩
  case round =>
    obtain ⟨kk, hkk, hg, rfl, BW, A⟩ := hrel
    by_cases hlt : kk < l0.length
    · have hltz : (kk : Int) < (l0.length : Int) := by omega
      obtain ⟨y, hy⟩ := at_some hlt
      have hat := at_Var HR.out hy
      have HA := Aside0.mk (A.out.trans (by rw [drop_cons hy]))
      have hym := List.mem_of_getElem? hy
      clear A hy
      obtain ⟨ad, e1, hx0, hx1, hx2, hx3⟩ := hat
      cases e1
      replace hx0 := Below.old BW.out hx0; replace hx1 := Below.old BW.out hx1; replace hx2 := Below.old BW.out hx2; replace hx3 := Below.old BW.out hx3
      have hcall := HP.out wr y [.string y.name, .int .i64 y.n, .int .i64 y.last, .bool y.taint] hym BW.out (k54_mk wr y )
      cases hq : p y with
      | true =>
        rw [hq] at hcall
        go_wp2_with (go_at_fn g; refine hcall.mono ?_; rintro e w' ⟨rfl, hb'⟩)
        go_ret
        exact ⟨by rw [HA.out, idxP, if_pos hq]; rfl, Below.then BW.out hb'⟩
      | false =>
        rw [hq] at hcall
        go_wp2_with (go_at_fn g; refine hcall.mono ?_; rintro e w' ⟨rfl, hb'⟩)
        go_roundg (l0.length - (kk + 1))
        case measure => omega
        case rel => exact ⟨kk + 1, by omega, by omega, by go_num, ⟨Below.then BW.out hb'⟩, ⟨by rw [HA.out, idxP, if_neg (by rw [hq]; decide)]⟩⟩
    · have hltz : ¬ (kk : Int) < (l0.length : Int) := by omega
      obtain rfl : kk = l0.length := by omega
      go_wp2
      go_ret
      exact ⟨by rw [A.out]; simp [idxP], BW.out⟩
theorem vcell {W w1 : World} (hb : Below W.heap.size W w1) : (∀ b o, b < W.heap.size → w1.cell? ⟨b, o, none⟩ = W.cell? ⟨b, o, none⟩) ∧ (∀ b o, b < W.heap.size → w1.frozen? ⟨b, o, none⟩ = W.frozen? ⟨b, o, none⟩) :=
  ⟨fun b o h => hb.cell (p := ⟨b, o, none⟩) h, fun b o h => hb.frozen (p := ⟨b, o, none⟩) h⟩
theorem ofV1 (w : World) (B : Nat) (s : ByteArray) (l : List Var) (h1 : w.cell? ⟨B, 0, none⟩ = some (.string s)) :
    PredA Try.prog 84 #[.pointer (some ⟨B, 0, none⟩)] k54 (fun p => decide (p.name = s)) w l := by
  intro W x cs _ hb hK
  have hu := Try.underlying54
  obtain rfl := k54_open hK
  have e1 := Below.old hb h1
  have hB : B < W.heap.size := World.block_lt_of_cell? _ _ e1
  clear h1 hb hK
  by_cases hq : x.name = s
  · obtain ⟨q1, q2⟩ := ba_beq hq
    have HQ := Aside0.mk hq
    clear hq
    go_enter Try.func84, Try.ntmps84
    go_wp2
    go_ret
    exact ⟨by simp [HQ.out], below_alloc (Below.refl _ _) _⟩
  · obtain ⟨q1, q2⟩ := ba_bne hq
    have HQ := Aside0.mk hq
    clear hq
    go_enter Try.func84, Try.ntmps84
    go_wp2
    go_ret
    exact ⟨by simp [HQ.out], below_alloc (Below.refl _ _) _⟩
theorem stV1 (w : World) (B : Nat) (s : ByteArray) (l : List Var) (h1 : w.cell? ⟨B, 0, none⟩ = some (.string s)) :
    PredA Try.prog 72 #[.pointer (some ⟨B, 0, none⟩)] k54 (fun p => decide (p.name = s)) w l := by
  intro W x cs _ hb hK
  have hu := Try.underlying54
  obtain rfl := k54_open hK
  have e1 := Below.old hb h1
  have hB : B < W.heap.size := World.block_lt_of_cell? _ _ e1
  clear h1 hb hK
  by_cases hq : x.name = s
  · obtain ⟨q1, q2⟩ := ba_beq hq
    have HQ := Aside0.mk hq
    clear hq
    go_enter Try.func72, Try.ntmps72
    go_wp2
    go_ret
    exact ⟨by simp [HQ.out], below_alloc (Below.refl _ _) _⟩
  · obtain ⟨q1, q2⟩ := ba_bne hq
    have HQ := Aside0.mk hq
    clear hq
    go_enter Try.func72, Try.ntmps72
    go_wp2
    go_ret
    exact ⟨by simp [HQ.out], below_alloc (Below.refl _ _) _⟩
def atV (l : List Var) (s : ByteArray) : Int := idxP (fun p => decide (p.name = s)) l 0
theorem atV_of {l : List Var} {s : ByteArray} {k : Nat} {y : Var} (h : atV l s = (k : Int)) (hy : l[k]? = some y) : True := trivial
set_option maxHeartbeats 1000000 in
/-- what a name has that the machine knows -/
theorem of_calls (w : World) (gm : Nat) (i1 i2 i3 : Value) (A3 : Option Addr) (c3 : Nat) (vs : List Var) (s : ByteArray) (k : Nat) (y : Var) (hm : w.heap[gm]? = some (.cells #[i1, i2, i3, .slice A3 vs.length c3] 73 (0, 0)))
    (hr : Kd.C k54 w A3 vs.length vs) (hk : atV vs s = (k : Int)) (hy : vs[k]? = some y) :
    Calls Try.prog 74 #[.pointer (some ⟨gm, 0, none⟩), .string s] w fun e w' => e = .returned (.agg #[.string y.name, .int .i64 y.n, .int .i64 y.last, .bool y.taint]) ∧ Below w.heap.size w w' := by
  have hu := Try.underlying54
  have hum := Try.underlying73
  have HR := Aside0.mk hr
  have hc : w.cell? ⟨gm, 3, none⟩ = some (.slice A3 vs.length c3) := (blk_cell hm 3).trans rfl
  have hg : gm < w.heap.size := World.block_lt_of_cell? _ _ hc
  clear hr hm
  have eg := enters_of Try.func84 (by kernel_rfl) rfl
  have H1 := Aside0.mk hk
  obtain ⟨ad, e1, hx0, hx1, hx2, hx3⟩ := at_Var HR.out hy
  cases e1
  have hkl := (List.getElem?_eq_some_iff.1 hy).1
  have hk0 : (0 : Int) ≤ (k : Int) := by omega
  clear hk hy
  go_enter Try.func74, Try.ntmps74
  go_wp2_with (go_at_call 71; go_must (refine (IndexFuncVar 84 #[.pointer (some ⟨w.heap.size, 0, none⟩)] eg (fun p => decide (p.name = s)) _ _ _ _ (Kd.C_alloc (Kd.C_alloc HR.out _) _) (ofV1 _ _ _ _ (by go_simp))).mono ?_); rintro e w1 ⟨rfl, hb⟩; rw [show idxP (fun p : Var => decide (p.name = s)) vs 0 = (k : Int) from H1.out]; obtain ⟨hcc, hf⟩ := vcell hb; have HB := Aside0.mk (Below.then (below_alloc (below_alloc (Below.refl w.heap.size w) _) _) hb); have hz : w.heap.size + 1 < w1.heap.size := (by have := hb.size; simp at this; omega); replace hc := Below.old HB.out hc; replace hx0 := Below.old HB.out hx0; replace hx1 := Below.old HB.out hx1; replace hx2 := Below.old HB.out hx2; replace hx3 := Below.old HB.out hx3)
  exact bodyPost_ret (v := .agg #[.string y.name, .int .i64 y.n, .int .i64 y.last, .bool y.taint]) (by simp [results, Try.results74, go_sem, hcc]) rfl ⟨rfl, below_set (below_set (below_set (below_set HB.out (Nat.le_succ _)) (Nat.le_succ _)) (Nat.le_succ _)) (Nat.le_succ _)⟩
end Go.Proofs.Ytnepgcbgkhikkaa.H
/- a machine's block, and what reads of the script make of it -/
namespace Go.Proofs.Ytnepgcbgkhikkaa.H
open Go.RowKit Go.Proofs.YtnepgcbgkhikkaaW.PrintWords Go.Proofs.YtnepgcbgkhikkaaW.PrintLast Go.Proofs.YtnepgcbgkhikkaaW.PrintMore
set_option linter.unusedVariables false
structure Mach (w0 : World) (N : Nat) (w : World) (gm : Nat) (A0 : Option Addr) (c0 : Nat) (l : List Stmt) (ins : List Int) (ora : List Bool) (u : Value) (vs : List Var) : Prop where
  bel : Below w0.heap.size w0 w
  gml : w0.heap.size ≤ gm
  gmN : gm < N
  N_w : N ≤ w.heap.size
  row : ∃ A1 c1 A2 c2, w.heap[gm]? = some (.cells #[.slice A1 ins.length c1, .slice A2 ora.length c2, .slice A0 l.length c0, u] 73 (0, 0)) ∧ Kd.C (Kd.int .i64) w0 A1 ins.length ins ∧ ins.length ≤ c1 ∧ Kd.C Kd.bool w0 A2 ora.length ora ∧ ora.length ≤ c2
  vars : Kd.R k54 54 w w0.heap.size (fun k => k ≠ gm ∧ k < N) u vs
theorem Mach.below {w0 : World} {N : Nat} {w : World} {gm : Nat} {A0 : Option Addr} {c0 : Nat} {l : List Stmt} {ins : List Int} {ora : List Bool} {u : Value} {vs : List Var} (h : Mach w0 N w gm A0 c0 l ins ora u vs) {w' : World} (hb : Below w.heap.size w w') : Mach w0 N w' gm A0 c0 l ins ora u vs := by
  obtain ⟨A1, c1, A2, c2, hm, h1, h2, h3, h4⟩ := h.row
  exact ⟨below_step h.bel hb, h.gml, h.gmN, Nat.le_trans h.N_w hb.size, ⟨A1, c1, A2, c2, blk_below hm hb, h1, h2, h3, h4⟩, Kd.R_below h.vars hb⟩
theorem step_put {w : World} {g j : Nat} {cs : Array Value} {e : Nat} {u : Value} (h : w.heap[g]? = some (.cells cs e (0, 0))) : (w.setCell ⟨g, j, none⟩ u).heap[g]? = some (.cells (cs.setIfInBounds j u) e (0, 0)) := blk_set h j u
/-- the machine behind a store into its own block -/
theorem Mach.put {w0 : World} {N : Nat} {w : World} {gm : Nat} {A0 : Option Addr} {c0 : Nat} {l : List Stmt} {ins ins' : List Int} {ora ora' : List Bool} {u : Value} {vs : List Var} (h : Mach w0 N w gm A0 c0 l ins ora u vs) (j : Nat) (v : Value)
    (hr : ∃ A1 c1 A2 c2, (w.setCell ⟨gm, j, none⟩ v).heap[gm]? = some (.cells #[.slice A1 ins'.length c1, .slice A2 ora'.length c2, .slice A0 l.length c0, u] 73 (0, 0)) ∧ Kd.C (Kd.int .i64) w0 A1 ins'.length ins' ∧ ins'.length ≤ c1 ∧ Kd.C Kd.bool w0 A2 ora'.length ora' ∧ ora'.length ≤ c2) :
    Mach w0 N (w.setCell ⟨gm, j, none⟩ v) gm A0 c0 l ins' ora' u vs := by
  have hs : (w.setCell ⟨gm, j, none⟩ v).heap.size = w.heap.size := by simp [World.setCell]
  refine ⟨below_set h.bel h.gml, h.gml, h.gmN, by rw [hs]; exact h.N_w, hr, ?_⟩
  exact Kd.R_kept h.vars (Kept.setCell (S := fun k => k = gm) (Kept.refl _ _) (.inl rfl) v) (fun k hk => hk.1)
set_option maxRecDepth 100000 in
theorem input_calls (w0 : World) (N : Nat) (w : World) (gm : Nat) (A0 : Option Addr) (c0 : Nat) (l : List Stmt) (ins : List Int) (ora : List Bool) (u : Value) (vs : List Var) (h : Mach w0 N w gm A0 c0 l ins ora u vs) :
    Calls Try.prog 82 #[.pointer (some ⟨gm, 0, none⟩)] w fun e w' => e = .returned (.int .i64 (ins.headD 0)) ∧ Mach w0 N w' gm A0 c0 l ins.tail ora u vs ∧ w.grownBy w' (some gm) := by
  have HM := Aside0.mk h
  obtain ⟨A1, c1, A2, c2, hm, h1, h2, h3, h4⟩ := h.row
  have hul := Try.underlying40
  have hum := Try.underlying73
  have hus := Try.underlying71
  have hc : w.cell? ⟨gm, 0, none⟩ = some (.slice A1 ins.length c1) := (blk_cell hm 0).trans rfl
  have hf : w.frozen? ⟨gm, 0, none⟩ = false := blk_frozen hm 0
  clear h
  cases ins with
  | nil =>
    go_enter Try.func82, Try.ntmps82
    go_wp2
    go_ret
    exact ⟨rfl, HM.out, World.grownBy.refl _ _⟩
  | cons a r =>
    obtain ⟨ad, e1, hx⟩ := at_int (i := 0) h1 rfl
    cases e1
    have hx : w.cell? ad = some (.int .i64 a) := by have := Below.old HM.out.bel hx; rwa [show ad.add 0 = ad from rfl] at this
    have hne : (((r.length : Int) + 1) == 0) = false := by rw [beq_eq_false_iff_ne]; omega
    have HD := Aside0.mk (Kd.C_drop (m := 1) h1 (by simp) h2)
    have h1r : (1 : Nat) ≤ r.length + 1 := by omega
    have HC := Aside0.mk h2
    have HL := Aside0.mk h1.2.1
    go_enter Try.func82, Try.ntmps82
    have HM0 := Aside0.mk hm
    clear hm h1
    go_wp2
    · go_ret
      have hq := HD.out
      rw [if_pos (by assumption)] at hq
      exact ⟨rfl, Mach.put HM.out 0 _ ⟨_, _, A2, c2, (step_put HM0.out).trans rfl, hq, by have := HC.out; simp at this; show r.length ≤ _; omega, h3, h4⟩, grown_set _ _ _ _⟩
    · go_ret
      have hq := HD.out
      rw [if_neg (by assumption)] at hq
      exact ⟨rfl, Mach.put HM.out 0 _ ⟨_, _, A2, c2, (step_put HM0.out).trans rfl, hq, by have := HC.out; simp at this; show r.length ≤ _; omega, h3, h4⟩, grown_set _ _ _ _⟩
set_option maxRecDepth 100000 in
theorem answer_calls (w0 : World) (N : Nat) (w : World) (gm : Nat) (A0 : Option Addr) (c0 : Nat) (l : List Stmt) (ins : List Int) (ora : List Bool) (u : Value) (vs : List Var) (b : Bool) (h : Mach w0 N w gm A0 c0 l ins ora u vs) :
    Calls Try.prog 73 #[.pointer (some ⟨gm, 0, none⟩), .bool b] w fun e w' => e = .returned (.bool (ora.headD b)) ∧ Mach w0 N w' gm A0 c0 l ins ora.tail u vs ∧ w.grownBy w' (some gm) := by
  have HM := Aside0.mk h
  obtain ⟨A1, c1, A2, c2, hm, h1, h2, h3, h4⟩ := h.row
  have hul := Try.underlying41
  have hum := Try.underlying73
  have hus := Try.underlying71
  have hc : w.cell? ⟨gm, 1, none⟩ = some (.slice A2 ora.length c2) := (blk_cell hm 1).trans rfl
  have hf : w.frozen? ⟨gm, 1, none⟩ = false := blk_frozen hm 1
  clear h
  cases ora with
  | nil =>
    go_enter Try.func73, Try.ntmps73
    go_wp2
    go_ret
    exact ⟨rfl, HM.out, World.grownBy.refl _ _⟩
  | cons a r =>
    obtain ⟨ad, e1, hx⟩ := at_bool (i := 0) h3 rfl
    cases e1
    have hx : w.cell? ad = some (.bool a) := by have := Below.old HM.out.bel hx; rwa [show ad.add 0 = ad from rfl] at this
    have hne : (((r.length : Int) + 1) == 0) = false := by rw [beq_eq_false_iff_ne]; omega
    have HD := Aside0.mk (Kd.C_drop (m := 1) h3 (by simp) h4)
    have h1r : (1 : Nat) ≤ r.length + 1 := by omega
    have HC := Aside0.mk h4
    have HL := Aside0.mk h3.2.1
    go_enter Try.func73, Try.ntmps73
    have HM0 := Aside0.mk hm
    clear hm h3
    go_wp2
    · go_ret
      have hq := HD.out
      rw [if_pos (by assumption)] at hq
      exact ⟨rfl, Mach.put HM.out 1 _ ⟨A1, c1, _, _, (step_put HM0.out).trans rfl, h1, h2, hq, by have := HC.out; simp at this; show r.length ≤ _; omega⟩, grown_set _ _ _ _⟩
    · go_ret
      have hq := HD.out
      rw [if_neg (by assumption)] at hq
      exact ⟨rfl, Mach.put HM.out 1 _ ⟨A1, c1, _, _, (step_put HM0.out).trans rfl, h1, h2, hq, by have := HC.out; simp at this; show r.length ≤ _; omega⟩, grown_set _ _ _ _⟩
end Go.Proofs.Ytnepgcbgkhikkaa.H
/- what a statement gives: (*machine).made, kind by kind -/
namespace Go.Proofs.Ytnepgcbgkhikkaa.H
open Go.RowKit Go.Proofs.YtnepgcbgkhikkaaW.PrintWords Go.Proofs.YtnepgcbgkhikkaaW.PrintLast Go.Proofs.YtnepgcbgkhikkaaW.PrintMore
set_option linter.unusedVariables false
def getV (vs : List Var) (s : ByteArray) : Var := (vs.find? fun p => decide (p.name = s)).getD ⟨⟨#[]⟩, 0, 0, false⟩
theorem getV_at {s : ByteArray} : ∀ (vs : List Var) (i : Nat), s ∈ vs.map Var.name → ∃ k y, idxP (fun p : Var => decide (p.name = s)) vs i = ((i + k : Nat) : Int) ∧ vs[k]? = some y ∧ getV vs s = y
  | [], i, h => by simp at h
  | x :: vs, i, h => by
    unfold idxP
    by_cases c : x.name = s
    · exact ⟨0, x, by simp [c], rfl, by simp [getV, c]⟩
    · obtain ⟨k, y, h1, h2, h3⟩ := getV_at vs (i + 1) (by
        rcases List.mem_cons.1 (by simpa using h : s ∈ x.name :: vs.map Var.name) with e | e
        · exact absurd e.symm c
        · exact e)
      refine ⟨k + 1, y, ?_, by simpa using h2, ?_⟩
      · rw [if_neg (by simpa using c), h1]; omega
      · rw [← h3]; simp [getV, c]
/-- what a name has that the machine knows -/
theorem of_named (w0 : World) (N : Nat) (w : World) (gm : Nat) (A0 : Option Addr) (c0 : Nat) (l : List Stmt) (ins : List Int) (ora : List Bool) (u : Value) (vs : List Var) (h : Mach w0 N w gm A0 c0 l ins ora u vs) (s : ByteArray) (hs : s ∈ vs.map Var.name) :
    Calls Try.prog 74 #[.pointer (some ⟨gm, 0, none⟩), .string s] w fun e w' => e = .returned (.agg #[.string (getV vs s).name, .int .i64 (getV vs s).n, .int .i64 (getV vs s).last, .bool (getV vs s).taint]) ∧ Below w.heap.size w w' := by
  obtain ⟨k, y, h1, h2, h3⟩ := getV_at vs 0 hs
  rw [h3]
  obtain ⟨A1, c1, A2, c2, hm, -, -, -, -⟩ := h.row
  obtain ⟨A3, c3, rfl⟩ := Kd.R_slice h.vars
  exact of_calls w gm _ _ _ A3 c3 vs s k y hm (Kd.R_reads' h.vars).2.2 (by rw [atV, h1, Nat.zero_add]) h2
theorem gcell {W w1 : World} {gm : Nat} (hg : W.grownBy w1 (some gm)) : (∀ b o, b < W.heap.size → ¬ b = gm → w1.cell? ⟨b, o, none⟩ = W.cell? ⟨b, o, none⟩) ∧ (∀ b o, b < W.heap.size → ¬ b = gm → w1.frozen? ⟨b, o, none⟩ = W.frozen? ⟨b, o, none⟩) := by
  constructor
  · intro b o h hn
    have := hg.block b h (fun e => hn (Option.some.inj e))
    simp [World.cell?, this]
  · intro b o h hn
    have := hg.block b h (fun e => hn (Option.some.inj e))
    simp [World.frozen?, this]
theorem Mach.far {w0 : World} {N : Nat} {w : World} {gm : Nat} {A0 : Option Addr} {c0 : Nat} {l : List Stmt} {ins : List Int} {ora : List Bool} {u : Value} {vs : List Var} (h : Mach w0 N w gm A0 c0 l ins ora u vs) {b : Nat} (hb : N ≤ b) (j : Nat) (v : Value) : Mach w0 N (w.setCell ⟨b, j, none⟩ v) gm A0 c0 l ins ora u vs := by
  obtain ⟨A1, c1, A2, c2, hm, h1, h2, h3, h4⟩ := h.row
  have hg := h.gml
  have hN := h.gmN
  have hs : (w.setCell ⟨b, j, none⟩ v).heap.size = w.heap.size := by simp [World.setCell]
  have hw := h.N_w
  refine ⟨below_set h.bel (by show _ ≤ b; omega), h.gml, h.gmN, by rw [hs]; exact h.N_w, ⟨A1, c1, A2, c2, ?_, h1, h2, h3, h4⟩, ?_⟩
  · rw [Below.heap_setCell w ⟨b, j, none⟩ v gm (show gm ≠ b by omega)]; exact hm
  · exact Kd.R_kept h.vars (Kept.setCell (S := fun k => k = b) (Kept.refl _ _) (.inl rfl) v) (fun k hk => by have := hk.2; omega)
theorem grown_far {w w1 : World} {g : Option Nat} (h : w.grownBy w1 g) {b : Nat} (hb : w.heap.size ≤ b) (j : Nat) (v : Value) : w.grownBy (w1.setCell ⟨b, j, none⟩ v) g :=
  ⟨h.os, h.tape, h.output, by simpa [World.setCell] using h.size, fun k hk hn => by rw [Below.heap_setCell w1 ⟨b, j, none⟩ v k (show k ≠ b by omega)]; exact h.block k hk hn⟩
theorem grown_allocs {w w' : World} {g : Option Nat} (h : Below w.heap.size w w') : w.grownBy w' g := grown_of_below h g
section
variable (w0 : World) (N : Nat) (w : World) (gm : Nat) (A0 : Option Addr) (c0 : Nat) (l : List Stmt) (ins : List Int) (ora : List Bool) (u : Value) (vs : List Var) (n : Nat) (st : Stmt)
set_option maxRecDepth 100000 in
set_option maxHeartbeats 4000000 in
theorem made1 (h : Mach w0 N w gm A0 c0 l ins ora u vs) (hl : Kd.C k30 w0 A0 l.length l) (hst : l[n]? = some st) (hk : st.kind = 1) :
    Calls Try.prog 70 #[.pointer (some ⟨gm, 0, none⟩), .int .i64 n] w fun e w' => e = .returned (.agg #[.string st.x, .int .i64 (st.n), .int .i64 n, .bool (false)]) ∧ Mach w0 N w' gm A0 c0 l (ins) ora u vs ∧ w.grownBy w' (some gm) := by
  have HM := Aside0.mk h
  obtain ⟨A1, c1, A2, c2, hm, h1, h2, h3, h4⟩ := h.row
  have hum := Try.underlying73
  have huv := Try.underlying54
  have hut := Try.underlying30
  have hul := Try.underlying22
  have hc : w.cell? ⟨gm, 2, none⟩ = some (.slice A0 l.length c0) := (blk_cell hm 2).trans rfl
  have hnl := (List.getElem?_eq_some_iff.1 hst).1
  have hn0 : (0 : Int) ≤ (n : Int) := by omega
  have hn1 : (n : Int) < (l.length : Int) := by omega
  obtain ⟨ad, e1, x0, x1, x2, x3, x4, x5, x6, x7⟩ := at_Stmt (Kd.C_below hl h.bel) hst
  cases e1
  have hab : (ad.add (n * 8)).block < w.heap.size := World.block_lt_of_cell? _ _ x0
  have hgm : gm < w.heap.size := World.block_lt_of_cell? _ _ hc
  have n0 : ¬ w.heap.size = gm := by omega
  have n1 : ¬ w.heap.size + 1 = gm := by omega
  have n2 : ¬ w.heap.size + 1 + 1 = gm := by omega
  clear h hm h1 h2 h3 h4 hl hst
  go_enter Try.func70, Try.ntmps70
  go_wp2
  have hb := below_alloc (below_alloc (below_alloc (Below.refl w.heap.size w) (.cells #[.string st.x, .int .i64 st.n, .int .i64 n, .bool false] 54)) (.cells #[.int .i64 1, .string st.x, .string st.y, .string st.z, .string st.op, .int .i64 st.n, .int .i64 st.a, .int .i64 st.b] 30)) (.cells #[.string st.x, .int .i64 st.n, .int .i64 n, .bool false] 54)
  exact bodyPost_ret (v := .agg #[.string st.x, .int .i64 (st.n), .int .i64 n, .bool false]) (by simp [results, Try.results70, go_sem]) rfl ⟨rfl, HM.out.below hb, grown_allocs hb⟩
set_option maxRecDepth 100000 in
set_option maxHeartbeats 4000000 in
theorem made0 (h : Mach w0 N w gm A0 c0 l ins ora u vs) (hl : Kd.C k30 w0 A0 l.length l) (hst : l[n]? = some st) (k1 : ¬ st.kind = 1) (k2 : ¬ st.kind = 2) (k3 : ¬ st.kind = 3) (k4 : ¬ st.kind = 4) (k5 : ¬ st.kind = 5) :
    Calls Try.prog 70 #[.pointer (some ⟨gm, 0, none⟩), .int .i64 n] w fun e w' => e = .returned (.agg #[.string st.x, .int .i64 (0), .int .i64 n, .bool (false)]) ∧ Mach w0 N w' gm A0 c0 l (ins) ora u vs ∧ w.grownBy w' (some gm) := by
  have HM := Aside0.mk h
  obtain ⟨A1, c1, A2, c2, hm, h1, h2, h3, h4⟩ := h.row
  have hum := Try.underlying73
  have huv := Try.underlying54
  have hut := Try.underlying30
  have hul := Try.underlying22
  have hc : w.cell? ⟨gm, 2, none⟩ = some (.slice A0 l.length c0) := (blk_cell hm 2).trans rfl
  have hnl := (List.getElem?_eq_some_iff.1 hst).1
  have hn0 : (0 : Int) ≤ (n : Int) := by omega
  have hn1 : (n : Int) < (l.length : Int) := by omega
  obtain ⟨ad, e1, x0, x1, x2, x3, x4, x5, x6, x7⟩ := at_Stmt (Kd.C_below hl h.bel) hst
  cases e1
  have hab : (ad.add (n * 8)).block < w.heap.size := World.block_lt_of_cell? _ _ x0
  have hgm : gm < w.heap.size := World.block_lt_of_cell? _ _ hc
  have n0 : ¬ w.heap.size = gm := by omega
  have n1 : ¬ w.heap.size + 1 = gm := by omega
  have n2 : ¬ w.heap.size + 1 + 1 = gm := by omega
  clear h hm h1 h2 h3 h4 hl hst
  go_enter Try.func70, Try.ntmps70
  have j1 : (st.kind == 1) = false := beq_eq_false_iff_ne.2 k1
  have j2 : (st.kind == 2) = false := beq_eq_false_iff_ne.2 k2
  have j3 : (st.kind == 3) = false := beq_eq_false_iff_ne.2 k3
  have j4 : (st.kind == 4) = false := beq_eq_false_iff_ne.2 k4
  have j5 : (st.kind == 5) = false := beq_eq_false_iff_ne.2 k5
  go_wp2
  have hb := below_alloc (below_alloc (below_alloc (Below.refl w.heap.size w) (.cells #[.string st.x, .int .i64 0, .int .i64 n, .bool false] 54)) (.cells #[.int .i64 st.kind, .string st.x, .string st.y, .string st.z, .string st.op, .int .i64 st.n, .int .i64 st.a, .int .i64 st.b] 30)) (.cells #[.string st.x, .int .i64 0, .int .i64 n, .bool false] 54)
  exact bodyPost_ret (v := .agg #[.string st.x, .int .i64 (0), .int .i64 n, .bool false]) (by simp [results, Try.results70, go_sem]) rfl ⟨rfl, HM.out.below hb, grown_allocs hb⟩
set_option maxRecDepth 100000 in
set_option maxHeartbeats 4000000 in
theorem made4 (h : Mach w0 N w gm A0 c0 l ins ora u vs) (hl : Kd.C k30 w0 A0 l.length l) (hst : l[n]? = some st) (hk : st.kind = 4) :
    Calls Try.prog 70 #[.pointer (some ⟨gm, 0, none⟩), .int .i64 n] w fun e w' => e = .returned (.agg #[.string st.x, .int .i64 (ins.headD 0), .int .i64 n, .bool (true)]) ∧ Mach w0 N w' gm A0 c0 l (ins.tail) ora u vs ∧ w.grownBy w' (some gm) := by
  have HM := Aside0.mk h
  obtain ⟨A1, c1, A2, c2, hm, h1, h2, h3, h4⟩ := h.row
  have hum := Try.underlying73
  have huv := Try.underlying54
  have hut := Try.underlying30
  have hul := Try.underlying22
  have hc : w.cell? ⟨gm, 2, none⟩ = some (.slice A0 l.length c0) := (blk_cell hm 2).trans rfl
  have hnl := (List.getElem?_eq_some_iff.1 hst).1
  have hn0 : (0 : Int) ≤ (n : Int) := by omega
  have hn1 : (n : Int) < (l.length : Int) := by omega
  obtain ⟨ad, e1, x0, x1, x2, x3, x4, x5, x6, x7⟩ := at_Stmt (Kd.C_below hl h.bel) hst
  cases e1
  have hab : (ad.add (n * 8)).block < w.heap.size := World.block_lt_of_cell? _ _ x0
  have hgm : gm < w.heap.size := World.block_lt_of_cell? _ _ hc
  have n0 : ¬ w.heap.size = gm := by omega
  have n1 : ¬ w.heap.size + 1 = gm := by omega
  have n2 : ¬ w.heap.size + 1 + 1 = gm := by omega
  clear h hm h1 h2 h3 h4 hl hst
  go_enter Try.func70, Try.ntmps70
  have hb := fun o => below_alloc (below_alloc (below_alloc (Below.refl w.heap.size w) (.cells #[.string ⟨#[]⟩, .int .i64 0, .int .i64 0, .bool false] 54)) (.cells #[.int .i64 4, .string st.x, .string st.y, .string st.z, .string st.op, .int .i64 st.n, .int .i64 st.a, .int .i64 st.b] 30)) o
  go_wp2_with (go_at_call 82; go_must (refine (input_calls w0 N _ gm _ c0 l ins ora u vs (HM.out.below (hb _))).mono ?_); rintro e w1 ⟨rfl, hM, hg⟩; obtain ⟨hcc, hff⟩ := gcell hg)
  have hN := HM.out.N_w
  have hz : w.heap.size + 1 + 1 + 1 ≤ w1.heap.size := by have := hg.size; simpa using this
  have k0 : w1.cell? ⟨w.heap.size, 0, none⟩ = some (.string ⟨#[]⟩) := by rw [hcc _ _ (by simp; omega) n0]; go_simp
  have k1 : w1.cell? ⟨w.heap.size, 1, none⟩ = some (.int .i64 0) := by rw [hcc _ _ (by simp; omega) n0]; go_simp
  have k2 : w1.cell? ⟨w.heap.size, 2, none⟩ = some (.int .i64 0) := by rw [hcc _ _ (by simp; omega) n0]; go_simp
  have k3 : w1.cell? ⟨w.heap.size, 3, none⟩ = some (.bool false) := by rw [hcc _ _ (by simp; omega) n0]; go_simp
  have hw : w.grownBy w1 (some gm) := grown_trans (grown_allocs (hb _)) hg
  exact bodyPost_ret (v := .agg #[.string st.x, .int .i64 (ins.headD 0), .int .i64 n, .bool true]) (by simp [results, Try.results70, go_sem, k0, k1, k2, k3]) rfl ⟨by simp, Mach.far (Mach.far (Mach.far (Mach.far (Mach.far (Mach.far hM (by omega) _ _) (by omega) _ _) (by omega) _ _) (by omega) _ _) (by omega) _ _) (by omega) _ _, grown_far (grown_far (grown_far (grown_far (grown_far (grown_far hw (by omega) _ _) (by omega) _ _) (by omega) _ _) (by omega) _ _) (by omega) _ _) (by omega) _ _⟩
set_option maxRecDepth 100000 in
set_option maxHeartbeats 4000000 in
theorem made5 (h : Mach w0 N w gm A0 c0 l ins ora u vs) (hl : Kd.C k30 w0 A0 l.length l) (hst : l[n]? = some st) (hk : st.kind = 5) (hy : st.y ∈ vs.map Var.name) :
    Calls Try.prog 70 #[.pointer (some ⟨gm, 0, none⟩), .int .i64 n] w fun e w' => e = .returned (.agg #[.string st.x, .int .i64 ((getV vs st.y).n), .int .i64 n, .bool (false)]) ∧ Mach w0 N w' gm A0 c0 l (ins) ora u vs ∧ w.grownBy w' (some gm) := by
  have HM := Aside0.mk h
  obtain ⟨A1, c1, A2, c2, hm, h1, h2, h3, h4⟩ := h.row
  have hum := Try.underlying73
  have huv := Try.underlying54
  have hut := Try.underlying30
  have hul := Try.underlying22
  have hc : w.cell? ⟨gm, 2, none⟩ = some (.slice A0 l.length c0) := (blk_cell hm 2).trans rfl
  have hnl := (List.getElem?_eq_some_iff.1 hst).1
  have hn0 : (0 : Int) ≤ (n : Int) := by omega
  have hn1 : (n : Int) < (l.length : Int) := by omega
  obtain ⟨ad, e1, x0, x1, x2, x3, x4, x5, x6, x7⟩ := at_Stmt (Kd.C_below hl h.bel) hst
  cases e1
  have hab : (ad.add (n * 8)).block < w.heap.size := World.block_lt_of_cell? _ _ x0
  have hgm : gm < w.heap.size := World.block_lt_of_cell? _ _ hc
  have n0 : ¬ w.heap.size = gm := by omega
  have n1 : ¬ w.heap.size + 1 = gm := by omega
  have n2 : ¬ w.heap.size + 1 + 1 = gm := by omega
  clear h hm h1 h2 h3 h4 hl hst
  go_enter Try.func70, Try.ntmps70
  have hb := fun o => below_alloc (below_alloc (below_alloc (Below.refl w.heap.size w) (.cells #[.string ⟨#[]⟩, .int .i64 0, .int .i64 0, .bool false] 54)) (.cells #[.int .i64 5, .string st.x, .string st.y, .string st.z, .string st.op, .int .i64 st.n, .int .i64 st.a, .int .i64 st.b] 30)) o
  have qf : ∀ (W : World) (a b c d : Value), (Instr.field 54 (.agg #[a, b, c, d]) 1).run Try.prog W = .ok b W := fun _ _ _ _ _ => rfl
  go_wp2_with (go_at_call 74; go_must (refine (of_named w0 N _ gm _ c0 l ins ora u vs (HM.out.below (hb _)) st.y hy).mono ?_); rintro e w1 ⟨rfl, hB⟩; obtain ⟨hcc, hff⟩ := vcell hB)
  have hN := HM.out.N_w
  have hz : w.heap.size + 1 + 1 + 1 ≤ w1.heap.size := by have := hB.size; simpa using this
  have hM := (HM.out.below (hb (.cells #[.string st.x, .int .i64 0, .int .i64 n, .bool false] 54))).below hB
  have k0 : w1.cell? ⟨w.heap.size, 0, none⟩ = some (.string ⟨#[]⟩) := by rw [hcc _ _ (by simp; omega)]; go_simp
  have k1 : w1.cell? ⟨w.heap.size, 1, none⟩ = some (.int .i64 0) := by rw [hcc _ _ (by simp; omega)]; go_simp
  have k2 : w1.cell? ⟨w.heap.size, 2, none⟩ = some (.int .i64 0) := by rw [hcc _ _ (by simp; omega)]; go_simp
  have k3 : w1.cell? ⟨w.heap.size, 3, none⟩ = some (.bool false) := by rw [hcc _ _ (by simp; omega)]; go_simp
  have hw : w.grownBy w1 (some gm) := grown_trans (grown_allocs (hb _)) (grown_allocs hB)
  exact bodyPost_ret (v := .agg #[.string st.x, .int .i64 (getV vs st.y).n, .int .i64 n, .bool false]) (by simp [results, Try.results70, go_sem, k0, k1, k2, k3]) rfl ⟨rfl, Mach.far (Mach.far (Mach.far (Mach.far (Mach.far hM (by omega) _ _) (by omega) _ _) (by omega) _ _) (by omega) _ _) (by omega) _ _, grown_far (grown_far (grown_far (grown_far (grown_far hw (by omega) _ _) (by omega) _ _) (by omega) _ _) (by omega) _ _) (by omega) _ _⟩
end
end Go.Proofs.Ytnepgcbgkhikkaa.H
namespace Go.Proofs.Ytnepgcbgkhikkaa.H
open Go.RowKit Go.Proofs.YtnepgcbgkhikkaaW.PrintWords Go.Proofs.YtnepgcbgkhikkaaW.PrintLast Go.Proofs.YtnepgcbgkhikkaaW.PrintMore
attribute [local go_sem] max2_int min2_int max_two min_two max_three min_three max_four min_four
set_option linter.unusedVariables false
set_option linter.unusedSimpArgs false
def interp_bit.f (a0 : Bool) : Option (Int) := if a0 = true then (some 1) else (some 0)
set_option maxHeartbeats 8000000 in
set_option maxRecDepth 100000 in
theorem interp_bit.calls (a0 : Bool) (r : Int) (w : World) (h : interp_bit.f a0 = some r) :
  Calls Try.prog 105 #[.bool a0] w fun e w' => e = .returned (.int .i64 r) ∧ Drawn0 w w' := by
 have H : (if a0 = true then (some 1) else (some 0)) = some r := h
 clear h
 by_cases c2 : a0 = true
 ·subst c2
  have H1 : (some 1) = some r := by rw [if_pos rfl] at H; exact H
  clear H
  have H := H1
  clear H1
  obtain rfl := Option.some.inj H
  go_enter Try.func105, Try.ntmps105
  go_wp2
  go_ret
  exact ⟨by first | rfl | (simp; done) | (simp [*]; done), by repeat (first | exact Drawn0.refl _ | apply Drawn0.step)⟩
 ·replace c2 := Bool.eq_false_iff.mpr c2
  subst c2
  have H1 : (some 0) = some r := by rw [if_neg (show ¬ (false = true) by decide)] at H; exact H
  clear H
  have H := H1
  clear H1
  obtain rfl := Option.some.inj H
  go_enter Try.func105, Try.ntmps105
  go_wp2
  go_ret
  exact ⟨by first | rfl | (simp; done) | (simp [*]; done), by repeat (first | exact Drawn0.refl _ | apply Drawn0.step)⟩
end Go.Proofs.Ytnepgcbgkhikkaa.H
namespace Go.Proofs.Ytnepgcbgkhikkaa.H
open Go.RowKit Go.Proofs.YtnepgcbgkhikkaaW.PrintWords Go.Proofs.YtnepgcbgkhikkaaW.PrintLast Go.Proofs.YtnepgcbgkhikkaaW.PrintMore
attribute [local go_sem] max2_int min2_int max_two min_two max_three min_three max_four min_four
set_option linter.unusedVariables false
set_option linter.unusedSimpArgs false
def interp_operated.f (a0 : ByteArray) (a1 : Int) (a2 : Int) : Option (Int) := if a0.toList = ([43] : List UInt8) then (some (wrap64 (a1 + a2))) else (if a0.toList = ([45] : List UInt8) then (some (wrap64 (a1 - a2))) else (if a0.toList = ([42] : List UInt8) then (some (wrap64 (a1 * a2))) else (if a0.toList = ([60] : List UInt8) then ((interp_bit.f (decide (a1 < a2))).bind fun t101 => (some t101)) else (if a0.toList = ([61] : List UInt8) then ((interp_bit.f (a1 == a2)).bind fun t102 => (some t102)) else (some 0)))))
set_option maxHeartbeats 8000000 in
set_option maxRecDepth 100000 in
theorem interp_operated.calls (a0 : ByteArray) (a1 : Int) (a2 : Int) (r : Int) (w : World) (h : interp_operated.f a0 a1 a2 = some r) :
  Calls Try.prog 83 #[.string a0, .int .i64 a1, .int .i64 a2] w fun e w' => e = .returned (.int .i64 r) ∧ Drawn0 w w' := by
 have H : (if a0.toList = ([43] : List UInt8) then (some (wrap64 (a1 + a2))) else (if a0.toList = ([45] : List UInt8) then (some (wrap64 (a1 - a2))) else (if a0.toList = ([42] : List UInt8) then (some (wrap64 (a1 * a2))) else (if a0.toList = ([60] : List UInt8) then ((interp_bit.f (decide (a1 < a2))).bind fun t101 => (some t101)) else (if a0.toList = ([61] : List UInt8) then ((interp_bit.f (a1 == a2)).bind fun t102 => (some t102)) else (some 0)))))) = some r := h
 clear h
 by_cases c4 : a0.toList = ([43] : List UInt8)
 ·rw [if_pos c4] at H
  have c4b0 : (a0.toList == ([43] : List UInt8)) = true := beq_iff_eq.mpr c4
  have c4b1 : (a0.toList != ([43] : List UInt8)) = false := bne_eq_false_iff_eq.mpr c4
  clear c4
  obtain rfl := Option.some.inj H
  go_enter Try.func83, Try.ntmps83
  go_wp2
  go_ret
  exact ⟨by first | rfl | (simp; done) | (simp [*]; done), by repeat (first | exact Drawn0.refl _ | apply Drawn0.step)⟩
 ·rw [if_neg c4] at H
  have c4b0 : (a0.toList == ([43] : List UInt8)) = false := beq_eq_false_iff_ne.mpr c4
  have c4b1 : (a0.toList != ([43] : List UInt8)) = true := bne_iff_ne.mpr c4
  by_cases c5 : a0.toList = ([45] : List UInt8)
  ·rw [if_pos c5] at H
   have c5b0 : (a0.toList == ([45] : List UInt8)) = true := beq_iff_eq.mpr c5
   have c5b1 : (a0.toList != ([45] : List UInt8)) = false := bne_eq_false_iff_eq.mpr c5
   clear c5
   obtain rfl := Option.some.inj H
   go_enter Try.func83, Try.ntmps83
   go_wp2
   go_ret
   exact ⟨by first | rfl | (simp; done) | (simp [*]; done), by repeat (first | exact Drawn0.refl _ | apply Drawn0.step)⟩
  ·rw [if_neg c5] at H
   have c5b0 : (a0.toList == ([45] : List UInt8)) = false := beq_eq_false_iff_ne.mpr c5
   have c5b1 : (a0.toList != ([45] : List UInt8)) = true := bne_iff_ne.mpr c5
   by_cases c6 : a0.toList = ([42] : List UInt8)
   ·rw [if_pos c6] at H
    have c6b0 : (a0.toList == ([42] : List UInt8)) = true := beq_iff_eq.mpr c6
    have c6b1 : (a0.toList != ([42] : List UInt8)) = false := bne_eq_false_iff_eq.mpr c6
    clear c6
    obtain rfl := Option.some.inj H
    go_enter Try.func83, Try.ntmps83
    go_wp2
    go_ret
    exact ⟨by first | rfl | (simp; done) | (simp [*]; done), by repeat (first | exact Drawn0.refl _ | apply Drawn0.step)⟩
   ·rw [if_neg c6] at H
    have c6b0 : (a0.toList == ([42] : List UInt8)) = false := beq_eq_false_iff_ne.mpr c6
    have c6b1 : (a0.toList != ([42] : List UInt8)) = true := bne_iff_ne.mpr c6
    by_cases c7 : a0.toList = ([60] : List UInt8)
    ·rw [if_pos c7] at H
     have c7b0 : (a0.toList == ([60] : List UInt8)) = true := beq_iff_eq.mpr c7
     have c7b1 : (a0.toList != ([60] : List UInt8)) = false := bne_eq_false_iff_eq.mpr c7
     clear c7
     replace H := Option.bind_eq_some_iff.mp H
     obtain ⟨t101, A80, H⟩ := H
     replace H : (some t101) = some r := H
     have A8 := Aside0.mk A80
     clear A80
     obtain rfl := Option.some.inj H
     go_enter Try.func83, Try.ntmps83
     go_wp2_with (first | ((with_reducible refine gate_callee (f := 105) rfl ?_); refine goesL_ (some 28) rfl rfl Try.func105 (by kernel_rfl) rfl #[.bool (decide (a1 < a2))] rfl (by (try simp only [List.map_toArray, List.map_cons, List.map_nil]); first | done | rfl | (simp only [List.length_drop, List.length_take]; rfl)) ?_; (with_reducible refine (interp_bit.calls (decide (a1 < a2)) t101 _ A8.out).mono ?_); rintro e w' ⟨rfl, ⟨nd, rfl⟩⟩; refine ⟨_, rfl, ?_⟩))
     go_ret
     exact ⟨by first | rfl | (simp; done) | (simp [*]; done), by repeat (first | exact Drawn0.refl _ | apply Drawn0.step)⟩
    ·rw [if_neg c7] at H
     have c7b0 : (a0.toList == ([60] : List UInt8)) = false := beq_eq_false_iff_ne.mpr c7
     have c7b1 : (a0.toList != ([60] : List UInt8)) = true := bne_iff_ne.mpr c7
     by_cases c9 : a0.toList = ([61] : List UInt8)
     ·rw [if_pos c9] at H
      have c9b0 : (a0.toList == ([61] : List UInt8)) = true := beq_iff_eq.mpr c9
      have c9b1 : (a0.toList != ([61] : List UInt8)) = false := bne_eq_false_iff_eq.mpr c9
      clear c9
      replace H := Option.bind_eq_some_iff.mp H
      obtain ⟨t102, A100, H⟩ := H
      replace H : (some t102) = some r := H
      have A10 := Aside0.mk A100
      clear A100
      obtain rfl := Option.some.inj H
      go_enter Try.func83, Try.ntmps83
      go_wp2_with (first | ((with_reducible refine gate_callee (f := 105) rfl ?_); refine goesL_ (some 34) rfl rfl Try.func105 (by kernel_rfl) rfl #[.bool (a1 == a2)] rfl (by (try simp only [List.map_toArray, List.map_cons, List.map_nil]); first | done | rfl | (simp only [List.length_drop, List.length_take]; rfl)) ?_; (with_reducible refine (interp_bit.calls (a1 == a2) t102 _ A10.out).mono ?_); rintro e w' ⟨rfl, ⟨nd, rfl⟩⟩; refine ⟨_, rfl, ?_⟩))
      go_ret
      exact ⟨by first | rfl | (simp; done) | (simp [*]; done), by repeat (first | exact Drawn0.refl _ | apply Drawn0.step)⟩
     ·rw [if_neg c9] at H
      have c9b0 : (a0.toList == ([61] : List UInt8)) = false := beq_eq_false_iff_ne.mpr c9
      have c9b1 : (a0.toList != ([61] : List UInt8)) = true := bne_iff_ne.mpr c9
      obtain rfl := Option.some.inj H
      go_enter Try.func83, Try.ntmps83
      go_wp2
      go_ret
      exact ⟨by first | rfl | (simp; done) | (simp [*]; done), by repeat (first | exact Drawn0.refl _ | apply Drawn0.step)⟩
end Go.Proofs.Ytnepgcbgkhikkaa.H
/- what a copy and an operation give: regions that draw their order -/
namespace Go.Proofs.Ytnepgcbgkhikkaa.H
open Go.RowKit Go.Proofs.YtnepgcbgkhikkaaW.PrintWords Go.Proofs.YtnepgcbgkhikkaaW.PrintLast Go.Proofs.YtnepgcbgkhikkaaW.PrintMore
set_option linter.unusedVariables false
/-- what holds of each world within such a region -/
structure HeldM (w0 : World) (N : Nat) (gm : Nat) (A0 : Option Addr) (c0 : Nat) (l : List Stmt) (ins : List Int) (ora : List Bool) (u : Value) (vs : List Var) (n : Nat) (st : Stmt) (w w' : World) : Prop where
  mach : Mach w0 N w' gm A0 c0 l ins ora u vs
  gr : w.grownBy w' (some gm)
  b4 : w'.heap[w.heap.size]? = some (.cells #[.string ⟨#[]⟩, .int .i64 0, .int .i64 0, .bool false] 54 (0, 0))
  b5 : w'.heap[w.heap.size + 1]? = some (.cells #[.int .i64 st.kind, .string st.x, .string st.y, .string st.z, .string st.op, .int .i64 st.n, .int .i64 st.a, .int .i64 st.b] 30 (0, 0))
  b6 : ∃ a c, w'.heap[w.heap.size + 1 + 1]? = some (.cells #[.string st.x, a, .int .i64 n, c] 54 (0, 0))
  ne : gm < w.heap.size
  nw : N ≤ w.heap.size
abbrev SeesM (w0 : World) (N : Nat) (gm : Nat) (A0 : Option Addr) (c0 : Nat) (l : List Stmt) (ins : List Int) (ora : List Bool) (u : Value) (vs : List Var) (n : Nat) (st : Stmt) (w w' : World) : Prop :=
  HeldM w0 N gm A0 c0 l ins ora u vs n st w w' ∧ w'.cell? ⟨w.heap.size + 1, 2, none⟩ = some (.string st.y) ∧ w'.cell? ⟨w.heap.size + 1, 3, none⟩ = some (.string st.z) ∧ w'.cell? ⟨w.heap.size + 1, 4, none⟩ = some (.string st.op)
section
variable {w0 : World} {N : Nat} {gm : Nat} {A0 : Option Addr} {c0 : Nat} {l : List Stmt} {ins : List Int} {ora : List Bool} {u : Value} {vs : List Var} {n : Nat} {st : Stmt} {w w1 w' : World}
theorem HeldM.sees (h : HeldM w0 N gm A0 c0 l ins ora u vs n st w w') : SeesM w0 N gm A0 c0 l ins ora u vs n st w w' := by
  exact ⟨h, (blk_cell h.b5 2).trans rfl, (blk_cell h.b5 3).trans rfl, (blk_cell h.b5 4).trans rfl⟩
theorem HeldM.below (h : HeldM w0 N gm A0 c0 l ins ora u vs n st w w1) (hb : Below w1.heap.size w1 w') : HeldM w0 N gm A0 c0 l ins ora u vs n st w w' := by
  obtain ⟨a, c, h6⟩ := h.b6
  exact ⟨h.mach.below hb, grown_trans h.gr (grown_allocs hb), blk_below h.b4 hb, blk_below h.b5 hb, ⟨a, c, blk_below h6 hb⟩, h.ne, h.nw⟩
theorem blk_new2 {w : World} {n : Nat} (h : w.heap.size = n) (o : Obj) : (w.alloc o).heap[n]? = some o := by subst h; exact blk_new w o
theorem HeldM.start (h : Mach w0 N w gm A0 c0 l ins ora u vs) (hg : gm < w.heap.size) : HeldM w0 N gm A0 c0 l ins ora u vs n st w (((w.alloc (.cells #[.string ⟨#[]⟩, .int .i64 0, .int .i64 0, .bool false] 54)).alloc (.cells #[.int .i64 st.kind, .string st.x, .string st.y, .string st.z, .string st.op, .int .i64 st.n, .int .i64 st.a, .int .i64 st.b] 30)).alloc (.cells #[.string st.x, .int .i64 0, .int .i64 n, .bool false] 54)) := by
  have hb := below_alloc (below_alloc (below_alloc (Below.refl w.heap.size w) (.cells #[.string ⟨#[]⟩, .int .i64 0, .int .i64 0, .bool false] 54)) (.cells #[.int .i64 st.kind, .string st.x, .string st.y, .string st.z, .string st.op, .int .i64 st.n, .int .i64 st.a, .int .i64 st.b] 30)) (.cells #[.string st.x, .int .i64 0, .int .i64 n, .bool false] 54)
  exact ⟨h.below hb, grown_allocs hb, blk_alloc (blk_alloc (blk_new _ _) _) _, blk_alloc (blk_new2 (by simp) _) _, ⟨_, _, blk_new2 (by simp) _⟩, hg, h.N_w⟩
theorem HeldM.put (h : HeldM w0 N gm A0 c0 l ins ora u vs n st w w1) {j : Nat} (hj : j = 1 ∨ j = 3) (v : Value) : HeldM w0 N gm A0 c0 l ins ora u vs n st w (w1.setCell ⟨w.heap.size + 1 + 1, j, none⟩ v) := by
  obtain ⟨a, c, h6⟩ := h.b6
  have hn := h.nw
  have hf : ∀ k, k ≠ w.heap.size + 1 + 1 → (w1.setCell ⟨w.heap.size + 1 + 1, j, none⟩ v).heap[k]? = w1.heap[k]? := fun k hk => Below.heap_setCell w1 ⟨w.heap.size + 1 + 1, j, none⟩ v k hk
  refine ⟨h.mach.far (by omega) j v, grown_far h.gr (by omega) j v, (hf _ (by omega)).trans h.b4, (hf _ (by omega)).trans h.b5, ?_, h.ne, h.nw⟩
  rcases hj with rfl | rfl
  · exact ⟨v, c, (step_put h6).trans rfl⟩
  · exact ⟨a, v, (step_put h6).trans rfl⟩
theorem HeldM.far (h : HeldM w0 N gm A0 c0 l ins ora u vs n st w w') : ∃ a c, (w'.cell? ⟨w.heap.size + 1 + 1, 0, none⟩ = some (.string st.x) ∧ w'.cell? ⟨w.heap.size + 1 + 1, 1, none⟩ = some a ∧ w'.cell? ⟨w.heap.size + 1 + 1, 2, none⟩ = some (.int .i64 n) ∧ w'.cell? ⟨w.heap.size + 1 + 1, 3, none⟩ = some c) ∧
    (∀ o, w'.frozen? ⟨w.heap.size + 1 + 1, o, none⟩ = false) ∧ (∀ o, w'.frozen? ⟨w.heap.size, o, none⟩ = false) ∧ w'.cell? ⟨w.heap.size, 0, none⟩ = some (.string ⟨#[]⟩) ∧ w'.cell? ⟨w.heap.size, 1, none⟩ = some (.int .i64 0) ∧ w'.cell? ⟨w.heap.size, 2, none⟩ = some (.int .i64 0) ∧ w'.cell? ⟨w.heap.size, 3, none⟩ = some (.bool false) := by
  obtain ⟨a, c, h6⟩ := h.b6
  exact ⟨a, c, ⟨(blk_cell h6 0).trans rfl, (blk_cell h6 1).trans rfl, (blk_cell h6 2).trans rfl, (blk_cell h6 3).trans rfl⟩, fun o => blk_frozen h6 o, fun o => blk_frozen h.b4 o, (blk_cell h.b4 0).trans rfl, (blk_cell h.b4 1).trans rfl, (blk_cell h.b4 2).trans rfl, (blk_cell h.b4 3).trans rfl⟩
end
section
variable (w0 : World) (N : Nat) (w : World) (gm : Nat) (A0 : Option Addr) (c0 : Nat) (l : List Stmt) (ins : List Int) (ora : List Bool) (u : Value) (vs : List Var) (n : Nat) (st : Stmt)
set_option maxRecDepth 100000 in
set_option maxHeartbeats 4000000 in
theorem made3 (h : Mach w0 N w gm A0 c0 l ins ora u vs) (hl : Kd.C k30 w0 A0 l.length l) (hst : l[n]? = some st) (hk : st.kind = 3) (hy : st.y ∈ vs.map Var.name) :
    Calls Try.prog 70 #[.pointer (some ⟨gm, 0, none⟩), .int .i64 n] w fun e w' => e = .returned (.agg #[.string st.x, .int .i64 ((getV vs st.y).n), .int .i64 n, .bool ((getV vs st.y).taint)]) ∧ Mach w0 N w' gm A0 c0 l (ins) ora u vs ∧ w.grownBy w' (some gm) := by
  have HM := Aside0.mk h
  obtain ⟨A1, c1, A2, c2, hm, h1, h2, h3, h4⟩ := h.row
  have hum := Try.underlying73
  have huv := Try.underlying54
  have hut := Try.underlying30
  have hul := Try.underlying22
  have hc : w.cell? ⟨gm, 2, none⟩ = some (.slice A0 l.length c0) := (blk_cell hm 2).trans rfl
  have hnl := (List.getElem?_eq_some_iff.1 hst).1
  have hn0 : (0 : Int) ≤ (n : Int) := by omega
  have hn1 : (n : Int) < (l.length : Int) := by omega
  obtain ⟨ad, e1, x0, x1, x2, x3, x4, x5, x6, x7⟩ := at_Stmt (Kd.C_below hl h.bel) hst
  cases e1
  have hab : (ad.add (n * 8)).block < w.heap.size := World.block_lt_of_cell? _ _ x0
  have hgm : gm < w.heap.size := World.block_lt_of_cell? _ _ hc
  have n0 : ¬ w.heap.size = gm := by omega
  have n1 : ¬ w.heap.size + 1 = gm := by omega
  have n2 : ¬ w.heap.size + 1 + 1 = gm := by omega
  clear h hm h1 h2 h3 h4 hl hst
  go_enter Try.func70, Try.ntmps70
  have qf1 : ∀ (W : World) (a b c d : Value), (Instr.field 54 (.agg #[a, b, c, d]) 1).run Try.prog W = .ok b W := fun _ _ _ _ _ => rfl
  have qf3 : ∀ (W : World) (a b c d : Value), (Instr.field 54 (.agg #[a, b, c, d]) 3).run Try.prog W = .ok d W := fun _ _ _ _ _ => rfl
  have HK := Aside0.mk (HeldM.start (n := n) (st := st) HM.out hgm)
  rw [hk] at HK
  go_wp2
  go_region_held3 (fun w' => SeesM w0 N gm (some ad) c0 l ins ora u vs n st w w') (first | exact (HeldM.below HK.out (below_drew (Below.refl _ _))).sees | exact (HeldM.below (And.left (by assumption)) (by assumption)).sees | exact (HeldM.put (And.left (by assumption)) (.inl rfl) _).sees | exact (HeldM.put (And.left (by assumption)) (.inr rfl) _).sees) ((go_at_call 74; go_must (refine (of_named w0 N _ gm _ c0 l ins ora u vs (HeldM.mach (And.left (by assumption))) st.y hy).mono ?_); rintro e w1 ⟨rfl, hb⟩; have hh := HeldM.below (And.left (by assumption)) hb; obtain ⟨a6, c6, k6, f6, f4, k40, k41, k42, k43⟩ := hh.far))
  go_wp2
  have hN := HM.out.N_w
  exact bodyPost_ret (v := .agg #[.string st.x, .int .i64 (getV vs st.y).n, .int .i64 n, .bool (getV vs st.y).taint]) (by simp [results, Try.results70, go_sem, k40, k41, k42, k43]) rfl ⟨rfl, Mach.far (Mach.far (Mach.far (Mach.far (Mach.far (Mach.far hh.mach (by omega) _ _) (by omega) _ _) (by omega) _ _) (by omega) _ _) (by omega) _ _) (by omega) _ _, grown_far (grown_far (grown_far (grown_far (grown_far (grown_far hh.gr (by omega) _ _) (by omega) _ _) (by omega) _ _) (by omega) _ _) (by omega) _ _) (by omega) _ _⟩
end
end Go.Proofs.Ytnepgcbgkhikkaa.H
/- what an operation gives -/
namespace Go.Proofs.Ytnepgcbgkhikkaa.H
open Go.RowKit Go.Proofs.YtnepgcbgkhikkaaW.PrintWords Go.Proofs.YtnepgcbgkhikkaaW.PrintLast Go.Proofs.YtnepgcbgkhikkaaW.PrintMore
set_option linter.unusedVariables false
section
variable {w0 : World} {N : Nat} {gm : Nat} {A0 : Option Addr} {c0 : Nat} {l : List Stmt} {ins : List Int} {ora : List Bool} {u : Value} {vs : List Var} {n : Nat} {st : Stmt} {w w1 w' : World}
theorem HeldM.size (h : HeldM w0 N gm A0 c0 l ins ora u vs n st w w1) : w.heap.size + 1 + 1 < w1.heap.size := by
  obtain ⟨a, c, h6⟩ := h.b6
  exact blk_lt h6
theorem HeldM.put1 (h : HeldM w0 N gm A0 c0 l ins ora u vs n st w w1) {b : Nat} (hb : w.heap.size + 1 + 1 < b) (j : Nat) (v : Value) : HeldM w0 N gm A0 c0 l ins ora u vs n st w (w1.setCell ⟨b, j, none⟩ v) := by
  obtain ⟨a, c, h6⟩ := h.b6
  have hn := h.nw
  have hf : ∀ k, k ≠ b → (w1.setCell ⟨b, j, none⟩ v).heap[k]? = w1.heap[k]? := fun k hk => Below.heap_setCell w1 ⟨b, j, none⟩ v k hk
  exact ⟨h.mach.far (by omega) j v, grown_far h.gr (by omega) j v, (hf _ (by omega)).trans h.b4, (hf _ (by omega)).trans h.b5, ⟨a, c, (hf _ (by omega)).trans h6⟩, h.ne, h.nw⟩
theorem HeldM.alloc (h : HeldM w0 N gm A0 c0 l ins ora u vs n st w w1) (o : Obj) : HeldM w0 N gm A0 c0 l ins ora u vs n st w (w1.alloc o) := h.below (below_alloc (Below.refl _ _) o)
theorem HeldM.drew (h : HeldM w0 N gm A0 c0 l ins ora u vs n st w w1) : HeldM w0 N gm A0 c0 l ins ora u vs n st w w1.drew := h.below (below_drew (Below.refl _ _))
theorem HeldM.put4 (h : HeldM w0 N gm A0 c0 l ins ora u vs n st w w1) {b : Nat} (hb : w.heap.size + 1 + 1 < b) (v0 v1 v2 v3 : Value) : HeldM w0 N gm A0 c0 l ins ora u vs n st w ((((w1.setCell ⟨b, 0, none⟩ v0).setCell ⟨b, 1, none⟩ v1).setCell ⟨b, 2, none⟩ v2).setCell ⟨b, 3, none⟩ v3) :=
  (((h.put1 hb 0 v0).put1 hb 1 v1).put1 hb 2 v2).put1 hb 3 v3
abbrev Sees14 (w0 : World) (N : Nat) (gm : Nat) (A0 : Option Addr) (c0 : Nat) (l : List Stmt) (ins : List Int) (ora : List Bool) (u : Value) (vs : List Var) (n : Nat) (st : Stmt) (w : World) (b7 b8 : Nat) (ty : Bool) (w' : World) : Prop :=
  (HeldM w0 N gm A0 c0 l ins ora u vs n st w w' ∧ w.heap.size + 1 + 1 < b7 ∧ w.heap.size + 1 + 1 < b8) ∧ w'.cell? ⟨w.heap.size + 1, 4, none⟩ = some (.string st.op) ∧
  w'.cell? ⟨b7, 1, none⟩ = some (.int .i64 (getV vs st.y).n) ∧ w'.cell? ⟨b7, 3, none⟩ = some (.bool ty) ∧ w'.cell? ⟨b8, 1, none⟩ = some (.int .i64 (getV vs st.z).n) ∧ w'.cell? ⟨b8, 3, none⟩ = some (.bool (getV vs st.z).taint)
theorem Sees14.mk {b7 b8 : Nat} {ty : Bool} (h : HeldM w0 N gm A0 c0 l ins ora u vs n st w w') (h7 : w.heap.size + 1 + 1 < b7) (h8 : w.heap.size + 1 + 1 < b8)
    (hc : w'.cell? ⟨b7, 1, none⟩ = some (.int .i64 (getV vs st.y).n) ∧ w'.cell? ⟨b7, 3, none⟩ = some (.bool ty) ∧ w'.cell? ⟨b8, 1, none⟩ = some (.int .i64 (getV vs st.z).n) ∧ w'.cell? ⟨b8, 3, none⟩ = some (.bool (getV vs st.z).taint)) :
    Sees14 w0 N gm A0 c0 l ins ora u vs n st w b7 b8 ty w' := ⟨⟨h, h7, h8⟩, h.sees.2.2.2, hc⟩
theorem Sees14.below {b7 b8 : Nat} {ty : Bool} (h : Sees14 w0 N gm A0 c0 l ins ora u vs n st w b7 b8 ty w1) (hb : Below w1.heap.size w1 w') : Sees14 w0 N gm A0 c0 l ins ora u vs n st w b7 b8 ty w' :=
  Sees14.mk (h.1.1.below hb) h.1.2.1 h.1.2.2 ⟨Below.old hb h.2.2.1, Below.old hb h.2.2.2.1, Below.old hb h.2.2.2.2.1, Below.old hb h.2.2.2.2.2⟩
theorem Sees14.put {b7 b8 : Nat} {ty : Bool} (h : Sees14 w0 N gm A0 c0 l ins ora u vs n st w b7 b8 ty w1) {j : Nat} (hj : j = 1 ∨ j = 3) (v : Value) : Sees14 w0 N gm A0 c0 l ins ora u vs n st w b7 b8 ty (w1.setCell ⟨w.heap.size + 1 + 1, j, none⟩ v) := by
  obtain ⟨⟨h1, h7, h8⟩, h2, h3, h4, h5, h6⟩ := h
  have hf : ∀ b o, w.heap.size + 1 + 1 < b → (w1.setCell ⟨w.heap.size + 1 + 1, j, none⟩ v).cell? ⟨b, o, none⟩ = w1.cell? ⟨b, o, none⟩ := fun b o hb => World.cell?_setCell_other _ _ _ _ (by intro e; injection e with e; omega)
  exact Sees14.mk (h1.put hj v) h7 h8 ⟨(hf _ _ h7).trans h3, (hf _ _ h7).trans h4, (hf _ _ h8).trans h5, (hf _ _ h8).trans h6⟩
end
section
variable (w0 : World) (N : Nat) (w : World) (gm : Nat) (A0 : Option Addr) (c0 : Nat) (l : List Stmt) (ins : List Int) (ora : List Bool) (u : Value) (vs : List Var) (n : Nat) (st : Stmt)
set_option maxRecDepth 100000 in
set_option maxHeartbeats 4000000 in
theorem made2 (h : Mach w0 N w gm A0 c0 l ins ora u vs) (hl : Kd.C k30 w0 A0 l.length l) (hst : l[n]? = some st) (hk : st.kind = 2) (hy : st.y ∈ vs.map Var.name) (hz : st.z ∈ vs.map Var.name) (r : Int) (ho : interp_operated.f st.op (getV vs st.y).n (getV vs st.z).n = some r) :
    Calls Try.prog 70 #[.pointer (some ⟨gm, 0, none⟩), .int .i64 n] w fun e w' => e = .returned (.agg #[.string st.x, .int .i64 (r), .int .i64 n, .bool ((or (getV vs st.y).taint (getV vs st.z).taint))]) ∧ Mach w0 N w' gm A0 c0 l (ins) ora u vs ∧ w.grownBy w' (some gm) := by
  have HM := Aside0.mk h
  obtain ⟨A1, c1, A2, c2, hm, h1, h2, h3, h4⟩ := h.row
  have hum := Try.underlying73
  have huv := Try.underlying54
  have hut := Try.underlying30
  have hul := Try.underlying22
  have hc : w.cell? ⟨gm, 2, none⟩ = some (.slice A0 l.length c0) := (blk_cell hm 2).trans rfl
  have hnl := (List.getElem?_eq_some_iff.1 hst).1
  have hn0 : (0 : Int) ≤ (n : Int) := by omega
  have hn1 : (n : Int) < (l.length : Int) := by omega
  obtain ⟨ad, e1, x0, x1, x2, x3, x4, x5, x6, x7⟩ := at_Stmt (Kd.C_below hl h.bel) hst
  cases e1
  have hab : (ad.add (n * 8)).block < w.heap.size := World.block_lt_of_cell? _ _ x0
  have hgm : gm < w.heap.size := World.block_lt_of_cell? _ _ hc
  have n0 : ¬ w.heap.size = gm := by omega
  have n1 : ¬ w.heap.size + 1 = gm := by omega
  have n2 : ¬ w.heap.size + 1 + 1 = gm := by omega
  clear h hm h1 h2 h3 h4 hl hst
  go_enter Try.func70, Try.ntmps70
  have HK := Aside0.mk (HeldM.start (n := n) (st := st) HM.out hgm)
  rw [hk] at HK
  have HO := Aside0.mk ho
  clear ho
  go_wp2
  go_cut [7, 8] (fun v7 v8 wc => ∃ b7 b8 : Nat, v7 = .pointer (some ⟨b7, 0, none⟩) ∧ v8 = .pointer (some ⟨b8, 0, none⟩) ∧ Aside0 (HeldM w0 N gm (some ad) c0 l ins ora u vs n st w wc) ∧ Aside0 (w.heap.size + 1 + 1 < b7) ∧ Aside0 (w.heap.size + 1 + 1 < b8) ∧
    Aside0 (wc.cell? ⟨b7, 1, none⟩ = some (.int .i64 (getV vs st.y).n) ∧ wc.cell? ⟨b7, 3, none⟩ = some (.bool (getV vs st.y).taint) ∧ wc.cell? ⟨b8, 1, none⟩ = some (.int .i64 (getV vs st.z).n) ∧ wc.cell? ⟨b8, 3, none⟩ = some (.bool (getV vs st.z).taint)))
  case first =>
    go_region_held3 (fun w' => SeesM w0 N gm (some ad) c0 l ins ora u vs n st w w') ((refine HeldM.sees ?_; repeat (with_reducible first | assumption | exact HK.out | apply HeldM.alloc | apply HeldM.drew | refine HeldM.put1 ?_ (by omega) _ _ | exact And.left (by assumption)))) ((go_at_call 74; go_must (refine (of_named w0 N _ gm _ c0 l ins ora u vs (HeldM.mach (And.left (by assumption))) _ (by first | exact hy | exact hz)).mono ?_); rintro e w1 ⟨rfl, hb⟩; have hh := HeldM.below (And.left (by assumption)) hb; have hs := hh.size; obtain ⟨hcc, hff⟩ := vcell hb; have hlt := fun k hk => Nat.lt_of_lt_of_le (n := k) hk hb.size; have hsz := hb.size; (try simp at hsz); (try have g3 := fun j => hcc (w.heap.size + 1 + 1 + 1) j (by first | (simp; done) | (simp; omega) | omega)); (try have f3 := fun j => hff (w.heap.size + 1 + 1 + 1) j (by first | (simp; done) | (simp; omega) | omega)); (try have l3 : w.heap.size + 1 + 1 + 1 < w1.heap.size := by omega); (try have g4 := fun j => hcc (w.heap.size + 1 + 1 + 1 + 1) j (by first | (simp; done) | (simp; omega) | omega)); (try have f4 := fun j => hff (w.heap.size + 1 + 1 + 1 + 1) j (by first | (simp; done) | (simp; omega) | omega)); (try have l4 : w.heap.size + 1 + 1 + 1 + 1 < w1.heap.size := by omega)))
    all_goals (try go_wp2)
    all_goals go_meet
    all_goals (refine ⟨_, _, rfl, rfl, ⟨?_⟩, ⟨?_⟩, ⟨?_⟩, ⟨?_, ?_, ?_, ?_⟩⟩)
    all_goals first
      | (with_reducible exact And.left (by assumption))
      | omega
      | (go_simp; done)
      | (simp (maxDischargeDepth := 8) [go_sem, hcc, hlt]; done)
      | skip
  case rest =>
    obtain ⟨b7, b8, rfl, rfl, HH, L7, L8, HC⟩ := hcut
    have hh := HH.out
    obtain ⟨a6, c6, k6, f6, f4, k40, k41, k42, k43⟩ := hh.far
    have S0 := Aside0.mk (Sees14.mk hh L7.out L8.out HC.out)
    have hN := HM.out.N_w
    cases hty : (getV vs st.y).taint
    case false =>
      rw [hty] at S0
      go_wp2
      go_region_held3 (fun w' => Sees14 w0 N gm (some ad) c0 l ins ora u vs n st w b7 b8 false w') (first | exact (Sees14.below S0.out (below_drew (Below.refl _ _))) | exact (Sees14.below S0.out (pw_below_drewN (Below.refl _ _) _)) | exact (Sees14.put (by assumption) (.inl rfl) _) | exact (Sees14.put (by assumption) (.inr rfl) _) | exact (Sees14.below (by assumption) (pw_below_drewN (Below.refl _ _) _))) ((go_at_call 83; go_must (refine (interp_operated.calls _ _ _ r _ HO.out).mono ?_); rintro e w1 ⟨rfl, nd, rfl⟩))
      all_goals go_wp2
      all_goals exact bodyPost_ret (v := .agg #[.string st.x, .int .i64 r, .int .i64 n, .bool (or (getV vs st.y).taint (getV vs st.z).taint)]) (by simp [results, Try.results70, go_sem, k40, k41, k42, k43, hty]) rfl ⟨rfl, Mach.far (Mach.far (Mach.far (Mach.far (HeldM.mach (And.left (And.left (by assumption)))) (by omega) _ _) (by omega) _ _) (by omega) _ _) (by omega) _ _, grown_far (grown_far (grown_far (grown_far (HeldM.gr (And.left (And.left (by assumption)))) (by omega) _ _) (by omega) _ _) (by omega) _ _) (by omega) _ _⟩
    case true =>
      rw [hty] at S0
      go_wp2
      refine start_ (n := 17) (S := fun w' => Sees14 w0 N gm (some ad) c0 l ins ora u vs n st w b7 b8 true w') (ds := []) (bl 17 0) (by kernel_rfl) rfl rfl (Sees14.below S0.out (below_drew (Below.refl _ _))) (fun hHeld => ?_)
      generalize wc.drew = ww at hHeld ⊢
      clear k6 f6 f4 k40 k41 k42 k43
      obtain ⟨q6, z6, k6, f6, f4, k40, k41, k42, k43⟩ := hHeld.1.1.far
      refine pure_ (i := 0) (N := some 67) (v := ?_) (a' := ?_) (bl 17 1) rfl rfl (by kernel_rfl) (fun _ _ _ h => h) (Or.inl ⟨by rfl, ?_⟩) ?_ ?_
      rotate_left
      · intro w'
        go_simp
        with_reducible rfl
      rotate_left
      · simp only [Act.put, sA, sZ, sS, i64_w, i32_w]
        rfl
      refine pure_ (i := 2) (N := some 69) (v := ?_) (a' := ?_) (bl 17 5) rfl rfl (by kernel_rfl) (fun _ _ _ h => h) (Or.inl ⟨by rfl, ?_⟩) ?_ ?_
      rotate_left
      · intro w'
        go_simp
        with_reducible rfl
      rotate_left
      · simp only [Act.put, sA, sZ, sS, i64_w, i32_w]
        rfl
      refine pure_ (i := 4) (N := some 71) (v := ?_) (a' := ?_) (bl 17 21) rfl rfl (by kernel_rfl) (fun _ _ _ h => h) (Or.inl ⟨by rfl, ?_⟩) ?_ ?_
      rotate_left
      · intro w'
        go_simp
        with_reducible rfl
      rotate_left
      · simp only [Act.put, sA, sZ, sS, i64_w, i32_w]
        rfl
      refine pure_ (i := 7) (N := some 74) (v := ?_) (a' := ?_) (bl 17 149) rfl rfl (by kernel_rfl) (fun _ _ _ h => h) (Or.inl ⟨by rfl, ?_⟩) ?_ ?_
      rotate_left
      · intro w'
        go_simp
        with_reducible rfl
      rotate_left
      · simp only [Act.put, sA, sZ, sS, i64_w, i32_w]
        rfl
      refine take_ (i := 1) (N := some 68) (v := ?_) (a' := ?_) (bl 17 151) rfl rfl (by kernel_rfl) (fun _ _ _ h => h) (Or.inl ⟨by rfl, ?_⟩) hHeld ?_ ?_
      rotate_left
      · intro w' hSw
        (try dsimp only at hSw)
        go_split_ands
        go_simp
        with_reducible rfl
      rotate_left
      · simp only [Act.put, sA, sZ, sS, i64_w, i32_w]
        rfl
      refine take_ (i := 3) (N := some 70) (v := ?_) (a' := ?_) (bl 17 159) rfl rfl (by kernel_rfl) (fun _ _ _ h => h) (Or.inl ⟨by rfl, ?_⟩) hHeld ?_ ?_
      rotate_left
      · intro w' hSw
        (try dsimp only at hSw)
        go_split_ands
        go_simp
        with_reducible rfl
      rotate_left
      · simp only [Act.put, sA, sZ, sS, i64_w, i32_w]
        rfl
      refine take_ (i := 5) (N := some 72) (v := ?_) (a' := ?_) (bl 17 191) rfl rfl (by kernel_rfl) (fun _ _ _ h => h) (Or.inl ⟨by rfl, ?_⟩) hHeld ?_ ?_
      rotate_left
      · intro w' hSw
        (try dsimp only at hSw)
        go_split_ands
        go_simp
        with_reducible rfl
      rotate_left
      · simp only [Act.put, sA, sZ, sS, i64_w, i32_w]
        rfl
      refine take_ (i := 8) (N := some 75) (v := ?_) (a' := ?_) (bl 17 447) rfl rfl (by kernel_rfl) (fun _ _ _ h => h) (Or.inl ⟨by rfl, ?_⟩) hHeld ?_ ?_
      rotate_left
      · intro w' hSw
        (try dsimp only at hSw)
        go_split_ands
        go_simp
        with_reducible rfl
      rotate_left
      · simp only [Act.put, sA, sZ, sS, i64_w, i32_w]
        rfl
      refine one_ (i := 6) (N := some 73) (bl 17 511) rfl rfl (by kernel_rfl) (by decide) (fun K hK => ?_)
      refine goes_ Try.func83 (by kernel_rfl) rfl #[.string st.op, .int .i64 (getV vs st.y).n, .int .i64 (getV vs st.z).n] (by rfl) rfl rfl (by (try simp only [List.map_toArray, List.map_cons, List.map_nil]); first | done | rfl) ?_
      refine (interp_operated.calls _ _ _ r _ HO.out).mono ?_
      rintro e w1 ⟨rfl, nd, rfl⟩
      refine ⟨_, rfl, ?_⟩
      refine hK.out _ _ (Sees14.below hHeld (pw_below_drewN (Below.refl _ _) _)) (fun hHeld => ?_)
      clear hK K
      refine norm_ (a' := ?_) ?_ ?_
      rotate_left
      · show Act.put _ (some 73) _ = _
        simp only [Act.put, sA, sZ, sS, i64_w, i32_w]
        rfl
      refine pure_ (i := 9) (N := some 76) (v := ?_) (a' := ?_) (bl 17 1023) rfl rfl (by kernel_rfl) (fun _ _ _ h => h) (Or.inl ⟨by rfl, ?_⟩) ?_ ?_
      rotate_left
      · intro w'
        go_simp
        with_reducible rfl
      rotate_left
      · simp only [Act.put, sA, sZ, sS, i64_w, i32_w]
        rfl
      refine pure_ (i := 10) (N := some 77) (v := undef) (a' := ?_) (bl 17 2047) rfl rfl (by kernel_rfl) (fun _ _ _ h => h) (Or.inr ⟨by rfl, rfl⟩) ?_ ?_
      rotate_left
      · simp only [Act.put, sA, sZ, sS, i64_w, i32_w]
        rfl
      refine pure_ (i := 11) (N := some 78) (v := undef) (a' := ?_) (bl 17 4095) rfl rfl (by kernel_rfl) (fun _ _ _ h => h) (Or.inr ⟨by rfl, rfl⟩) ?_ ?_
      rotate_left
      · simp only [Act.put, sA, sZ, sS, i64_w, i32_w]
        rfl
      refine pure_ (i := 12) (N := some 79) (v := ?_) (a' := ?_) (bl 17 8191) rfl rfl (by kernel_rfl) (fun _ _ _ h => h) (Or.inl ⟨by rfl, ?_⟩) ?_ ?_
      rotate_left
      · intro w'
        go_simp
        with_reducible rfl
      rotate_left
      · simp only [Act.put, sA, sZ, sS, i64_w, i32_w]
        rfl
      refine pure_ (i := 13) (N := some 80) (v := ?_) (a' := ?_) (bl 17 16383) rfl rfl (by kernel_rfl) (fun _ _ _ h => h) (Or.inl ⟨by rfl, ?_⟩) ?_ ?_
      rotate_left
      · intro w'
        go_simp
        with_reducible rfl
      rotate_left
      · simp only [Act.put, sA, sZ, sS, i64_w, i32_w]
        rfl
      refine one_ (i := 14) (N := none) (bl 17 32767) rfl rfl (by kernel_rfl) (by decide) (fun K hK => ?_)
      refine skip_ (w1 := ?_) (by rfl) rfl ?_ ?_
      rotate_left
      · go_simp
        rfl
      refine hK.out _ _ (Sees14.put hHeld (.inl rfl) _) (fun hHeld => ?_)
      clear hK K
      refine pure_ (i := 15) (N := some 81) (v := ?_) (a' := ?_) (bl 17 65535) rfl rfl (by kernel_rfl) (fun _ _ _ h => h) (Or.inl ⟨by rfl, ?_⟩) ?_ ?_
      rotate_left
      · intro w'
        go_simp
        with_reducible rfl
      rotate_left
      · simp only [Act.put, sA, sZ, sS, i64_w, i32_w]
        rfl
      refine one_ (i := 16) (N := none) (bl 17 131071) rfl rfl (by kernel_rfl) (by decide) (fun K hK => ?_)
      refine skip_ (w1 := ?_) (by rfl) rfl ?_ ?_
      rotate_left
      · go_simp
        rfl
      refine hK.out _ _ (Sees14.put hHeld (.inr rfl) _) (fun hHeld => ?_)
      clear hK K
      refine done_ (by kernel_rfl) ?_
      all_goals go_wp2
      all_goals exact bodyPost_ret (v := .agg #[.string st.x, .int .i64 r, .int .i64 n, .bool (or (getV vs st.y).taint (getV vs st.z).taint)]) (by simp [results, Try.results70, go_sem, k40, k41, k42, k43, hty]) rfl ⟨rfl, Mach.far (Mach.far (Mach.far (Mach.far (HeldM.mach (And.left (And.left (by assumption)))) (by omega) _ _) (by omega) _ _) (by omega) _ _) (by omega) _ _, grown_far (grown_far (grown_far (grown_far (HeldM.gr (And.left (And.left (by assumption)))) (by omega) _ _) (by omega) _ _) (by omega) _ _) (by omega) _ _⟩
end
end Go.Proofs.Ytnepgcbgkhikkaa.H
/- a machine's step, kind by kind -/
namespace Go.Proofs.Ytnepgcbgkhikkaa.H
open Go.RowKit Go.Proofs.YtnepgcbgkhikkaaW.PrintWords Go.Proofs.YtnepgcbgkhikkaaW.PrintLast Go.Proofs.YtnepgcbgkhikkaaW.PrintMore
set_option linter.unusedVariables false
section
variable (w0 : World) (N : Nat) (w : World) (gm : Nat) (A0 : Option Addr) (c0 : Nat) (l : List Stmt) (ins : List Int) (ora : List Bool) (u : Value) (vs : List Var) (n : Nat) (st : Stmt)
set_option maxRecDepth 100000 in
set_option maxHeartbeats 4000000 in
theorem step0 (h : Mach w0 N w gm A0 c0 l ins ora u vs) (hl : Kd.C k30 w0 A0 l.length l) (hst : l[n]? = some st) (hd : cfg_Def.f st.kind st.x st.y st.z st.op st.n st.a st.b = some (⟨#[]⟩, false)) (k7 : ¬ st.kind = 7) (k8 : ¬ st.kind = 8) (k9 : ¬ st.kind = 9) :
    Calls Try.prog 56 #[.pointer (some ⟨gm, 0, none⟩), .int .i64 n] w fun e w' => e = .returned (.int .i64 (wrap64 (n + 1))) ∧ Mach w0 N w' gm A0 c0 l ins ora u vs ∧ w.grownBy w' (some gm) := by
  have HM := Aside0.mk h
  have HD := Aside0.mk hd
  obtain ⟨A1, c1, A2, c2, hm, h1, h2, h3, h4⟩ := h.row
  have hum := Try.underlying73
  have huv := Try.underlying54
  have hut := Try.underlying30
  have hul := Try.underlying22
  have hc : w.cell? ⟨gm, 2, none⟩ = some (.slice A0 l.length c0) := (blk_cell hm 2).trans rfl
  have hnl := (List.getElem?_eq_some_iff.1 hst).1
  have hn0 : (0 : Int) ≤ (n : Int) := by omega
  have hn1 : (n : Int) < (l.length : Int) := by omega
  obtain ⟨ad, e1, x0, x1, x2, x3, x4, x5, x6, x7⟩ := at_Stmt (Kd.C_below hl h.bel) hst
  cases e1
  have hab : (ad.add (n * 8)).block < w.heap.size := World.block_lt_of_cell? _ _ x0
  have hgm : gm < w.heap.size := World.block_lt_of_cell? _ _ hc
  clear h hm h1 h2 h3 h4 hl hst hd
  go_enter Try.func56, Try.ntmps56
  have j7 : (st.kind == 7) = false := beq_eq_false_iff_ne.2 k7
  have j8 : (st.kind == 8) = false := beq_eq_false_iff_ne.2 k8
  have j9 : (st.kind == 9) = false := beq_eq_false_iff_ne.2 k9
  go_wp2_with (go_at_call 20; go_must (refine (cfg_Def.calls st.kind st.x st.y st.z st.op st.n st.a st.b _ _ _ HD.out).mono ?_); rintro e w1 ⟨rfl, hB⟩; have b5 := blk_below (blk_new w _) hB; have hs5 := blk_lt b5; have p0 := (blk_cell b5 0).trans rfl; have p2 := (blk_cell b5 2).trans rfl; have p6 := (blk_cell b5 6).trans rfl; have p7 := (blk_cell b5 7).trans rfl)
  go_ret
  have hb := below_alloc (Below.then (below_alloc (Below.refl w.heap.size w) _) hB) (.cells #[.string ⟨#[]⟩] 9)
  exact ⟨rfl, HM.out.below hb, grown_allocs hb⟩
set_option maxRecDepth 100000 in
set_option maxHeartbeats 4000000 in
theorem step8 (h : Mach w0 N w gm A0 c0 l ins ora u vs) (hl : Kd.C k30 w0 A0 l.length l) (hst : l[n]? = some st) (hd : cfg_Def.f st.kind st.x st.y st.z st.op st.n st.a st.b = some (⟨#[]⟩, false)) (hk : st.kind = 8) :
    Calls Try.prog 56 #[.pointer (some ⟨gm, 0, none⟩), .int .i64 n] w fun e w' => e = .returned (.int .i64 (st.a)) ∧ Mach w0 N w' gm A0 c0 l ins ora u vs ∧ w.grownBy w' (some gm) := by
  have HM := Aside0.mk h
  have HD := Aside0.mk hd
  obtain ⟨A1, c1, A2, c2, hm, h1, h2, h3, h4⟩ := h.row
  have hum := Try.underlying73
  have huv := Try.underlying54
  have hut := Try.underlying30
  have hul := Try.underlying22
  have hc : w.cell? ⟨gm, 2, none⟩ = some (.slice A0 l.length c0) := (blk_cell hm 2).trans rfl
  have hnl := (List.getElem?_eq_some_iff.1 hst).1
  have hn0 : (0 : Int) ≤ (n : Int) := by omega
  have hn1 : (n : Int) < (l.length : Int) := by omega
  obtain ⟨ad, e1, x0, x1, x2, x3, x4, x5, x6, x7⟩ := at_Stmt (Kd.C_below hl h.bel) hst
  cases e1
  have hab : (ad.add (n * 8)).block < w.heap.size := World.block_lt_of_cell? _ _ x0
  have hgm : gm < w.heap.size := World.block_lt_of_cell? _ _ hc
  clear h hm h1 h2 h3 h4 hl hst hd
  go_enter Try.func56, Try.ntmps56
  rw [hk] at HD
  go_wp2_with (go_at_call 20; go_must (refine (cfg_Def.calls 8 st.x st.y st.z st.op st.n st.a st.b _ _ _ HD.out).mono ?_); rintro e w1 ⟨rfl, hB⟩; have b5 := blk_below (blk_new w _) hB; have hs5 := blk_lt b5; have p0 := (blk_cell b5 0).trans rfl; have p2 := (blk_cell b5 2).trans rfl; have p6 := (blk_cell b5 6).trans rfl; have p7 := (blk_cell b5 7).trans rfl)
  go_ret
  have hb := below_alloc (Below.then (below_alloc (Below.refl w.heap.size w) _) hB) (.cells #[.string ⟨#[]⟩] 9)
  exact ⟨rfl, HM.out.below hb, grown_allocs hb⟩
set_option maxRecDepth 100000 in
set_option maxHeartbeats 4000000 in
theorem step9 (h : Mach w0 N w gm A0 c0 l ins ora u vs) (hl : Kd.C k30 w0 A0 l.length l) (hst : l[n]? = some st) (hd : cfg_Def.f st.kind st.x st.y st.z st.op st.n st.a st.b = some (⟨#[]⟩, false)) (hk : st.kind = 9) :
    Calls Try.prog 56 #[.pointer (some ⟨gm, 0, none⟩), .int .i64 n] w fun e w' => e = .returned (.int .i64 (-1)) ∧ Mach w0 N w' gm A0 c0 l ins ora u vs ∧ w.grownBy w' (some gm) := by
  have HM := Aside0.mk h
  have HD := Aside0.mk hd
  obtain ⟨A1, c1, A2, c2, hm, h1, h2, h3, h4⟩ := h.row
  have hum := Try.underlying73
  have huv := Try.underlying54
  have hut := Try.underlying30
  have hul := Try.underlying22
  have hc : w.cell? ⟨gm, 2, none⟩ = some (.slice A0 l.length c0) := (blk_cell hm 2).trans rfl
  have hnl := (List.getElem?_eq_some_iff.1 hst).1
  have hn0 : (0 : Int) ≤ (n : Int) := by omega
  have hn1 : (n : Int) < (l.length : Int) := by omega
  obtain ⟨ad, e1, x0, x1, x2, x3, x4, x5, x6, x7⟩ := at_Stmt (Kd.C_below hl h.bel) hst
  cases e1
  have hab : (ad.add (n * 8)).block < w.heap.size := World.block_lt_of_cell? _ _ x0
  have hgm : gm < w.heap.size := World.block_lt_of_cell? _ _ hc
  clear h hm h1 h2 h3 h4 hl hst hd
  go_enter Try.func56, Try.ntmps56
  rw [hk] at HD
  go_wp2_with (go_at_call 20; go_must (refine (cfg_Def.calls 9 st.x st.y st.z st.op st.n st.a st.b _ _ _ HD.out).mono ?_); rintro e w1 ⟨rfl, hB⟩; have b5 := blk_below (blk_new w _) hB; have hs5 := blk_lt b5; have p0 := (blk_cell b5 0).trans rfl; have p2 := (blk_cell b5 2).trans rfl; have p6 := (blk_cell b5 6).trans rfl; have p7 := (blk_cell b5 7).trans rfl)
  go_ret
  have hb := below_alloc (Below.then (below_alloc (Below.refl w.heap.size w) _) hB) (.cells #[.string ⟨#[]⟩] 9)
  exact ⟨rfl, HM.out.below hb, grown_allocs hb⟩
end
end Go.Proofs.Ytnepgcbgkhikkaa.H
/- a machine's step at a branch -/
namespace Go.Proofs.Ytnepgcbgkhikkaa.H
open Go.RowKit Go.Proofs.YtnepgcbgkhikkaaW.PrintWords Go.Proofs.YtnepgcbgkhikkaaW.PrintLast Go.Proofs.YtnepgcbgkhikkaaW.PrintMore
set_option linter.unusedVariables false
/-- the statement's own block, as it stands beside the machine's -/
def StB (st : Stmt) (b : Nat) (w : World) : Prop := w.heap[b]? = some (.cells #[.int .i64 st.kind, .string st.x, .string st.y, .string st.z, .string st.op, .int .i64 st.n, .int .i64 st.a, .int .i64 st.b] 30 (0, 0))
theorem StB.below {st : Stmt} {b : Nat} {w w' : World} (h : StB st b w) (hb : Below w.heap.size w w') : StB st b w' := blk_below h hb
theorem StB.grown {st : Stmt} {b gm : Nat} {w w' : World} (h : StB st b w) (hg : w.grownBy w' (some gm)) (hn : gm ≠ b) : StB st b w' := (hg.block b (blk_lt h) (fun e => hn (Option.some.inj e).symm)).trans h
abbrev SeesB (st : Stmt) (b : Nat) (w : World) : Prop := StB st b w ∧ w.cell? ⟨b, 2, none⟩ = some (.string st.y)
theorem StB.sees {st : Stmt} {b : Nat} {w : World} (h : StB st b w) : SeesB st b w := ⟨h, (blk_cell h 2).trans rfl⟩
section
variable (w0 : World) (N : Nat) (w : World) (gm : Nat) (A0 : Option Addr) (c0 : Nat) (l : List Stmt) (ins : List Int) (ora : List Bool) (u : Value) (vs : List Var) (n : Nat) (st : Stmt)
set_option maxRecDepth 100000 in
set_option maxHeartbeats 4000000 in
theorem step7a (h : Mach w0 N w gm A0 c0 l ins ora u vs) (hl : Kd.C k30 w0 A0 l.length l) (hst : l[n]? = some st) (hd : cfg_Def.f st.kind st.x st.y st.z st.op st.n st.a st.b = some (⟨#[]⟩, false)) (hk : st.kind = 7) (hy : st.y ∈ vs.map Var.name) (hq : ora.headD ((getV vs st.y).n != 0) = true) :
    Calls Try.prog 56 #[.pointer (some ⟨gm, 0, none⟩), .int .i64 n] w fun e w' => e = .returned (.int .i64 (st.a)) ∧ Mach w0 N w' gm A0 c0 l ins ora.tail u vs ∧ w.grownBy w' (some gm) := by
  have HM := Aside0.mk h
  have HD := Aside0.mk hd
  obtain ⟨A1, c1, A2, c2, hm, h1, h2, h3, h4⟩ := h.row
  have hum := Try.underlying73
  have huv := Try.underlying54
  have hut := Try.underlying30
  have hul := Try.underlying22
  have hc : w.cell? ⟨gm, 2, none⟩ = some (.slice A0 l.length c0) := (blk_cell hm 2).trans rfl
  have hnl := (List.getElem?_eq_some_iff.1 hst).1
  have hn0 : (0 : Int) ≤ (n : Int) := by omega
  have hn1 : (n : Int) < (l.length : Int) := by omega
  obtain ⟨ad, e1, x0, x1, x2, x3, x4, x5, x6, x7⟩ := at_Stmt (Kd.C_below hl h.bel) hst
  cases e1
  have hab : (ad.add (n * 8)).block < w.heap.size := World.block_lt_of_cell? _ _ x0
  have hgm : gm < w.heap.size := World.block_lt_of_cell? _ _ hc
  clear h hm h1 h2 h3 h4 hl hst hd
  go_enter Try.func56, Try.ntmps56
  rw [hk] at HD
  have HQ := Aside0.mk hq
  clear hq
  have qf1 : ∀ (W : World) (a b c d : Value), (Instr.field 54 (.agg #[a, b, c, d]) 1).run Try.prog W = .ok b W := fun _ _ _ _ _ => rfl
  go_wp2_with (go_at_call 20; go_must (refine (cfg_Def.calls 7 st.x st.y st.z st.op st.n st.a st.b _ _ _ HD.out).mono ?_); rintro e w1 ⟨rfl, hB⟩; have b5 := blk_below (blk_new w _) hB; have hs5 := blk_lt b5; have p0 := (blk_cell b5 0).trans rfl; have p2 := (blk_cell b5 2).trans rfl; have p6 := (blk_cell b5 6).trans rfl; have p7 := (blk_cell b5 7).trans rfl)
  have hb := below_alloc (Below.then (below_alloc (Below.refl w.heap.size w) _) hB) (.cells #[.string ⟨#[]⟩] 9)
  have HMr := Aside0.mk (HM.out.below hb)
  have HSr : Aside0 (StB st w.heap.size (w1.alloc (.cells #[.string ⟨#[]⟩] 9))) := ⟨blk_alloc (by rw [hk]; exact b5) _⟩
  have hgb : gm ≠ w.heap.size := by omega
  go_region_held3 (fun w' => SeesB st w.heap.size w') (first | exact (StB.below HSr.out (below_drew (Below.refl _ _))).sees | exact (StB.below (And.left (by assumption)) (by assumption)).sees | exact (StB.grown (And.left (by assumption)) (by assumption) hgb).sees) ((first | (go_at_call 74; go_must (refine (of_named w0 N _ gm _ c0 l ins ora u vs (HMr.out.below (below_drew (Below.refl _ _))) st.y hy).mono ?_); rintro e w2 ⟨rfl, hB2⟩; have HM2 := Aside0.mk ((HMr.out.below (below_drew (Below.refl _ _))).below hB2)) | (go_at_call 73; go_must (refine (answer_calls w0 N _ gm _ c0 l ins ora u vs _ HM2.out).mono ?_); rintro e w3 ⟨rfl, hM3, hg3⟩; rw [HQ.out])))
  have hS3 : StB st w.heap.size w3 := And.left (by assumption)
  have q6 := (blk_cell hS3 6).trans rfl
  have q7 := (blk_cell hS3 7).trans rfl
  go_wp2
  go_ret
  exact ⟨rfl, hM3, grown_trans (grown_allocs (Below.then (Below.then hb (below_drew (Below.refl _ _))) hB2)) hg3⟩
set_option maxRecDepth 100000 in
set_option maxHeartbeats 4000000 in
theorem step7b (h : Mach w0 N w gm A0 c0 l ins ora u vs) (hl : Kd.C k30 w0 A0 l.length l) (hst : l[n]? = some st) (hd : cfg_Def.f st.kind st.x st.y st.z st.op st.n st.a st.b = some (⟨#[]⟩, false)) (hk : st.kind = 7) (hy : st.y ∈ vs.map Var.name) (hq : ora.headD ((getV vs st.y).n != 0) = false) :
    Calls Try.prog 56 #[.pointer (some ⟨gm, 0, none⟩), .int .i64 n] w fun e w' => e = .returned (.int .i64 (st.b)) ∧ Mach w0 N w' gm A0 c0 l ins ora.tail u vs ∧ w.grownBy w' (some gm) := by
  have HM := Aside0.mk h
  have HD := Aside0.mk hd
  obtain ⟨A1, c1, A2, c2, hm, h1, h2, h3, h4⟩ := h.row
  have hum := Try.underlying73
  have huv := Try.underlying54
  have hut := Try.underlying30
  have hul := Try.underlying22
  have hc : w.cell? ⟨gm, 2, none⟩ = some (.slice A0 l.length c0) := (blk_cell hm 2).trans rfl
  have hnl := (List.getElem?_eq_some_iff.1 hst).1
  have hn0 : (0 : Int) ≤ (n : Int) := by omega
  have hn1 : (n : Int) < (l.length : Int) := by omega
  obtain ⟨ad, e1, x0, x1, x2, x3, x4, x5, x6, x7⟩ := at_Stmt (Kd.C_below hl h.bel) hst
  cases e1
  have hab : (ad.add (n * 8)).block < w.heap.size := World.block_lt_of_cell? _ _ x0
  have hgm : gm < w.heap.size := World.block_lt_of_cell? _ _ hc
  clear h hm h1 h2 h3 h4 hl hst hd
  go_enter Try.func56, Try.ntmps56
  rw [hk] at HD
  have HQ := Aside0.mk hq
  clear hq
  have qf1 : ∀ (W : World) (a b c d : Value), (Instr.field 54 (.agg #[a, b, c, d]) 1).run Try.prog W = .ok b W := fun _ _ _ _ _ => rfl
  go_wp2_with (go_at_call 20; go_must (refine (cfg_Def.calls 7 st.x st.y st.z st.op st.n st.a st.b _ _ _ HD.out).mono ?_); rintro e w1 ⟨rfl, hB⟩; have b5 := blk_below (blk_new w _) hB; have hs5 := blk_lt b5; have p0 := (blk_cell b5 0).trans rfl; have p2 := (blk_cell b5 2).trans rfl; have p6 := (blk_cell b5 6).trans rfl; have p7 := (blk_cell b5 7).trans rfl)
  have hb := below_alloc (Below.then (below_alloc (Below.refl w.heap.size w) _) hB) (.cells #[.string ⟨#[]⟩] 9)
  have HMr := Aside0.mk (HM.out.below hb)
  have HSr : Aside0 (StB st w.heap.size (w1.alloc (.cells #[.string ⟨#[]⟩] 9))) := ⟨blk_alloc (by rw [hk]; exact b5) _⟩
  have hgb : gm ≠ w.heap.size := by omega
  go_region_held3 (fun w' => SeesB st w.heap.size w') (first | exact (StB.below HSr.out (below_drew (Below.refl _ _))).sees | exact (StB.below (And.left (by assumption)) (by assumption)).sees | exact (StB.grown (And.left (by assumption)) (by assumption) hgb).sees) ((first | (go_at_call 74; go_must (refine (of_named w0 N _ gm _ c0 l ins ora u vs (HMr.out.below (below_drew (Below.refl _ _))) st.y hy).mono ?_); rintro e w2 ⟨rfl, hB2⟩; have HM2 := Aside0.mk ((HMr.out.below (below_drew (Below.refl _ _))).below hB2)) | (go_at_call 73; go_must (refine (answer_calls w0 N _ gm _ c0 l ins ora u vs _ HM2.out).mono ?_); rintro e w3 ⟨rfl, hM3, hg3⟩; rw [HQ.out])))
  have hS3 : StB st w.heap.size w3 := And.left (by assumption)
  have q6 := (blk_cell hS3 6).trans rfl
  have q7 := (blk_cell hS3 7).trans rfl
  go_wp2
  go_ret
  exact ⟨rfl, hM3, grown_trans (grown_allocs (Below.then (Below.then hb (below_drew (Below.refl _ _))) hB2)) hg3⟩
end
end Go.Proofs.Ytnepgcbgkhikkaa.H
/- a machine's step at a statement that defines a name -/
namespace Go.Proofs.Ytnepgcbgkhikkaa.H
open Go.RowKit Go.Proofs.YtnepgcbgkhikkaaW.PrintWords Go.Proofs.YtnepgcbgkhikkaaW.PrintLast Go.Proofs.YtnepgcbgkhikkaaW.PrintMore
set_option linter.unusedVariables false
theorem R_own {w : World} {base : Nat} {ok : Nat → Prop} {u : Value} {vs : List Var} (h : Kd.R k54 54 w base ok u vs) (hn : 0 < vs.length) : ∃ g c, u = .slice (some ⟨g, 0, none⟩) vs.length c ∧ ok g ∧ base ≤ g ∧ ∃ cur, w.heap[g]? = some (.cells cur 54 (0, 0)) := by
  obtain ⟨A, c, rfl⟩ := Kd.R_slice h
  obtain ⟨hok, inner, ⟨hlen, ho⟩, hr⟩ := h
  rcases ho with ⟨he, h0⟩ | ⟨g, cap, cur, he, hb, hh, hnc, hcm, hcs, htk⟩
  · exfalso
    injection he with e1 e2 e3
    omega
  · injection he with e1 e2 e3
    subst e1
    exact ⟨g, c, rfl, hok g rfl, hb, cur, hh⟩
structure HeldV (gm b5 b8 gu : Nat) (cm : Array Value) (st : Stmt) (v : Var) (w' : World) : Prop where
  m : w'.heap[gm]? = some (.cells cm 73 (0, 0))
  s : StB st b5 w'
  b : w'.heap[b8]? = some (.cells #[.string v.name, .int .i64 v.n, .int .i64 v.last, .bool v.taint] 54 (0, 0))
  n1 : gm ≠ gu
  n2 : b5 ≠ gu
  n3 : b8 ≠ gu
theorem HeldV.put {gm b5 b8 gu : Nat} {cm : Array Value} {st : Stmt} {v : Var} {w : World} (h : HeldV gm b5 b8 gu cm st v w) (j : Nat) (x : Value) : HeldV gm b5 b8 gu cm st v (w.setCell ⟨gu, j, none⟩ x) :=
  ⟨(Below.heap_setCell w ⟨gu, j, none⟩ x gm h.n1).trans h.m, (Below.heap_setCell w ⟨gu, j, none⟩ x b5 h.n2).trans h.s, (Below.heap_setCell w ⟨gu, j, none⟩ x b8 h.n3).trans h.b, h.n1, h.n2, h.n3⟩
theorem HeldV.below {gm b5 b8 gu : Nat} {cm : Array Value} {st : Stmt} {v : Var} {w w' : World} (h : HeldV gm b5 b8 gu cm st v w) (hb : Below w.heap.size w w') : HeldV gm b5 b8 gu cm st v w' :=
  ⟨blk_below h.m hb, h.s.below hb, blk_below h.b hb, h.n1, h.n2, h.n3⟩
abbrev SeesV (gm b5 b8 gu : Nat) (cm : Array Value) (st : Stmt) (v : Var) (u : Value) (w' : World) : Prop :=
  HeldV gm b5 b8 gu cm st v w' ∧ w'.cell? ⟨gm, 3, none⟩ = some u ∧ w'.cell? ⟨b8, 0, none⟩ = some (.string v.name) ∧ w'.cell? ⟨b8, 1, none⟩ = some (.int .i64 v.n) ∧ w'.cell? ⟨b8, 2, none⟩ = some (.int .i64 v.last) ∧ w'.cell? ⟨b8, 3, none⟩ = some (.bool v.taint)
theorem HeldV.sees {gm b5 b8 gu : Nat} {x0 x1 x2 u : Value} {st : Stmt} {v : Var} {w : World} (h : HeldV gm b5 b8 gu #[x0, x1, x2, u] st v w) : SeesV gm b5 b8 gu #[x0, x1, x2, u] st v u w :=
  ⟨h, (blk_cell h.m 3).trans rfl, (blk_cell h.b 0).trans rfl, (blk_cell h.b 1).trans rfl, (blk_cell h.b 2).trans rfl, (blk_cell h.b 3).trans rfl⟩
theorem Mach.store {w0 : World} {N : Nat} {w : World} {gm : Nat} {A0 : Option Addr} {c0 : Nat} {l : List Stmt} {ins : List Int} {ora : List Bool} {gu cu : Nat} {vs : List Var} (h : Mach w0 N w gm A0 c0 l ins ora (.slice (some ⟨gu, 0, none⟩) vs.length cu) vs) {k : Nat} (hk : k < vs.length) (v : Var) :
    Mach w0 N (w.setCells gu (k * 4) (cVar v)) gm A0 c0 l ins ora (.slice (some ⟨gu, 0, none⟩) vs.length cu) (vs.set k v) ∧ w.grownBy (w.setCells gu (k * 4) (cVar v)) (some gu) := by
  obtain ⟨g, c, e, hok, hbas, cur, hcur⟩ := R_own h.vars (by omega)
  injection e with e1 e2 e3
  injection e1 with e1
  injection e1 with e1
  subst e1
  obtain ⟨h1, hg⟩ := flatVar.put h.vars hk v
  obtain ⟨A1, c1, A2, c2, hm, r1, r2, r3, r4⟩ := h.row
  refine ⟨⟨pw_below_grown h.bel _ h.bel.size hg (fun i hi => by cases hi; exact hbas), h.gml, h.gmN, Nat.le_trans h.N_w hg.size, ⟨A1, c1, A2, c2, ?_, r1, r2, r3, r4⟩, h1⟩, hg⟩
  exact (hg.block gm (blk_lt hm) (fun e => hok.1 (Option.some.inj e).symm)).trans hm
section
variable (w0 : World) (N : Nat) (w : World) (gm : Nat) (A0 : Option Addr) (c0 : Nat) (l : List Stmt) (ins : List Int) (ora : List Bool) (u : Value) (vs : List Var) (n : Nat) (st : Stmt)
set_option maxRecDepth 100000 in
set_option maxHeartbeats 4000000 in
theorem stepD (h : Mach w0 N w gm A0 c0 l ins ora u vs) (hl : Kd.C k30 w0 A0 l.length l) (hst : l[n]? = some st) (hd : cfg_Def.f st.kind st.x st.y st.z st.op st.n st.a st.b = some (st.x, true)) (k7 : ¬ st.kind = 7) (k8 : ¬ st.kind = 8) (k9 : ¬ st.kind = 9) (v : Var) (ins' : List Int) (hmade : ∀ W, Mach w0 N W gm A0 c0 l ins ora u vs → Calls Try.prog 70 #[.pointer (some ⟨gm, 0, none⟩), .int .i64 n] W fun e w' => e = .returned (.agg #[.string v.name, .int .i64 v.n, .int .i64 v.last, .bool v.taint]) ∧ Mach w0 N w' gm A0 c0 l ins' ora u vs ∧ W.grownBy w' (some gm)) (k : Nat) (y : Var) (hx : atV vs st.x = (k : Int)) (hy : vs[k]? = some y) :
    Calls Try.prog 56 #[.pointer (some ⟨gm, 0, none⟩), .int .i64 n] w fun e w' => e = .returned (.int .i64 (wrap64 (n + 1))) ∧ Mach w0 N w' gm A0 c0 l ins' ora u (vs.set k v) ∧ Kept w w' (fun i => w0.heap.size ≤ i ∧ i < N) := by
  have HM := Aside0.mk h
  have HD := Aside0.mk hd
  obtain ⟨A1, c1, A2, c2, hm, h1, h2, h3, h4⟩ := h.row
  have hum := Try.underlying73
  have huv := Try.underlying54
  have hut := Try.underlying30
  have hul := Try.underlying22
  have hc : w.cell? ⟨gm, 2, none⟩ = some (.slice A0 l.length c0) := (blk_cell hm 2).trans rfl
  have hnl := (List.getElem?_eq_some_iff.1 hst).1
  have hn0 : (0 : Int) ≤ (n : Int) := by omega
  have hn1 : (n : Int) < (l.length : Int) := by omega
  obtain ⟨ad, e1, x0, x1, x2, x3, x4, x5, x6, x7⟩ := at_Stmt (Kd.C_below hl h.bel) hst
  cases e1
  have hab : (ad.add (n * 8)).block < w.heap.size := World.block_lt_of_cell? _ _ x0
  have hgm : gm < w.heap.size := World.block_lt_of_cell? _ _ hc
  clear h hm h1 h2 h3 h4 hl hst hd
  go_enter Try.func56, Try.ntmps56
  have j7 : (st.kind == 7) = false := beq_eq_false_iff_ne.2 k7
  have j8 : (st.kind == 8) = false := beq_eq_false_iff_ne.2 k8
  have j9 : (st.kind == 9) = false := beq_eq_false_iff_ne.2 k9
  have hkl : k < vs.length := (List.getElem?_eq_some_iff.1 hy).1
  have hk0 : (0 : Int) ≤ (k : Int) := by omega
  have hk1 : (k : Int) < (vs.length : Int) := by omega
  obtain ⟨gu, cu, rfl, hgu, hgb, -⟩ := R_own HM.out.vars (by omega)
  have hNw := HM.out.N_w
  have hgl := HM.out.gml
  have hul2 := Try.underlying50
  have HX := Aside0.mk hx
  clear hx
  have eg := enters_of Try.func72 (by kernel_rfl) rfl
  go_wp2_with (first
    | (go_at_call 20; go_must (refine (cfg_Def.calls st.kind st.x st.y st.z st.op st.n st.a st.b _ _ _ HD.out).mono ?_); rintro e w1 ⟨rfl, hB⟩; have b5 := blk_below (blk_new w _) hB; have hs5 := blk_lt b5; have p0 := (blk_cell b5 0).trans rfl; have hb := below_alloc (Below.then (below_alloc (Below.refl w.heap.size w) _) hB) (.cells #[.string st.x] 9); have HMr := Aside0.mk (HM.out.below hb); have B6 := Aside0.mk (blk_new w1 (.cells #[.string st.x] 9)))
    | (go_at_call 70; go_must (refine (hmade _ HMr.out).mono ?_); rintro e w2 ⟨rfl, hM2, hg2⟩; have HM2 := Aside0.mk hM2; have hb5 := StB.grown (st := st) (blk_alloc b5 (.cells #[.string st.x] 9)) hg2 (by omega); have hb6 := (hg2.block w1.heap.size (blk_lt B6.out) (fun e => (by have := Option.some.inj e; omega))).trans B6.out; have hs6 := blk_lt hb6; obtain ⟨A1', c1', A2', c2', hm', -, -, -, -⟩ := hM2.row; have hc3 := (blk_cell hm' 3).trans rfl; have hs2 := blk_lt hm'; have HC := Aside0.mk (Kd.R_reads' hM2.vars).2.2)
    | (go_at_call 71; go_must (refine (IndexFuncVar 72 #[.pointer (some ⟨w1.heap.size, 0, none⟩)] eg (fun p => decide (p.name = st.x)) _ _ _ _ (Kd.C_alloc HC.out _) (stV1 _ _ _ _ ((blk_cell (blk_alloc hb6 _) 0).trans rfl))).mono ?_); rintro e w3 ⟨rfl, hB3⟩; rw [show idxP (fun p : Var => decide (p.name = st.x)) vs 0 = (k : Int) from HX.out]))
  have hsz : w.heap.size + 1 + 1 ≤ w2.heap.size := by omega
  have hb8 := blk_below (blk_new w2 (.cells #[.string v.name, .int .i64 v.n, .int .i64 v.last, .bool v.taint] 54)) hB3
  have HM3 := Aside0.mk ((HM2.out.below (below_alloc (Below.refl _ _) (.cells #[.string v.name, .int .i64 v.n, .int .i64 v.last, .bool v.taint] 54))).below hB3)
  have HV : Aside0 (HeldV gm w.heap.size w2.heap.size gu #[.slice A1' ins'.length c1', .slice A2' ora.length c2', .slice (some ad) l.length c0, .slice (some ⟨gu, 0, none⟩) vs.length cu] st v w3) :=
    ⟨⟨blk_below (blk_alloc hm' _) hB3, StB.below (StB.below hb5 (below_alloc (Below.refl _ _) _)) hB3, hb8, fun e => hgu.1 e.symm, by have := hgu.2; omega, by have := hgu.2; omega⟩⟩
  obtain ⟨ad3, e3, y0, y1, y2, y3⟩ := at_Var (Kd.R_reads' HM3.out.vars).2.2 hy
  cases e3
  obtain ⟨curv, hcurv⟩ := R_blk HM3.out.vars
  have fz : ∀ o, w3.frozen? ⟨gu, o, none⟩ = false := fun o => blk_frozen hcurv o
  have ea : (⟨gu, 0, none⟩ : Addr).add (k * 4) = ⟨gu, k * 4, none⟩ := by
    simp only [Addr.add]
    split
    · rename_i h0; rw [h0]
    · simp
  rw [ea] at y0 y1 y2 y3
  dsimp only at y0 y1 y2 y3
  go_region_held3 (fun w' => SeesV gm w.heap.size w2.heap.size gu #[.slice A1' ins'.length c1', .slice A2' ora.length c2', .slice (some ad) l.length c0, .slice (some ⟨gu, 0, none⟩) vs.length cu] st v (.slice (some ⟨gu, 0, none⟩) vs.length cu) w') (first | exact (HeldV.below HV.out (below_drew (Below.refl _ _))).sees | exact (HeldV.put (HeldV.put (HeldV.put (HeldV.put (HeldV.below HV.out (below_drew (Below.refl _ _))) _ _) _ _) _ _) _ _).sees) (fail)
  obtain ⟨hMf, hgf⟩ := HM3.out.store hkl v
  have eW : w3.setCells gu (k * 4) (cVar v) = (((w3.setCell ⟨gu, k * 4, none⟩ (.string v.name)).setCell ⟨gu, k * 4 + 1, none⟩ (.int .i64 v.n)).setCell ⟨gu, k * 4 + 2, none⟩ (.int .i64 v.last)).setCell ⟨gu, k * 4 + 3, none⟩ (.bool v.taint) := rfl
  have hV4 := HeldV.put (HeldV.put (HeldV.put (HeldV.put HV.out (k * 4) (.string v.name)) (k * 4 + 1) (.int .i64 v.n)) (k * 4 + 2) (.int .i64 v.last)) (k * 4 + 3) (.bool v.taint)
  have q0 := (blk_cell hV4.s 0).trans rfl
  rw [eW] at hMf hgf
  have K1 : Kept w w2 (fun i => w0.heap.size ≤ i ∧ i < N) := Kept.of_grown hg2 (Kept.of_below hb _) (fun i hi => .inl (by cases hi; exact ⟨HM.out.gml, HM.out.gmN⟩))
  have K2 : Kept w w3 (fun i => w0.heap.size ≤ i ∧ i < N) := (K1.below (below_alloc (Below.refl _ _) _)).below hB3
  have K3 := Kept.of_grown hgf K2 (fun i hi => .inl (by cases hi; exact ⟨hgb, hgu.2⟩))
  have HF := Aside0.mk hMf
  have HK := Aside0.mk K3
  clear hMf hgf K1 K2 K3 eW
  go_wp2
  go_ret
  exact ⟨rfl, HF.out.below (below_drew (Below.refl _ _)), HK.out.drew⟩
end
end Go.Proofs.Ytnepgcbgkhikkaa.H
/- a machine's step, of any statement of the flow whose names the machine knows -/
namespace Go.Proofs.Ytnepgcbgkhikkaa.H
open Go.RowKit Go.Proofs.YtnepgcbgkhikkaaW.PrintWords Go.Proofs.YtnepgcbgkhikkaaW.PrintLast Go.Proofs.YtnepgcbgkhikkaaW.PrintMore
set_option linter.unusedVariables false
def opV (op : ByteArray) (a b : Int) : Int := (interp_operated.f op a b).getD 0
theorem opV_some (op : ByteArray) (a b : Int) : interp_operated.f op a b = some (opV op a b) := by
  have hb : ∀ c : Bool, ∃ x, interp_bit.f c = some x := by intro c; cases c <;> exact ⟨_, rfl⟩
  obtain ⟨x1, h1⟩ := hb (decide (a < b))
  obtain ⟨x2, h2⟩ := hb (a == b)
  have : (interp_operated.f op a b).isSome = true := by
    unfold interp_operated.f
    rw [h1, h2]
    repeat' split
    all_goals rfl
  obtain ⟨x, hx⟩ := Option.isSome_iff_exists.1 this
  unfold opV
  rw [hx]; rfl
def madeV (st : Stmt) (n : Nat) (vs : List Var) (ins : List Int) : Var :=
  if st.kind = 1 then ⟨st.x, st.n, n, false⟩ else if st.kind = 2 then ⟨st.x, opV st.op (getV vs st.y).n (getV vs st.z).n, n, or (getV vs st.y).taint (getV vs st.z).taint⟩
  else if st.kind = 3 then ⟨st.x, (getV vs st.y).n, n, (getV vs st.y).taint⟩ else if st.kind = 4 then ⟨st.x, ins.headD 0, n, true⟩ else ⟨st.x, (getV vs st.y).n, n, false⟩
def stepI (st : Stmt) (ins : List Int) : List Int := if st.kind = 4 then ins.tail else ins
def stepO (st : Stmt) (ora : List Bool) : List Bool := if st.kind = 7 then ora.tail else ora
def stepN (st : Stmt) (n : Nat) (vs : List Var) (ora : List Bool) : Int :=
  if st.kind = 7 then (if ora.headD ((getV vs st.y).n != 0) = true then st.a else st.b) else if st.kind = 8 then st.a else if st.kind = 9 then -1 else wrap64 (n + 1)
def defK (st : Stmt) : Prop := st.kind = 1 ∨ st.kind = 2 ∨ st.kind = 3 ∨ st.kind = 4 ∨ st.kind = 5
instance (st : Stmt) : Decidable (defK st) := by unfold defK; infer_instance
def stepV (st : Stmt) (n : Nat) (vs : List Var) (ins : List Int) : List Var := if defK st then vs.set (atV vs st.x).toNat (madeV st n vs ins) else vs
/-- the names of a statement are known -/
structure KnownBy (st : Stmt) (names : List ByteArray) : Prop where
  x : defK st → st.x ∈ names
  y : st.kind = 2 ∨ st.kind = 3 ∨ st.kind = 5 ∨ st.kind = 6 ∨ st.kind = 7 → st.y ∈ names
  z : st.kind = 2 → st.z ∈ names
section
variable (w0 : World) (N : Nat) (w : World) (gm : Nat) (A0 : Option Addr) (c0 : Nat) (l : List Stmt) (ins : List Int) (ora : List Bool) (u : Value) (vs : List Var) (n : Nat) (st : Stmt)
theorem made_calls (h : Mach w0 N w gm A0 c0 l ins ora u vs) (hl : Kd.C k30 w0 A0 l.length l) (hst : l[n]? = some st) (hk : defK st) (hn : KnownBy st (vs.map Var.name)) :
    Calls Try.prog 70 #[.pointer (some ⟨gm, 0, none⟩), .int .i64 n] w fun e w' => e = .returned (.agg #[.string (madeV st n vs ins).name, .int .i64 (madeV st n vs ins).n, .int .i64 (madeV st n vs ins).last, .bool (madeV st n vs ins).taint]) ∧ Mach w0 N w' gm A0 c0 l (stepI st ins) ora u vs ∧ w.grownBy w' (some gm) := by
  rcases hk with hk | hk | hk | hk | hk
  · have e1 : madeV st n vs ins = ⟨st.x, st.n, n, false⟩ := by simp [madeV, hk]
    have e2 : stepI st ins = ins := by simp [stepI, hk]
    rw [e1, e2]
    exact made1 w0 N w gm A0 c0 l ins ora u vs n st h hl hst hk
  · have e1 : madeV st n vs ins = ⟨st.x, opV st.op (getV vs st.y).n (getV vs st.z).n, n, or (getV vs st.y).taint (getV vs st.z).taint⟩ := by simp [madeV, hk]
    have e2 : stepI st ins = ins := by simp [stepI, hk]
    rw [e1, e2]
    exact made2 w0 N w gm A0 c0 l ins ora u vs n st h hl hst hk (hn.y (by omega)) (hn.z hk) _ (opV_some _ _ _)
  · have e1 : madeV st n vs ins = ⟨st.x, (getV vs st.y).n, n, (getV vs st.y).taint⟩ := by simp [madeV, hk]
    have e2 : stepI st ins = ins := by simp [stepI, hk]
    rw [e1, e2]
    exact made3 w0 N w gm A0 c0 l ins ora u vs n st h hl hst hk (hn.y (by omega))
  · have e1 : madeV st n vs ins = ⟨st.x, ins.headD 0, n, true⟩ := by simp [madeV, hk]
    have e2 : stepI st ins = ins.tail := by simp [stepI, hk]
    rw [e1, e2]
    exact made4 w0 N w gm A0 c0 l ins ora u vs n st h hl hst hk
  · have e1 : madeV st n vs ins = ⟨st.x, (getV vs st.y).n, n, false⟩ := by simp [madeV, hk]
    have e2 : stepI st ins = ins := by simp [stepI, hk]
    rw [e1, e2]
    exact made5 w0 N w gm A0 c0 l ins ora u vs n st h hl hst hk (hn.y (by omega))
theorem Mach.kept {w' : World} {ins' : List Int} {ora' : List Bool} {vs' : List Var} (h : Mach w0 N w gm A0 c0 l ins ora u vs) (hg : w.grownBy w' (some gm)) : Kept w w' (fun i => w0.heap.size ≤ i ∧ i < N) :=
  Kept.of_grown hg (Kept.refl _ _) (fun i hi => .inl (by cases hi; exact ⟨h.gml, h.gmN⟩))
theorem step_calls (h : Mach w0 N w gm A0 c0 l ins ora u vs) (hl : Kd.C k30 w0 A0 l.length l) (hst : l[n]? = some st) (hn : KnownBy st (vs.map Var.name)) :
    Calls Try.prog 56 #[.pointer (some ⟨gm, 0, none⟩), .int .i64 n] w fun e w' => e = .returned (.int .i64 (stepN st n vs ora)) ∧ Mach w0 N w' gm A0 c0 l (stepI st ins) (stepO st ora) u (stepV st n vs ins) ∧ Kept w w' (fun i => w0.heap.size ≤ i ∧ i < N) := by
  by_cases hk : defK st
  · obtain ⟨k, y, h1, h2, h3⟩ := getV_at vs 0 (hn.x hk)
    have ha : atV vs st.x = (k : Int) := by rw [atV, h1, Nat.zero_add]
    have e1 : stepN st n vs ora = wrap64 (n + 1) := by unfold defK at hk; unfold stepN; rw [if_neg (by omega), if_neg (by omega), if_neg (by omega)]
    have e2 : stepO st ora = ora := by unfold defK at hk; unfold stepO; rw [if_neg (by omega)]
    have e3 : stepV st n vs ins = vs.set k (madeV st n vs ins) := by unfold stepV; rw [if_pos hk, ha]; rfl
    rw [e1, e2, e3]
    have hd : cfg_Def.f st.kind st.x st.y st.z st.op st.n st.a st.b = some (st.x, true) := by
      unfold cfg_Def.f
      unfold defK at hk
      repeat' split
      all_goals first | rfl | (exfalso; omega)
    exact stepD w0 N w gm A0 c0 l ins ora u vs n st h hl hst hd (by unfold defK at hk; omega) (by unfold defK at hk; omega) (by unfold defK at hk; omega) _ _ (fun W hW => made_calls w0 N W gm A0 c0 l ins ora u vs n st hW hl hst hk hn) k y ha h2
  · have hd : cfg_Def.f st.kind st.x st.y st.z st.op st.n st.a st.b = some (⟨#[]⟩, false) := by
      unfold cfg_Def.f
      unfold defK at hk
      repeat' split
      all_goals first | rfl | (exfalso; omega)
    have e3 : stepV st n vs ins = vs := by unfold stepV; rw [if_neg hk]
    have e4 : stepI st ins = ins := by unfold defK at hk; unfold stepI; rw [if_neg (by omega)]
    rw [e3, e4]
    have post : ∀ {a : Int} {o : List Bool}, a = stepN st n vs ora → o = stepO st ora → (∀ (e : Ending) (w' : World), e = .returned (.int .i64 a) ∧ Mach w0 N w' gm A0 c0 l ins o u vs ∧ w.grownBy w' (some gm) → e = .returned (.int .i64 (stepN st n vs ora)) ∧ Mach w0 N w' gm A0 c0 l ins (stepO st ora) u vs ∧ Kept w w' (fun i => w0.heap.size ≤ i ∧ i < N)) := by
      rintro a o rfl rfl e w' ⟨h1, h2, h3⟩
      exact ⟨h1, h2, Kept.of_grown h3 (Kept.refl _ _) (fun i hi => .inl (by cases hi; exact ⟨h.gml, h.gmN⟩))⟩
    by_cases k7 : st.kind = 7
    · have e2 : stepO st ora = ora.tail := by unfold stepO; rw [if_pos k7]
      cases hq : ora.headD ((getV vs st.y).n != 0) with
      | true => exact (step7a w0 N w gm A0 c0 l ins ora u vs n st h hl hst hd k7 (hn.y (by omega)) hq).mono (post (by unfold stepN; rw [if_pos k7, if_pos hq]) e2.symm)
      | false => exact (step7b w0 N w gm A0 c0 l ins ora u vs n st h hl hst hd k7 (hn.y (by omega)) hq).mono (post (by unfold stepN; rw [if_pos k7, if_neg (by rw [hq]; decide)]) e2.symm)
    · have e2 : stepO st ora = ora := by unfold stepO; rw [if_neg k7]
      by_cases k8 : st.kind = 8
      · exact (step8 w0 N w gm A0 c0 l ins ora u vs n st h hl hst hd k8).mono (post (by unfold stepN; rw [if_neg k7, if_pos k8]) e2.symm)
      · by_cases k9 : st.kind = 9
        · exact (step9 w0 N w gm A0 c0 l ins ora u vs n st h hl hst hd k9).mono (post (by unfold stepN; rw [if_neg k7, if_neg k8, if_pos k9]) e2.symm)
        · exact (step0 w0 N w gm A0 c0 l ins ora u vs n st h hl hst hd k7 k8 k9).mono (post (by unfold stepN; rw [if_neg k7, if_neg k8, if_neg k9]) e2.symm)
end
end Go.Proofs.Ytnepgcbgkhikkaa.H
namespace Go.Proofs.Ytnepgcbgkhikkaa.H
open Go.RowKit Go.Proofs.YtnepgcbgkhikkaaW.PrintWords Go.Proofs.YtnepgcbgkhikkaaW.PrintLast Go.Proofs.YtnepgcbgkhikkaaW.PrintMore
set_option linter.unusedVariables false
theorem R_emptyV (e : Nat) (w : World) (base : Nat) (hb : base ≤ w.heap.size) : k54.R e (w.alloc (.cells #[] e)) base (fun _ => True) (.slice (some ⟨w.heap.size, 0, none⟩) 0 0) [] :=
  flatVar.row (cur := #[]) ⟨rfl, trivial, hb, blk_new _ _, Nat.le_refl _, by decide, by simp, by simp⟩
set_option maxRecDepth 100000 in
theorem cloneV (A0 : Option Addr) (c0 : Nat) (l0 : List Var) (w : World) (hr0 : Kd.C k54 w A0 l0.length l0) (_ : l0.length ≤ c0) (hz : l0.length * 40 ≤ 140737488355328) :
    Calls Try.prog 55 #[.slice A0 l0.length c0] w fun e w' => ∃ v0_ : Value, e = .returned v0_ ∧ Kd.R k54 54 w' w.heap.size (fun _ => True) v0_ l0 ∧ Below w.heap.size w w' := by
  have HR := Aside0.mk hr0
  clear hr0
  have q1 : ∀ (W : World) (n c : Nat), (binOp .eql 50 (.slice none n c) (.slice none 0 0)).run Try.prog W = .ok (.bool true) W := fun _ _ _ => rfl
  have q2 : ∀ (W : World) (a : Addr) (n c : Nat), (binOp .eql 50 (.slice (some a) n c) (.slice none 0 0)).run Try.prog W = .ok (.bool false) W := fun _ _ _ _ => rfl
  cases A0 with
  | none =>
    have h0 : l0 = [] := by
      rcases Nat.eq_zero_or_pos l0.length with h0 | h0
      · exact List.length_eq_zero_iff.1 h0
      · obtain ⟨ad, e, _⟩ := HR.out.2.2 h0
        cases e
    subst h0
    go_enter Try.func55, Try.ntmps55
    go_wp2
    go_ret
    exact ⟨_, rfl, Kd.R_nil _ _ _ _ _, Below.refl _ _⟩
  | some a =>
    go_enter Try.func55, Try.ntmps55
    have HE := Aside0.mk (R_emptyV 54 w w.heap.size (Nat.le_refl _))
    have HB := Aside0.mk (below_alloc (Below.refl w.heap.size w) (.cells #[] 54))
    go_wp2_with (at_builtin; go_must (refine Kd.R_append_rows k54 (Rr := k54.K (w.alloc (.cells #[] 54))) (w0 := w) w.heap.size rfl (.tmp 5) (.tmp 6) 50 54 _ 40 rfl Try.underlying50 info54 rfl (by decide) (by omega) (.slice (some ⟨w.heap.size, 0, none⟩) 0 0) [] l0 (some a) l0.length c0 (fun _ => True) (fun _ => False) (by go_simp) (by go_simp) HE.out (Kd.C_alloc HR.out _) (fun x cs hk => flatVar.M.2 (flatVar.K.1 hk)) (fun _ h => h.elim) (fun _ _ => trivial) HB.out (by simp) (by simp; omega) ?_); intro v1 w1 hr1 hb1 hg1 hat1; have HR1 := Aside0.mk hr1; have HB1 := Aside0.mk hb1; clear hr1 hb1 hg1 hat1)
    go_ret
    exact ⟨_, rfl, HR1.out, HB1.out⟩
end Go.Proofs.Ytnepgcbgkhikkaa.H
namespace Go.Proofs.Ytnepgcbgkhikkaa.H
open Go.RowKit Go.Proofs.YtnepgcbgkhikkaaW.PrintWords
set_option linter.unusedVariables false
section
variable {α : Type} [Inhabited α] [DecidableEq α]
theorem cut_mem (d : Array α) : ∀ (m : Nat), ∀ x, x ∈ Go.Lib.compactUpTo d m ↔ ∃ j, j < m ∧ d[j]! = x
  | 0, x => by simp [Go.Lib.compactUpTo]
  | m + 1, x => by
    rw [Go.Lib.compactUpTo_succ, List.mem_append, cut_mem d m x]
    constructor
    · rintro (⟨j, h1, h2⟩ | h)
      · exact ⟨j, by omega, h2⟩
      · split at h
        · exact ⟨m, by omega, by simpa using (List.mem_singleton.1 h).symm⟩
        · simp at h
    · rintro ⟨j, h1, h2⟩
      rcases Nat.lt_or_ge j m with h | h
      · exact .inl ⟨j, h, h2⟩
      · obtain rfl : j = m := by omega
        by_cases hk : Go.Lib.keeps d j = true
        · exact .inr (by rw [if_pos hk]; simp [h2])
        · left
          have : 0 < j ∧ d[j]! = d[j - 1]! := by
            unfold Go.Lib.keeps at hk
            simp at hk
            refine ⟨by omega, ?_⟩
            simpa using hk.2
          exact ⟨j - 1, by omega, by rw [← this.2]; exact h2⟩
theorem cut_sorted (lt : α → α → Prop) (le : α → α → Prop) (hle : ∀ a b c, le a b → le b c → le a c) (hlt : ∀ a b, le a b → a ≠ b → lt a b) (hll : ∀ a b c, le a b → lt b c → lt a c) (d : Array α) (hd : ∀ i j, i ≤ j → j < d.size → le d[i]! d[j]!) : ∀ (m : Nat), m ≤ d.size → (Go.Lib.compactUpTo d m).Pairwise lt
  | 0, _ => by simp [Go.Lib.compactUpTo]
  | m + 1, hm => by
    rw [Go.Lib.compactUpTo_succ, List.pairwise_append]
    refine ⟨cut_sorted lt le hle hlt hll d hd m (by omega), by split <;> simp, fun x hx y hy => ?_⟩
    split at hy
    case isFalse => simp at hy
    rename_i hk
    obtain ⟨j, hj, rfl⟩ := (cut_mem d m x).1 hx
    rw [List.mem_singleton.1 hy]
    unfold Go.Lib.keeps at hk
    simp at hk
    have hne : d[m - 1]! ≠ d[m]! := by
      intro e
      rcases hk with h | h
      · omega
      · exact h (by simpa using e.symm)
    exact hll _ _ _ (hd j (m - 1) (by omega) (by omega)) (hlt _ _ (hd (m - 1) m (by omega) (by omega)) hne)
end
def setS (l : List ByteArray) : List ByteArray := compactS (sortS l)
theorem toL_inj {a b : ByteArray} (h : toL a = toL b) : a = b := by rw [← ofL_toL a, ← ofL_toL b, h]
theorem map_toL_setS (l : List ByteArray) : (setS l).map toL = Go.Lib.compact ((l.map toL).mergeSort fun x y => decide (x ≤ y)) := by
  unfold setS compactS sortS
  rw [List.map_map, List.map_map]
  have e1 : ((toL ∘ ofL) : List UInt8 → List UInt8) = id := by funext x; simp [toL_ofL]
  rw [e1, List.map_id, List.map_id]
theorem mem_setS {l : List ByteArray} {x : ByteArray} : x ∈ setS l ↔ x ∈ l := by
  have h1 : x ∈ setS l ↔ toL x ∈ (setS l).map toL := by
    rw [List.mem_map]
    exact ⟨fun h => ⟨x, h, rfl⟩, fun ⟨y, h, e⟩ => toL_inj e ▸ h⟩
  have h2 : x ∈ l ↔ toL x ∈ (l.map toL).mergeSort fun x y => decide (x ≤ y) := by
    rw [List.mem_mergeSort, List.mem_map]
    exact ⟨fun h => ⟨x, h, rfl⟩, fun ⟨y, h, e⟩ => toL_inj e ▸ h⟩
  rw [h1, h2, map_toL_setS]
  unfold Go.Lib.compact
  generalize ((l.map toL).mergeSort fun x y => decide (x ≤ y)) = s
  rw [cut_mem, List.mem_iff_getElem]
  constructor
  · rintro ⟨j, hj, e⟩
    exact ⟨j, hj, by simpa [hj] using e⟩
  · rintro ⟨j, hj, e⟩
    exact ⟨j, hj, by simpa [hj] using e⟩
theorem setS_sorted (l : List ByteArray) : ((setS l).map toL).Pairwise (· < ·) := by
  rw [map_toL_setS]
  have hs := List.pairwise_mergeSort (le := fun x y : List UInt8 => decide (x ≤ y)) (by intro a b c; simp; exact fun h1 h2 => List.le_trans h1 h2) (by intro a b; simp; exact List.le_total a b) (l.map toL)
  unfold Go.Lib.compact
  revert hs
  generalize ((l.map toL).mergeSort fun x y => decide (x ≤ y)) = s
  intro hs
  refine cut_sorted (· < ·) (· ≤ ·) (fun a b c => List.le_trans) (fun a b h hne => ?_) (fun a b c => List.lt_of_le_of_lt) s.toArray (fun i j hij hj => ?_) s.length (by simp)
  · rcases List.le_iff_lt_or_eq.1 h with h | h
    · exact h
    · exact absurd h hne
  · simp at hj
    rcases Nat.lt_or_ge i j with h | h
    · have := List.pairwise_iff_getElem.1 hs i j (by omega) hj h
      simpa [hj, show i < s.length by omega] using this
    · obtain rfl : i = j := by omega
      exact List.le_refl _
theorem setS_ext {l l' : List ByteArray} (h : ∀ x, x ∈ l ↔ x ∈ l') : setS l = setS l' := by
  have e : (setS l).map toL = (setS l').map toL := by
    have n1 : ((setS l).map toL).Nodup := List.Pairwise.imp (R := (· < ·)) (fun {a b} h => by rintro rfl; exact List.lt_irrefl a h) (setS_sorted l)
    have n2 : ((setS l').map toL).Nodup := List.Pairwise.imp (R := (· < ·)) (fun {a b} h => by rintro rfl; exact List.lt_irrefl a h) (setS_sorted l')
    refine List.Perm.eq_of_pairwise (le := (· < ·)) ?_ (setS_sorted l) (setS_sorted l') ((List.perm_ext_iff_of_nodup n1 n2).2 fun x => ?_)
    · intro a b _ _ h1 h2
      exact absurd (List.lt_trans h1 h2) (List.lt_irrefl a)
    · rw [List.mem_map, List.mem_map]
      constructor
      · rintro ⟨y, hy, rfl⟩; exact ⟨y, mem_setS.2 ((h y).1 (mem_setS.1 hy)), rfl⟩
      · rintro ⟨y, hy, rfl⟩; exact ⟨y, mem_setS.2 ((h y).2 (mem_setS.1 hy)), rfl⟩
  have := congrArg (List.map ofL) e
  rw [List.map_map, List.map_map] at this
  have e2 : (ofL ∘ toL) = (id : ByteArray → ByteArray) := by funext x; simp [ofL_toL]
  simpa [e2] using this
theorem setS_len (l : List ByteArray) : (setS l).length ≤ l.length := by
  have := compactS_len (sortS l)
  rw [sortS_len] at this
  exact this
end Go.Proofs.Ytnepgcbgkhikkaa.H
namespace Go.Proofs.Ytnepgcbgkhikkaa.H
open Go.RowKit Go.Proofs.YtnepgcbgkhikkaaW.PrintWords Go.Proofs.YtnepgcbgkhikkaaW.PrintLast Go.Proofs.YtnepgcbgkhikkaaW.PrintMore
attribute [local go_sem] max2_int min2_int max_two min_two max_three min_three max_four min_four
set_option linter.unusedVariables false
set_option linter.unusedSimpArgs false
def cfg_Names.l0 : Nat → List ByteArray → List (Stmt) → Int → Int → Option (List ByteArray)
 | 0, _, _, _, _ => none
 | k + 1, x3, x8, x9, x10 => if x10 < x9 then (if 0 ≤ x10 then (if x10 < (x8.length : Int) then ((cfg_Def.f ((rd_T30 x8 x10).kind) ((rd_T30 x8 x10).x) ((rd_T30 x8 x10).y) ((rd_T30 x8 x10).z) ((rd_T30 x8 x10).op) ((rd_T30 x8 x10).n) ((rd_T30 x8 x10).a) ((rd_T30 x8 x10).b)).bind fun bt106 => (if bt106.2 = true then (if x3.length < 8796093022208 then ((some (x3 ++ [bt106.1] : List ByteArray)).bind fun y108 => ((cfg_Uses.f ((rd_T30 x8 x10).kind) ((rd_T30 x8 x10).x) ((rd_T30 x8 x10).y) ((rd_T30 x8 x10).z) ((rd_T30 x8 x10).op) ((rd_T30 x8 x10).n) ((rd_T30 x8 x10).a) ((rd_T30 x8 x10).b)).bind fun t111 => (if y108.length + t111.length < 8796093022208 then (cfg_Names.l0 k (y108 ++ t111) x8 x9 (wrap64 (x10 + 1))) else (none)))) else (none)) else ((cfg_Uses.f ((rd_T30 x8 x10).kind) ((rd_T30 x8 x10).x) ((rd_T30 x8 x10).y) ((rd_T30 x8 x10).z) ((rd_T30 x8 x10).op) ((rd_T30 x8 x10).n) ((rd_T30 x8 x10).a) ((rd_T30 x8 x10).b)).bind fun t117 => (if x3.length + t117.length < 8796093022208 then (cfg_Names.l0 k (x3 ++ t117) x8 x9 (wrap64 (x10 + 1))) else (none))))) else (none)) else (none)) else ((cfg_sorted_string.f x3).bind fun t101 => (some t101))
def cfg_Names.f (k : Nat) (l0 : List (Stmt)) : Option (List ByteArray) := cfg_Names.l0 k ([] : List ByteArray) l0 (l0.length : Int) 0
theorem cfg_Names.mono_l : ∀ k, (∀ y0 y1 y2 y3, LeO (cfg_Names.l0 k y0 y1 y2 y3) (cfg_Names.l0 (k + 1) y0 y1 y2 y3))
 | 0 => fun _ _ _ _ r h => by simp [cfg_Names.l0] at h
 | k + 1 => by
  have ih0 := cfg_Names.mono_l k
  ·intro y0 y1 y2 y3
   unfold cfg_Names.l0
   repeat' first
   | (with_reducible exact ih0 _ _ _ _)
   | (with_reducible exact LeO.refl _)
   | (with_reducible exact LeO.none _)
   | (with_reducible refine LeO.ite ?_ ?_)
   | (with_reducible refine LeO.bind ?_ (fun _ => ?_))
   | exact ih0 _ _ _ _
   | exact LeO.none _
   | refine LeO.ite ?_ ?_
   | refine LeO.bind ?_ (fun _ => ?_)
theorem cfg_Names.mono : ∀ a0 k, LeO (cfg_Names.f k a0) (cfg_Names.f (k + 1) a0) := by
 intro a0 k
 have ih0 := cfg_Names.mono_l k
 unfold cfg_Names.f
 repeat' first
   | (with_reducible exact ih0 _ _ _ _)
   | (with_reducible exact LeO.refl _)
   | (with_reducible exact LeO.none _)
   | (with_reducible refine LeO.ite ?_ ?_)
   | (with_reducible refine LeO.bind ?_ (fun _ => ?_))
   | exact ih0 _ _ _ _
   | exact LeO.none _
   | refine LeO.ite ?_ ?_
   | refine LeO.bind ?_ (fun _ => ?_)
set_option maxHeartbeats 8000000 in
set_option maxRecDepth 100000 in
theorem cfg_Names.calls (k : Nat) (A0 : Option Addr) (c0 : Nat) (l0 : List (Stmt)) (r : List ByteArray) (w : World) (hr0 : Kd.C k30 w A0 l0.length l0) (hc0 : l0.length ≤ c0) (h : cfg_Names.f k l0 = some r) :
  Calls Try.prog 31 #[.slice A0 l0.length c0] w fun e w' => ∃ v0_ : Value, e = .returned (v0_) ∧ Kd.R Kd.string 9 w' w.heap.size (fun _ => True) v0_ r ∧ Below w.heap.size w w' := by
 have hu30 := Try.underlying30
 have HR0 := am hr0
 have HC0 := am hc0
 clear hr0 hc0
 have HB := am (Below.refl w.heap.size w)
 have H : (cfg_Names.l0 k ([] : List ByteArray) l0 (l0.length : Int) 0) = some r := h
 clear h
 have H' := am H
 clear H
 go_enter Try.func31, Try.ntmps31
 go_wp2
 go_loopg [3, 10] k (fun kq v3 v10 w' => ∃ (x3_1 : List ByteArray) (x10_1 : Int), v10 = .int .i64 x10_1 ∧ Aside0 (cfg_Names.l0 kq x3_1 l0 (l0.length : Int) x10_1 = some r) ∧ Aside0 (kq ≤ k) ∧ Aside0 (Kd.R Kd.string 9 w' w.heap.size (fun _ => True) v3 x3_1) ∧ Aside0 (Below w.heap.size w w'))
 case atStart => exact ⟨(([] : List ByteArray)), (0), (by first | rfl | (simp; done) | (simp [*]; done)), H', ⟨Nat.le_refl _⟩, ⟨by first | exact Kd.R_nil _ _ _ _ _ | exact Kd.N_nil _ _ _ _ _ | exact Kd.V_nil _ _ _ _ _ | exact Kd.Q_nil _ _ _ _ _ | exact Kd.S_nil _ _ _ _ _⟩, ⟨by repeat (first | (with_reducible first | exact HB.out | apply lA | apply lN | apply lD) | exact HB.out)⟩⟩
 case round =>
  clear H'
  obtain ⟨x3_1, x10_1, rfl, HA, HK1, HO_3, HB⟩ := hrel
  cases gk with
  | zero => exact absurd HA.out (by simp [cfg_Names.l0])
  | succ k1 =>
   have H := HA.out
   clear HA
   simp only [cfg_Names.l0] at H
   by_cases c2 : x10_1 < (l0.length : Int)
   ·rw [if_pos c2] at H
    have c2b0 : decide (x10_1 < (l0.length : Int)) = true := decide_eq_true c2
    clear c2
    by_cases c3 : 0 ≤ x10_1
    ·rw [if_pos c3] at H
     have c3b0 : decide (0 ≤ x10_1) = true := decide_eq_true c3
     clear c3
     by_cases c4 : x10_1 < (l0.length : Int)
     ·rw [if_pos c4] at H
      have c4b0 : decide (x10_1 < (l0.length : Int)) = true := decide_eq_true c4
      clear c4
      replace H := Option.bind_eq_some_iff.mp H
      obtain ⟨⟨t106, t107⟩, A50, H⟩ := H
      replace H : (if t107 = true then (if x3_1.length < 8796093022208 then ((some (x3_1 ++ [t106] : List ByteArray)).bind fun y108 => ((cfg_Uses.f ((rd_T30 l0 x10_1).kind) ((rd_T30 l0 x10_1).x) ((rd_T30 l0 x10_1).y) ((rd_T30 l0 x10_1).z) ((rd_T30 l0 x10_1).op) ((rd_T30 l0 x10_1).n) ((rd_T30 l0 x10_1).a) ((rd_T30 l0 x10_1).b)).bind fun t111 => (if y108.length + t111.length < 8796093022208 then (cfg_Names.l0 k1 (y108 ++ t111) l0 (l0.length : Int) (wrap64 (x10_1 + 1))) else (none)))) else (none)) else ((cfg_Uses.f ((rd_T30 l0 x10_1).kind) ((rd_T30 l0 x10_1).x) ((rd_T30 l0 x10_1).y) ((rd_T30 l0 x10_1).z) ((rd_T30 l0 x10_1).op) ((rd_T30 l0 x10_1).n) ((rd_T30 l0 x10_1).a) ((rd_T30 l0 x10_1).b)).bind fun t117 => (if x3_1.length + t117.length < 8796093022208 then (cfg_Names.l0 k1 (x3_1 ++ t117) l0 (l0.length : Int) (wrap64 (x10_1 + 1))) else (none)))) = some r := H
      have A5 := am A50
      clear A50
      by_cases c6 : t107 = true
      ·subst c6
       have H1 : (if x3_1.length < 8796093022208 then ((some (x3_1 ++ [t106] : List ByteArray)).bind fun y108 => ((cfg_Uses.f ((rd_T30 l0 x10_1).kind) ((rd_T30 l0 x10_1).x) ((rd_T30 l0 x10_1).y) ((rd_T30 l0 x10_1).z) ((rd_T30 l0 x10_1).op) ((rd_T30 l0 x10_1).n) ((rd_T30 l0 x10_1).a) ((rd_T30 l0 x10_1).b)).bind fun t111 => (if y108.length + t111.length < 8796093022208 then (cfg_Names.l0 k1 (y108 ++ t111) l0 (l0.length : Int) (wrap64 (x10_1 + 1))) else (none)))) else (none)) = some r := by rw [if_pos rfl] at H; exact H
       clear H
       have H := H1
       clear H1
       by_cases c7 : x3_1.length < 8796093022208
       ·rw [if_pos c7] at H
        have LMc7 := am c7
        clear c7
        obtain ⟨y108, hy108⟩ : ∃ y_ : List ByteArray, y_ = (x3_1 ++ [t106]) := ⟨_, rfl⟩
        replace H : ((cfg_Uses.f ((rd_T30 l0 x10_1).kind) ((rd_T30 l0 x10_1).x) ((rd_T30 l0 x10_1).y) ((rd_T30 l0 x10_1).z) ((rd_T30 l0 x10_1).op) ((rd_T30 l0 x10_1).n) ((rd_T30 l0 x10_1).a) ((rd_T30 l0 x10_1).b)).bind fun t111 => (if y108.length + t111.length < 8796093022208 then (cfg_Names.l0 k1 (y108 ++ t111) l0 (l0.length : Int) (wrap64 (x10_1 + 1))) else (none))) = some r := by first | (rw [hy108]; with_reducible exact H) | (have H2_ := (Option.bind_some _ _).symm.trans H; rw [hy108]; with_reducible exact H2_) | (have H2_ := (Option.bind_some _ _).symm.trans H; with_reducible exact H2_) | with_reducible exact H | (rw [hy108]; exact H) | exact H
        have Ny108 := am hy108
        clear hy108
        replace H := Option.bind_eq_some_iff.mp H
        obtain ⟨t111, A80, H⟩ := H
        replace H : (if y108.length + t111.length < 8796093022208 then (cfg_Names.l0 k1 (y108 ++ t111) l0 (l0.length : Int) (wrap64 (x10_1 + 1))) else (none)) = some r := H
        have A8 := am A80
        clear A80
        by_cases c9 : y108.length + t111.length < 8796093022208
        ·rw [if_pos c9] at H
         have LMc9 := am c9
         clear c9
         obtain ⟨y114, hy114⟩ : ∃ y_ : List ByteArray, y_ = (y108 ++ t111) := ⟨_, rfl⟩
         replace H : (cfg_Names.l0 k1 y114 l0 (l0.length : Int) (wrap64 (x10_1 + 1))) = some r := by first | (rw [hy114]; with_reducible exact H) | (have H2_ := (Option.bind_some _ _).symm.trans H; rw [hy114]; with_reducible exact H2_) | (have H2_ := (Option.bind_some _ _).symm.trans H; with_reducible exact H2_) | with_reducible exact H | (rw [hy114]; exact H) | exact H
         have Ny114 := am hy114
         clear hy114
         have H' := am H
         clear H
         have p104 : 0 ≤ (x10_1 : Int) := of_decide_eq_true (by first | (with_reducible assumption) | assumption)
         have q104 : x10_1 < (l0.length : Int) := of_decide_eq_true (by first | (with_reducible assumption) | assumption)
         obtain ⟨ad104, e104, hx104_0, hx104_1, hx104_2, hx104_3, hx104_4, hx104_5, hx104_6, hx104_7⟩ := at_T30 HR0.out x10_1 p104 q104
         cases e104
         replace hx104_0 := (HB.out.cell (blt_ hx104_0)).trans hx104_0
         replace hx104_1 := (HB.out.cell (blt_ hx104_1)).trans hx104_1
         replace hx104_2 := (HB.out.cell (blt_ hx104_2)).trans hx104_2
         replace hx104_3 := (HB.out.cell (blt_ hx104_3)).trans hx104_3
         replace hx104_4 := (HB.out.cell (blt_ hx104_4)).trans hx104_4
         replace hx104_5 := (HB.out.cell (blt_ hx104_5)).trans hx104_5
         replace hx104_6 := (HB.out.cell (blt_ hx104_6)).trans hx104_6
         replace hx104_7 := (HB.out.cell (blt_ hx104_7)).trans hx104_7
         replace p104 := eq_true p104
         replace q104 := eq_true q104
         go_wp2_with (first | ((with_reducible refine gate_dst (N := 5) rfl ?_); refine box_event ?hg (N := 5) ?hd (cs := #[.int .i64 0, .string (⟨#[]⟩ : ByteArray), .string (⟨#[]⟩ : ByteArray), .string (⟨#[]⟩ : ByteArray), .string (⟨#[]⟩ : ByteArray), .int .i64 0, .int .i64 0, .int .i64 0]) (t := 30) ?hr ?_; (case hd => rfl); (case hg => rfl); (case hr => first | (go_simp; done) | (go_simp; rfl)); intro gb105 hg w10 hbox hb; replace HO_3 := am (Kd.R_below (by (with_reducible repeat (first | apply Ra | apply Rn | apply Rd)); exact HO_3.out) hb); have BK105 := am (hbox); have GW105 := am ((by rw [hg]; exact (below_size (by repeat (first | (with_reducible first | exact HB.out | apply lA | apply lN | apply lD) | exact HB.out))) : w.heap.size ≤ gb105)); have GE105 := am ((by rw [hg]; exact (below_size (by repeat (first | (with_reducible first | exact HB.out | apply lA | apply lN | apply lD) | exact HB.out))) : w.heap.size ≤ gb105)); replace HB := am (below_step (by repeat (first | (with_reducible first | exact HB.out | apply lA | apply lN | apply lD) | exact HB.out)) hb); clear hb hbox hg; have hcz11_0 : w10.cell? ⟨gb105, 0, none⟩ = some (.int .i64 0) := (blk_cell BK105.out 0).trans rfl; have hcz11_1 : w10.cell? ⟨gb105, 1, none⟩ = some (.string (⟨#[]⟩ : ByteArray)) := (blk_cell BK105.out 1).trans rfl; have hcz11_2 : w10.cell? ⟨gb105, 2, none⟩ = some (.string (⟨#[]⟩ : ByteArray)) := (blk_cell BK105.out 2).trans rfl; have hcz11_3 : w10.cell? ⟨gb105, 3, none⟩ = some (.string (⟨#[]⟩ : ByteArray)) := (blk_cell BK105.out 3).trans rfl; have hcz11_4 : w10.cell? ⟨gb105, 4, none⟩ = some (.string (⟨#[]⟩ : ByteArray)) := (blk_cell BK105.out 4).trans rfl; have hcz11_5 : w10.cell? ⟨gb105, 5, none⟩ = some (.int .i64 0) := (blk_cell BK105.out 5).trans rfl; have hcz11_6 : w10.cell? ⟨gb105, 6, none⟩ = some (.int .i64 0) := (blk_cell BK105.out 6).trans rfl; have hcz11_7 : w10.cell? ⟨gb105, 7, none⟩ = some (.int .i64 0) := (blk_cell BK105.out 7).trans rfl; have hfz11_0 := blk_frozen BK105.out 0; have hfz11_1 := blk_frozen BK105.out 1; have hfz11_2 := blk_frozen BK105.out 2; have hfz11_3 := blk_frozen BK105.out 3; have hfz11_4 := blk_frozen BK105.out 4; have hfz11_5 := blk_frozen BK105.out 5; have hfz11_6 := blk_frozen BK105.out 6; have hfz11_7 := blk_frozen BK105.out 7) | ((with_reducible refine gate_callee (f := 20) rfl ?_); refine goesL_ (some 16) rfl rfl Try.func20 (by kernel_rfl) rfl #[.agg #[.int .i64 ((rd_T30 l0 x10_1).kind), .string ((rd_T30 l0 x10_1).x), .string ((rd_T30 l0 x10_1).y), .string ((rd_T30 l0 x10_1).z), .string ((rd_T30 l0 x10_1).op), .int .i64 ((rd_T30 l0 x10_1).n), .int .i64 ((rd_T30 l0 x10_1).a), .int .i64 ((rd_T30 l0 x10_1).b)]] rfl (by (try simp only [List.map_toArray, List.map_cons, List.map_nil]); first | done | rfl | (simp only [List.length_drop, List.length_take]; rfl)) ?_; (with_reducible refine (cfg_Def.calls ((rd_T30 l0 x10_1).kind) ((rd_T30 l0 x10_1).x) ((rd_T30 l0 x10_1).y) ((rd_T30 l0 x10_1).z) ((rd_T30 l0 x10_1).op) ((rd_T30 l0 x10_1).n) ((rd_T30 l0 x10_1).a) ((rd_T30 l0 x10_1).b) t106 true _ A5.out).mono ?_); rintro e w12 ⟨rfl, hb⟩; refine ⟨_, rfl, ?_⟩; replace HO_3 := am (Kd.R_below (by (with_reducible repeat (first | apply Ra | apply Rn | apply Rd)); exact (Kd.R_mono (Kd.R_far (p := ⟨gb105, 7, none⟩) (Kd.R_far (p := ⟨gb105, 6, none⟩) (Kd.R_far (p := ⟨gb105, 5, none⟩) (Kd.R_far (p := ⟨gb105, 4, none⟩) (Kd.R_far (p := ⟨gb105, 3, none⟩) (Kd.R_far (p := ⟨gb105, 2, none⟩) (Kd.R_far (p := ⟨gb105, 1, none⟩) (Kd.R_far (p := ⟨gb105, 0, none⟩) (Kd.R_types HO_3.out BK105.out (by decide)) (fun _ hk => hk.2) _) (fun _ hk => hk.2) _) (fun _ hk => hk.2) _) (fun _ hk => hk.2) _) (fun _ hk => hk.2) _) (fun _ hk => hk.2) _) (fun _ hk => hk.2) _) (fun _ hk => hk.2) _) (fun _ h_ => h_.1))) hb); replace BK105 := am (blk_below (g := gb105) (o := .cells #[.int .i64 ((rd_T30 l0 x10_1).kind), .string ((rd_T30 l0 x10_1).x), .string ((rd_T30 l0 x10_1).y), .string ((rd_T30 l0 x10_1).z), .string ((rd_T30 l0 x10_1).op), .int .i64 ((rd_T30 l0 x10_1).n), .int .i64 ((rd_T30 l0 x10_1).a), .int .i64 ((rd_T30 l0 x10_1).b)] 30 (0, 0)) (by (with_reducible repeat (first | refine bN ?_ _ | refine bD ?_ | refine bA ?_ _)); refine blk_put (cs := #[.int .i64 ((rd_T30 l0 x10_1).kind), .string ((rd_T30 l0 x10_1).x), .string ((rd_T30 l0 x10_1).y), .string ((rd_T30 l0 x10_1).z), .string ((rd_T30 l0 x10_1).op), .int .i64 ((rd_T30 l0 x10_1).n), .int .i64 ((rd_T30 l0 x10_1).a), .int .i64 0]) ?_ 7 _ rfl; (with_reducible repeat (first | refine bN ?_ _ | refine bD ?_ | refine bA ?_ _)); refine blk_put (cs := #[.int .i64 ((rd_T30 l0 x10_1).kind), .string ((rd_T30 l0 x10_1).x), .string ((rd_T30 l0 x10_1).y), .string ((rd_T30 l0 x10_1).z), .string ((rd_T30 l0 x10_1).op), .int .i64 ((rd_T30 l0 x10_1).n), .int .i64 0, .int .i64 0]) ?_ 6 _ rfl; (with_reducible repeat (first | refine bN ?_ _ | refine bD ?_ | refine bA ?_ _)); refine blk_put (cs := #[.int .i64 ((rd_T30 l0 x10_1).kind), .string ((rd_T30 l0 x10_1).x), .string ((rd_T30 l0 x10_1).y), .string ((rd_T30 l0 x10_1).z), .string ((rd_T30 l0 x10_1).op), .int .i64 0, .int .i64 0, .int .i64 0]) ?_ 5 _ rfl; (with_reducible repeat (first | refine bN ?_ _ | refine bD ?_ | refine bA ?_ _)); refine blk_put (cs := #[.int .i64 ((rd_T30 l0 x10_1).kind), .string ((rd_T30 l0 x10_1).x), .string ((rd_T30 l0 x10_1).y), .string ((rd_T30 l0 x10_1).z), .string (⟨#[]⟩ : ByteArray), .int .i64 0, .int .i64 0, .int .i64 0]) ?_ 4 _ rfl; (with_reducible repeat (first | refine bN ?_ _ | refine bD ?_ | refine bA ?_ _)); refine blk_put (cs := #[.int .i64 ((rd_T30 l0 x10_1).kind), .string ((rd_T30 l0 x10_1).x), .string ((rd_T30 l0 x10_1).y), .string (⟨#[]⟩ : ByteArray), .string (⟨#[]⟩ : ByteArray), .int .i64 0, .int .i64 0, .int .i64 0]) ?_ 3 _ rfl; (with_reducible repeat (first | refine bN ?_ _ | refine bD ?_ | refine bA ?_ _)); refine blk_put (cs := #[.int .i64 ((rd_T30 l0 x10_1).kind), .string ((rd_T30 l0 x10_1).x), .string (⟨#[]⟩ : ByteArray), .string (⟨#[]⟩ : ByteArray), .string (⟨#[]⟩ : ByteArray), .int .i64 0, .int .i64 0, .int .i64 0]) ?_ 2 _ rfl; (with_reducible repeat (first | refine bN ?_ _ | refine bD ?_ | refine bA ?_ _)); refine blk_put (cs := #[.int .i64 ((rd_T30 l0 x10_1).kind), .string (⟨#[]⟩ : ByteArray), .string (⟨#[]⟩ : ByteArray), .string (⟨#[]⟩ : ByteArray), .string (⟨#[]⟩ : ByteArray), .int .i64 0, .int .i64 0, .int .i64 0]) ?_ 1 _ rfl; (with_reducible repeat (first | refine bN ?_ _ | refine bD ?_ | refine bA ?_ _)); refine blk_put (cs := #[.int .i64 0, .string (⟨#[]⟩ : ByteArray), .string (⟨#[]⟩ : ByteArray), .string (⟨#[]⟩ : ByteArray), .string (⟨#[]⟩ : ByteArray), .int .i64 0, .int .i64 0, .int .i64 0]) ?_ 0 _ rfl; (with_reducible repeat (first | refine bN ?_ _ | refine bD ?_ | refine bA ?_ _)); exact BK105.out) hb); replace HB := am (below_step (by repeat (first | (with_reducible first | exact HB.out | apply lA | apply lN | apply lD | refine lS ?_ GE105.out) | exact HB.out)) hb); (try clear hb); (try clear hb2); (try clear hk); (try clear hi)) | ((with_reducible refine gate_builtin (b := .append) (xs := #[.tmp 20, .tmp 22]) rfl ?_); at_builtin; refine Kd.R_append Kd.string (w0 := w) w.heap.size rfl (.tmp 20) (.tmp 22) 32 9 (.string ⟨#[]⟩) 16 rfl Try.underlying32 info9 rfl (by decide) (by omega) u3 x3_1 t106 [.string t106] (fun _ => True) (fun _ => False) rfl rfl ?aP (fun _ hk => hk.elim) ?aF ?aO ?aB ?aS ?aL ?_; (case aP => exact rfl); (case aB => exact (by repeat (first | (with_reducible first | exact HB.out | apply lA | apply lN | apply lD | refine lS ?_ GE105.out) | exact HB.out))); (case aF => exact (fun _ _ => trivial)); (case aO => exact (by (with_reducible repeat (first | apply Ra | apply Rn | apply Rd)); exact HO_3.out)); (case aS => exact (below_size (by repeat (first | (with_reducible first | exact HB.out | apply lA | apply lN | apply lD | refine lS ?_ GE105.out) | exact HB.out)))); (case aL => have := LMc7.out; omega); intro v109 w13 ho hb hg hat; rw [← Ny108.out] at ho; replace BK105 := am (blk_grown (g := gb105) (o := .cells #[.int .i64 ((rd_T30 l0 x10_1).kind), .string ((rd_T30 l0 x10_1).x), .string ((rd_T30 l0 x10_1).y), .string ((rd_T30 l0 x10_1).z), .string ((rd_T30 l0 x10_1).op), .int .i64 ((rd_T30 l0 x10_1).n), .int .i64 ((rd_T30 l0 x10_1).a), .int .i64 ((rd_T30 l0 x10_1).b)] 30 (0, 0)) (by (with_reducible repeat (first | refine bN ?_ _ | refine bD ?_ | refine bA ?_ _)); exact BK105.out) hg (Kd.R_ne HO_3.out BK105.out (by decide))); replace HB := am (hb); have HO110 := am (ho); clear HO_3; clear ho hb hg hat; have hcz14_0 : w13.cell? ⟨gb105, 0, none⟩ = some (.int .i64 ((rd_T30 l0 x10_1).kind)) := (blk_cell BK105.out 0).trans rfl; have hcz14_1 : w13.cell? ⟨gb105, 1, none⟩ = some (.string ((rd_T30 l0 x10_1).x)) := (blk_cell BK105.out 1).trans rfl; have hcz14_2 : w13.cell? ⟨gb105, 2, none⟩ = some (.string ((rd_T30 l0 x10_1).y)) := (blk_cell BK105.out 2).trans rfl; have hcz14_3 : w13.cell? ⟨gb105, 3, none⟩ = some (.string ((rd_T30 l0 x10_1).z)) := (blk_cell BK105.out 3).trans rfl; have hcz14_4 : w13.cell? ⟨gb105, 4, none⟩ = some (.string ((rd_T30 l0 x10_1).op)) := (blk_cell BK105.out 4).trans rfl; have hcz14_5 : w13.cell? ⟨gb105, 5, none⟩ = some (.int .i64 ((rd_T30 l0 x10_1).n)) := (blk_cell BK105.out 5).trans rfl; have hcz14_6 : w13.cell? ⟨gb105, 6, none⟩ = some (.int .i64 ((rd_T30 l0 x10_1).a)) := (blk_cell BK105.out 6).trans rfl; have hcz14_7 : w13.cell? ⟨gb105, 7, none⟩ = some (.int .i64 ((rd_T30 l0 x10_1).b)) := (blk_cell BK105.out 7).trans rfl; have hfz14_0 := blk_frozen BK105.out 0; have hfz14_1 := blk_frozen BK105.out 1; have hfz14_2 := blk_frozen BK105.out 2; have hfz14_3 := blk_frozen BK105.out 3; have hfz14_4 := blk_frozen BK105.out 4; have hfz14_5 := blk_frozen BK105.out 5; have hfz14_6 := blk_frozen BK105.out 6; have hfz14_7 := blk_frozen BK105.out 7) | ((with_reducible refine gate_callee (f := 22) rfl ?_); refine goesL_ (some 26) rfl rfl Try.func22 (by kernel_rfl) rfl #[.agg #[.int .i64 ((rd_T30 l0 x10_1).kind), .string ((rd_T30 l0 x10_1).x), .string ((rd_T30 l0 x10_1).y), .string ((rd_T30 l0 x10_1).z), .string ((rd_T30 l0 x10_1).op), .int .i64 ((rd_T30 l0 x10_1).n), .int .i64 ((rd_T30 l0 x10_1).a), .int .i64 ((rd_T30 l0 x10_1).b)]] rfl (by (try simp only [List.map_toArray, List.map_cons, List.map_nil]); first | done | rfl | (simp only [List.length_drop, List.length_take]; rfl)) ?_; (with_reducible refine (cfg_Uses.calls ((rd_T30 l0 x10_1).kind) ((rd_T30 l0 x10_1).x) ((rd_T30 l0 x10_1).y) ((rd_T30 l0 x10_1).z) ((rd_T30 l0 x10_1).op) ((rd_T30 l0 x10_1).n) ((rd_T30 l0 x10_1).a) ((rd_T30 l0 x10_1).b) t111 _ A8.out).mono ?_); rintro e w15 ⟨v112, rfl, ho0, hb⟩; refine ⟨_, rfl, ?_⟩; have HO113 := am (Kd.R_lower (Kd.R_new' ho0 (Kd.R_lt (by (with_reducible repeat (first | apply Ra | apply Rn | apply Rd)); exact HO110.out))) (below_size (by repeat (first | (with_reducible first | exact HB.out | apply lA | apply lN | apply lD | refine lS ?_ GE105.out) | exact HB.out)))); replace HO110 := am (Kd.R_elder' (by (with_reducible repeat (first | apply Ra | apply Rn | apply Rd)); exact HO110.out) (Kd.R_base ho0) hb); replace BK105 := am (blk_below (g := gb105) (o := .cells #[.int .i64 ((rd_T30 l0 x10_1).kind), .string ((rd_T30 l0 x10_1).x), .string ((rd_T30 l0 x10_1).y), .string ((rd_T30 l0 x10_1).z), .string ((rd_T30 l0 x10_1).op), .int .i64 ((rd_T30 l0 x10_1).n), .int .i64 ((rd_T30 l0 x10_1).a), .int .i64 ((rd_T30 l0 x10_1).b)] 30 (0, 0)) (by (with_reducible repeat (first | refine bN ?_ _ | refine bD ?_ | refine bA ?_ _)); exact BK105.out) hb); replace HB := am (below_step (by repeat (first | (with_reducible first | exact HB.out | apply lA | apply lN | apply lD | refine lS ?_ GE105.out) | exact HB.out)) hb); (try clear hb); (try clear hb2); (try clear hk); (try clear hi); (try clear ho0); obtain ⟨Ao17, co17, eo17⟩ := Kd.R_slice HO113.out; subst eo17) | ((with_reducible refine gate_builtin (b := .append) (xs := #[.tmp 24, .tmp 26]) rfl ?_); at_builtin; refine Kd.R_append_rows Kd.string (w0 := w) w.heap.size rfl (.tmp 24) (.tmp 26) 32 9 (.string ⟨#[]⟩) 16 rfl Try.underlying32 info9 rfl (by decide) (by omega) v109 y108 t111 _ _ _ (fun k_ => some k_ ≠ (.slice Ao17 t111.length co17 : Value).ownBlock) (fun _ => False) rfl rfl ?aO ?aR (fun _ _ h => h) (fun _ h => h.elim) ?aF ?aB ?aS ?aL ?_; (case aR => repeat (first | exact (Kd.R_reads' HO113.out).2.2 | (with_reducible refine Kd.C_alloc ?_ _) | (with_reducible refine Kd.C_drewN ?_ _) | (with_reducible refine Kd.C_drew ?_))); (case aB => exact (by repeat (first | (with_reducible first | exact HB.out | apply lA | apply lN | apply lD | refine lS ?_ GE105.out) | exact HB.out))); (case aF => exact (fun k_ hk => Kd.fresh' (Kd.R_lt (by (with_reducible repeat (first | apply Ra | apply Rn | apply Rd)); exact HO113.out)) k_ hk)); (case aO => exact (by (with_reducible repeat (first | apply Ra | apply Rn | apply Rd)); exact Kd.R_mono HO110.out (fun _ hk => hk.2))); (case aS => exact (below_size (by repeat (first | (with_reducible first | exact HB.out | apply lA | apply lN | apply lD | refine lS ?_ GE105.out) | exact HB.out)))); (case aL => have := LMc9.out; omega); intro v115 w16 ho hb hg hat; rw [← Ny114.out] at ho; replace BK105 := am (blk_grown (g := gb105) (o := .cells #[.int .i64 ((rd_T30 l0 x10_1).kind), .string ((rd_T30 l0 x10_1).x), .string ((rd_T30 l0 x10_1).y), .string ((rd_T30 l0 x10_1).z), .string ((rd_T30 l0 x10_1).op), .int .i64 ((rd_T30 l0 x10_1).n), .int .i64 ((rd_T30 l0 x10_1).a), .int .i64 ((rd_T30 l0 x10_1).b)] 30 (0, 0)) (by (with_reducible repeat (first | refine bN ?_ _ | refine bD ?_ | refine bA ?_ _)); exact BK105.out) hg (Kd.R_ne HO110.out BK105.out (by decide))); replace HO113 := am (Kd.R_after (ok := (fun _ => True)) (by (with_reducible repeat (first | apply Ra | apply Rn | apply Rd)); exact HO113.out) hg hat); replace HB := am (hb); have HO116 := am (ho); clear HO110; clear ho hb hg hat))
         go_roundg k1
         case measure => have := HK1.out; omega
         case rel => exact ⟨(y114), (wrap64 (x10_1 + 1)), (by first | rfl | (simp; done) | (simp [*]; done)), H', ⟨by have := HK1.out; omega⟩, ⟨by (with_reducible repeat (first | apply Ra | apply Rn | apply Rd)); exact Kd.R_mono HO116.out (fun _ hk => trivial)⟩, ⟨by repeat (first | (with_reducible first | exact HB.out | apply lA | apply lN | apply lD | refine lS ?_ GE105.out) | exact HB.out)⟩⟩
        ·rw [if_neg c9] at H
         exact absurd H (by simp)
       ·rw [if_neg c7] at H
        exact absurd H (by simp)
      ·replace c6 := Bool.eq_false_iff.mpr c6
       subst c6
       have H1 : ((cfg_Uses.f ((rd_T30 l0 x10_1).kind) ((rd_T30 l0 x10_1).x) ((rd_T30 l0 x10_1).y) ((rd_T30 l0 x10_1).z) ((rd_T30 l0 x10_1).op) ((rd_T30 l0 x10_1).n) ((rd_T30 l0 x10_1).a) ((rd_T30 l0 x10_1).b)).bind fun t117 => (if x3_1.length + t117.length < 8796093022208 then (cfg_Names.l0 k1 (x3_1 ++ t117) l0 (l0.length : Int) (wrap64 (x10_1 + 1))) else (none))) = some r := by rw [if_neg (show ¬ (false = true) by decide)] at H; exact H
       clear H
       have H := H1
       clear H1
       replace H := Option.bind_eq_some_iff.mp H
       obtain ⟨t117, A180, H⟩ := H
       replace H : (if x3_1.length + t117.length < 8796093022208 then (cfg_Names.l0 k1 (x3_1 ++ t117) l0 (l0.length : Int) (wrap64 (x10_1 + 1))) else (none)) = some r := H
       have A18 := am A180
       clear A180
       by_cases c19 : x3_1.length + t117.length < 8796093022208
       ·rw [if_pos c19] at H
        have LMc19 := am c19
        clear c19
        obtain ⟨y120, hy120⟩ : ∃ y_ : List ByteArray, y_ = (x3_1 ++ t117) := ⟨_, rfl⟩
        replace H : (cfg_Names.l0 k1 y120 l0 (l0.length : Int) (wrap64 (x10_1 + 1))) = some r := by first | (rw [hy120]; with_reducible exact H) | (have H2_ := (Option.bind_some _ _).symm.trans H; rw [hy120]; with_reducible exact H2_) | (have H2_ := (Option.bind_some _ _).symm.trans H; with_reducible exact H2_) | with_reducible exact H | (rw [hy120]; exact H) | exact H
        have Ny120 := am hy120
        clear hy120
        have H' := am H
        clear H
        have p104 : 0 ≤ (x10_1 : Int) := of_decide_eq_true (by first | (with_reducible assumption) | assumption)
        have q104 : x10_1 < (l0.length : Int) := of_decide_eq_true (by first | (with_reducible assumption) | assumption)
        obtain ⟨ad104, e104, hx104_0, hx104_1, hx104_2, hx104_3, hx104_4, hx104_5, hx104_6, hx104_7⟩ := at_T30 HR0.out x10_1 p104 q104
        cases e104
        replace hx104_0 := (HB.out.cell (blt_ hx104_0)).trans hx104_0
        replace hx104_1 := (HB.out.cell (blt_ hx104_1)).trans hx104_1
        replace hx104_2 := (HB.out.cell (blt_ hx104_2)).trans hx104_2
        replace hx104_3 := (HB.out.cell (blt_ hx104_3)).trans hx104_3
        replace hx104_4 := (HB.out.cell (blt_ hx104_4)).trans hx104_4
        replace hx104_5 := (HB.out.cell (blt_ hx104_5)).trans hx104_5
        replace hx104_6 := (HB.out.cell (blt_ hx104_6)).trans hx104_6
        replace hx104_7 := (HB.out.cell (blt_ hx104_7)).trans hx104_7
        replace p104 := eq_true p104
        replace q104 := eq_true q104
        go_wp2_with (first | ((with_reducible refine gate_dst (N := 5) rfl ?_); refine box_event ?hg (N := 5) ?hd (cs := #[.int .i64 0, .string (⟨#[]⟩ : ByteArray), .string (⟨#[]⟩ : ByteArray), .string (⟨#[]⟩ : ByteArray), .string (⟨#[]⟩ : ByteArray), .int .i64 0, .int .i64 0, .int .i64 0]) (t := 30) ?hr ?_; (case hd => rfl); (case hg => rfl); (case hr => first | (go_simp; done) | (go_simp; rfl)); intro gb105 hg w20 hbox hb; replace HO_3 := am (Kd.R_below (by (with_reducible repeat (first | apply Ra | apply Rn | apply Rd)); exact HO_3.out) hb); have BK105 := am (hbox); have GW105 := am ((by rw [hg]; exact (below_size (by repeat (first | (with_reducible first | exact HB.out | apply lA | apply lN | apply lD) | exact HB.out))) : w.heap.size ≤ gb105)); have GE105 := am ((by rw [hg]; exact (below_size (by repeat (first | (with_reducible first | exact HB.out | apply lA | apply lN | apply lD) | exact HB.out))) : w.heap.size ≤ gb105)); replace HB := am (below_step (by repeat (first | (with_reducible first | exact HB.out | apply lA | apply lN | apply lD) | exact HB.out)) hb); clear hb hbox hg; have hcz21_0 : w20.cell? ⟨gb105, 0, none⟩ = some (.int .i64 0) := (blk_cell BK105.out 0).trans rfl; have hcz21_1 : w20.cell? ⟨gb105, 1, none⟩ = some (.string (⟨#[]⟩ : ByteArray)) := (blk_cell BK105.out 1).trans rfl; have hcz21_2 : w20.cell? ⟨gb105, 2, none⟩ = some (.string (⟨#[]⟩ : ByteArray)) := (blk_cell BK105.out 2).trans rfl; have hcz21_3 : w20.cell? ⟨gb105, 3, none⟩ = some (.string (⟨#[]⟩ : ByteArray)) := (blk_cell BK105.out 3).trans rfl; have hcz21_4 : w20.cell? ⟨gb105, 4, none⟩ = some (.string (⟨#[]⟩ : ByteArray)) := (blk_cell BK105.out 4).trans rfl; have hcz21_5 : w20.cell? ⟨gb105, 5, none⟩ = some (.int .i64 0) := (blk_cell BK105.out 5).trans rfl; have hcz21_6 : w20.cell? ⟨gb105, 6, none⟩ = some (.int .i64 0) := (blk_cell BK105.out 6).trans rfl; have hcz21_7 : w20.cell? ⟨gb105, 7, none⟩ = some (.int .i64 0) := (blk_cell BK105.out 7).trans rfl; have hfz21_0 := blk_frozen BK105.out 0; have hfz21_1 := blk_frozen BK105.out 1; have hfz21_2 := blk_frozen BK105.out 2; have hfz21_3 := blk_frozen BK105.out 3; have hfz21_4 := blk_frozen BK105.out 4; have hfz21_5 := blk_frozen BK105.out 5; have hfz21_6 := blk_frozen BK105.out 6; have hfz21_7 := blk_frozen BK105.out 7) | ((with_reducible refine gate_callee (f := 20) rfl ?_); refine goesL_ (some 16) rfl rfl Try.func20 (by kernel_rfl) rfl #[.agg #[.int .i64 ((rd_T30 l0 x10_1).kind), .string ((rd_T30 l0 x10_1).x), .string ((rd_T30 l0 x10_1).y), .string ((rd_T30 l0 x10_1).z), .string ((rd_T30 l0 x10_1).op), .int .i64 ((rd_T30 l0 x10_1).n), .int .i64 ((rd_T30 l0 x10_1).a), .int .i64 ((rd_T30 l0 x10_1).b)]] rfl (by (try simp only [List.map_toArray, List.map_cons, List.map_nil]); first | done | rfl | (simp only [List.length_drop, List.length_take]; rfl)) ?_; (with_reducible refine (cfg_Def.calls ((rd_T30 l0 x10_1).kind) ((rd_T30 l0 x10_1).x) ((rd_T30 l0 x10_1).y) ((rd_T30 l0 x10_1).z) ((rd_T30 l0 x10_1).op) ((rd_T30 l0 x10_1).n) ((rd_T30 l0 x10_1).a) ((rd_T30 l0 x10_1).b) t106 false _ A5.out).mono ?_); rintro e w22 ⟨rfl, hb⟩; refine ⟨_, rfl, ?_⟩; replace HO_3 := am (Kd.R_below (by (with_reducible repeat (first | apply Ra | apply Rn | apply Rd)); exact (Kd.R_mono (Kd.R_far (p := ⟨gb105, 7, none⟩) (Kd.R_far (p := ⟨gb105, 6, none⟩) (Kd.R_far (p := ⟨gb105, 5, none⟩) (Kd.R_far (p := ⟨gb105, 4, none⟩) (Kd.R_far (p := ⟨gb105, 3, none⟩) (Kd.R_far (p := ⟨gb105, 2, none⟩) (Kd.R_far (p := ⟨gb105, 1, none⟩) (Kd.R_far (p := ⟨gb105, 0, none⟩) (Kd.R_types HO_3.out BK105.out (by decide)) (fun _ hk => hk.2) _) (fun _ hk => hk.2) _) (fun _ hk => hk.2) _) (fun _ hk => hk.2) _) (fun _ hk => hk.2) _) (fun _ hk => hk.2) _) (fun _ hk => hk.2) _) (fun _ hk => hk.2) _) (fun _ h_ => h_.1))) hb); replace BK105 := am (blk_below (g := gb105) (o := .cells #[.int .i64 ((rd_T30 l0 x10_1).kind), .string ((rd_T30 l0 x10_1).x), .string ((rd_T30 l0 x10_1).y), .string ((rd_T30 l0 x10_1).z), .string ((rd_T30 l0 x10_1).op), .int .i64 ((rd_T30 l0 x10_1).n), .int .i64 ((rd_T30 l0 x10_1).a), .int .i64 ((rd_T30 l0 x10_1).b)] 30 (0, 0)) (by (with_reducible repeat (first | refine bN ?_ _ | refine bD ?_ | refine bA ?_ _)); refine blk_put (cs := #[.int .i64 ((rd_T30 l0 x10_1).kind), .string ((rd_T30 l0 x10_1).x), .string ((rd_T30 l0 x10_1).y), .string ((rd_T30 l0 x10_1).z), .string ((rd_T30 l0 x10_1).op), .int .i64 ((rd_T30 l0 x10_1).n), .int .i64 ((rd_T30 l0 x10_1).a), .int .i64 0]) ?_ 7 _ rfl; (with_reducible repeat (first | refine bN ?_ _ | refine bD ?_ | refine bA ?_ _)); refine blk_put (cs := #[.int .i64 ((rd_T30 l0 x10_1).kind), .string ((rd_T30 l0 x10_1).x), .string ((rd_T30 l0 x10_1).y), .string ((rd_T30 l0 x10_1).z), .string ((rd_T30 l0 x10_1).op), .int .i64 ((rd_T30 l0 x10_1).n), .int .i64 0, .int .i64 0]) ?_ 6 _ rfl; (with_reducible repeat (first | refine bN ?_ _ | refine bD ?_ | refine bA ?_ _)); refine blk_put (cs := #[.int .i64 ((rd_T30 l0 x10_1).kind), .string ((rd_T30 l0 x10_1).x), .string ((rd_T30 l0 x10_1).y), .string ((rd_T30 l0 x10_1).z), .string ((rd_T30 l0 x10_1).op), .int .i64 0, .int .i64 0, .int .i64 0]) ?_ 5 _ rfl; (with_reducible repeat (first | refine bN ?_ _ | refine bD ?_ | refine bA ?_ _)); refine blk_put (cs := #[.int .i64 ((rd_T30 l0 x10_1).kind), .string ((rd_T30 l0 x10_1).x), .string ((rd_T30 l0 x10_1).y), .string ((rd_T30 l0 x10_1).z), .string (⟨#[]⟩ : ByteArray), .int .i64 0, .int .i64 0, .int .i64 0]) ?_ 4 _ rfl; (with_reducible repeat (first | refine bN ?_ _ | refine bD ?_ | refine bA ?_ _)); refine blk_put (cs := #[.int .i64 ((rd_T30 l0 x10_1).kind), .string ((rd_T30 l0 x10_1).x), .string ((rd_T30 l0 x10_1).y), .string (⟨#[]⟩ : ByteArray), .string (⟨#[]⟩ : ByteArray), .int .i64 0, .int .i64 0, .int .i64 0]) ?_ 3 _ rfl; (with_reducible repeat (first | refine bN ?_ _ | refine bD ?_ | refine bA ?_ _)); refine blk_put (cs := #[.int .i64 ((rd_T30 l0 x10_1).kind), .string ((rd_T30 l0 x10_1).x), .string (⟨#[]⟩ : ByteArray), .string (⟨#[]⟩ : ByteArray), .string (⟨#[]⟩ : ByteArray), .int .i64 0, .int .i64 0, .int .i64 0]) ?_ 2 _ rfl; (with_reducible repeat (first | refine bN ?_ _ | refine bD ?_ | refine bA ?_ _)); refine blk_put (cs := #[.int .i64 ((rd_T30 l0 x10_1).kind), .string (⟨#[]⟩ : ByteArray), .string (⟨#[]⟩ : ByteArray), .string (⟨#[]⟩ : ByteArray), .string (⟨#[]⟩ : ByteArray), .int .i64 0, .int .i64 0, .int .i64 0]) ?_ 1 _ rfl; (with_reducible repeat (first | refine bN ?_ _ | refine bD ?_ | refine bA ?_ _)); refine blk_put (cs := #[.int .i64 0, .string (⟨#[]⟩ : ByteArray), .string (⟨#[]⟩ : ByteArray), .string (⟨#[]⟩ : ByteArray), .string (⟨#[]⟩ : ByteArray), .int .i64 0, .int .i64 0, .int .i64 0]) ?_ 0 _ rfl; (with_reducible repeat (first | refine bN ?_ _ | refine bD ?_ | refine bA ?_ _)); exact BK105.out) hb); replace HB := am (below_step (by repeat (first | (with_reducible first | exact HB.out | apply lA | apply lN | apply lD | refine lS ?_ GE105.out) | exact HB.out)) hb); (try clear hb); (try clear hb2); (try clear hk); (try clear hi); have hcz23_0 : w22.cell? ⟨gb105, 0, none⟩ = some (.int .i64 ((rd_T30 l0 x10_1).kind)) := (blk_cell BK105.out 0).trans rfl; have hcz23_1 : w22.cell? ⟨gb105, 1, none⟩ = some (.string ((rd_T30 l0 x10_1).x)) := (blk_cell BK105.out 1).trans rfl; have hcz23_2 : w22.cell? ⟨gb105, 2, none⟩ = some (.string ((rd_T30 l0 x10_1).y)) := (blk_cell BK105.out 2).trans rfl; have hcz23_3 : w22.cell? ⟨gb105, 3, none⟩ = some (.string ((rd_T30 l0 x10_1).z)) := (blk_cell BK105.out 3).trans rfl; have hcz23_4 : w22.cell? ⟨gb105, 4, none⟩ = some (.string ((rd_T30 l0 x10_1).op)) := (blk_cell BK105.out 4).trans rfl; have hcz23_5 : w22.cell? ⟨gb105, 5, none⟩ = some (.int .i64 ((rd_T30 l0 x10_1).n)) := (blk_cell BK105.out 5).trans rfl; have hcz23_6 : w22.cell? ⟨gb105, 6, none⟩ = some (.int .i64 ((rd_T30 l0 x10_1).a)) := (blk_cell BK105.out 6).trans rfl; have hcz23_7 : w22.cell? ⟨gb105, 7, none⟩ = some (.int .i64 ((rd_T30 l0 x10_1).b)) := (blk_cell BK105.out 7).trans rfl; have hfz23_0 := blk_frozen BK105.out 0; have hfz23_1 := blk_frozen BK105.out 1; have hfz23_2 := blk_frozen BK105.out 2; have hfz23_3 := blk_frozen BK105.out 3; have hfz23_4 := blk_frozen BK105.out 4; have hfz23_5 := blk_frozen BK105.out 5; have hfz23_6 := blk_frozen BK105.out 6; have hfz23_7 := blk_frozen BK105.out 7) | ((with_reducible refine gate_callee (f := 22) rfl ?_); refine goesL_ (some 26) rfl rfl Try.func22 (by kernel_rfl) rfl #[.agg #[.int .i64 ((rd_T30 l0 x10_1).kind), .string ((rd_T30 l0 x10_1).x), .string ((rd_T30 l0 x10_1).y), .string ((rd_T30 l0 x10_1).z), .string ((rd_T30 l0 x10_1).op), .int .i64 ((rd_T30 l0 x10_1).n), .int .i64 ((rd_T30 l0 x10_1).a), .int .i64 ((rd_T30 l0 x10_1).b)]] rfl (by (try simp only [List.map_toArray, List.map_cons, List.map_nil]); first | done | rfl | (simp only [List.length_drop, List.length_take]; rfl)) ?_; (with_reducible refine (cfg_Uses.calls ((rd_T30 l0 x10_1).kind) ((rd_T30 l0 x10_1).x) ((rd_T30 l0 x10_1).y) ((rd_T30 l0 x10_1).z) ((rd_T30 l0 x10_1).op) ((rd_T30 l0 x10_1).n) ((rd_T30 l0 x10_1).a) ((rd_T30 l0 x10_1).b) t117 _ A18.out).mono ?_); rintro e w24 ⟨v118, rfl, ho0, hb⟩; refine ⟨_, rfl, ?_⟩; have HO119 := am (Kd.R_lower (Kd.R_new' ho0 (Kd.R_lt (by (with_reducible repeat (first | apply Ra | apply Rn | apply Rd)); exact HO_3.out))) (below_size (by repeat (first | (with_reducible first | exact HB.out | apply lA | apply lN | apply lD | refine lS ?_ GE105.out) | exact HB.out)))); replace HO_3 := am (Kd.R_elder' (by (with_reducible repeat (first | apply Ra | apply Rn | apply Rd)); exact HO_3.out) (Kd.R_base ho0) hb); replace BK105 := am (blk_below (g := gb105) (o := .cells #[.int .i64 ((rd_T30 l0 x10_1).kind), .string ((rd_T30 l0 x10_1).x), .string ((rd_T30 l0 x10_1).y), .string ((rd_T30 l0 x10_1).z), .string ((rd_T30 l0 x10_1).op), .int .i64 ((rd_T30 l0 x10_1).n), .int .i64 ((rd_T30 l0 x10_1).a), .int .i64 ((rd_T30 l0 x10_1).b)] 30 (0, 0)) (by (with_reducible repeat (first | refine bN ?_ _ | refine bD ?_ | refine bA ?_ _)); exact BK105.out) hb); replace HB := am (below_step (by repeat (first | (with_reducible first | exact HB.out | apply lA | apply lN | apply lD | refine lS ?_ GE105.out) | exact HB.out)) hb); (try clear hb); (try clear hb2); (try clear hk); (try clear hi); (try clear ho0); obtain ⟨Ao26, co26, eo26⟩ := Kd.R_slice HO119.out; subst eo26) | ((with_reducible refine gate_builtin (b := .append) (xs := #[.tmp 24, .tmp 26]) rfl ?_); at_builtin; refine Kd.R_append_rows Kd.string (w0 := w) w.heap.size rfl (.tmp 24) (.tmp 26) 32 9 (.string ⟨#[]⟩) 16 rfl Try.underlying32 info9 rfl (by decide) (by omega) u3 x3_1 t117 _ _ _ (fun k_ => some k_ ≠ (.slice Ao26 t117.length co26 : Value).ownBlock) (fun _ => False) rfl rfl ?aO ?aR (fun _ _ h => h) (fun _ h => h.elim) ?aF ?aB ?aS ?aL ?_; (case aR => repeat (first | exact (Kd.R_reads' HO119.out).2.2 | (with_reducible refine Kd.C_alloc ?_ _) | (with_reducible refine Kd.C_drewN ?_ _) | (with_reducible refine Kd.C_drew ?_))); (case aB => exact (by repeat (first | (with_reducible first | exact HB.out | apply lA | apply lN | apply lD | refine lS ?_ GE105.out) | exact HB.out))); (case aF => exact (fun k_ hk => Kd.fresh' (Kd.R_lt (by (with_reducible repeat (first | apply Ra | apply Rn | apply Rd)); exact HO119.out)) k_ hk)); (case aO => exact (by (with_reducible repeat (first | apply Ra | apply Rn | apply Rd)); exact Kd.R_mono HO_3.out (fun _ hk => hk.2))); (case aS => exact (below_size (by repeat (first | (with_reducible first | exact HB.out | apply lA | apply lN | apply lD | refine lS ?_ GE105.out) | exact HB.out)))); (case aL => have := LMc19.out; omega); intro v121 w25 ho hb hg hat; rw [← Ny120.out] at ho; replace BK105 := am (blk_grown (g := gb105) (o := .cells #[.int .i64 ((rd_T30 l0 x10_1).kind), .string ((rd_T30 l0 x10_1).x), .string ((rd_T30 l0 x10_1).y), .string ((rd_T30 l0 x10_1).z), .string ((rd_T30 l0 x10_1).op), .int .i64 ((rd_T30 l0 x10_1).n), .int .i64 ((rd_T30 l0 x10_1).a), .int .i64 ((rd_T30 l0 x10_1).b)] 30 (0, 0)) (by (with_reducible repeat (first | refine bN ?_ _ | refine bD ?_ | refine bA ?_ _)); exact BK105.out) hg (Kd.R_ne HO_3.out BK105.out (by decide))); replace HO119 := am (Kd.R_after (ok := (fun _ => True)) (by (with_reducible repeat (first | apply Ra | apply Rn | apply Rd)); exact HO119.out) hg hat); replace HB := am (hb); have HO122 := am (ho); clear HO_3; clear ho hb hg hat))
        go_roundg k1
        case measure => have := HK1.out; omega
        case rel => exact ⟨(y120), (wrap64 (x10_1 + 1)), (by first | rfl | (simp; done) | (simp [*]; done)), H', ⟨by have := HK1.out; omega⟩, ⟨by (with_reducible repeat (first | apply Ra | apply Rn | apply Rd)); exact Kd.R_mono HO122.out (fun _ hk => trivial)⟩, ⟨by repeat (first | (with_reducible first | exact HB.out | apply lA | apply lN | apply lD | refine lS ?_ GE105.out) | exact HB.out)⟩⟩
       ·rw [if_neg c19] at H
        exact absurd H (by simp)
     ·rw [if_neg c4] at H
      exact absurd H (by simp)
    ·rw [if_neg c3] at H
     exact absurd H (by simp)
   ·rw [if_neg c2] at H
    have c2b0 : decide (x10_1 < (l0.length : Int)) = false := decide_eq_false c2
    clear c2
    replace H := Option.bind_eq_some_iff.mp H
    obtain ⟨t101, A270, H⟩ := H
    replace H : (some t101) = some r := H
    have A27 := am A270
    clear A270
    obtain rfl := Option.some.inj H
    obtain ⟨Ao28, co28, eo28⟩ := Kd.R_slice HO_3.out
    subst eo28
    go_wp2_with (first | ((with_reducible refine gate_callee (f := 50) rfl ?_); refine goesL_ (some 30) rfl rfl Try.func50 (by kernel_rfl) rfl #[.slice Ao28 x3_1.length co28] rfl (by (try simp only [List.map_toArray, List.map_cons, List.map_nil]); first | done | rfl | (simp only [List.length_drop, List.length_take]; rfl)) ?_; (with_reducible refine (cfg_sorted_string.calls _ _ x3_1 t101 _ ?side1 ?side2 A27.out).mono ?_); (case side1 => repeat (first | exact (Kd.R_reads' HO_3.out).2.2 | (with_reducible refine Kd.C_alloc ?_ _) | (with_reducible refine Kd.C_drewN ?_ _) | (with_reducible refine Kd.C_drew ?_))); (case side2 => exact (Kd.R_reads' HO_3.out).2.1); rintro e w29 ⟨v102, rfl, ho0, hb⟩; refine ⟨_, rfl, ?_⟩; have HO103 := am (Kd.R_lower (Kd.R_new' ho0 (Kd.R_lt (by (with_reducible repeat (first | apply Ra | apply Rn | apply Rd)); exact HO_3.out))) (below_size (by repeat (first | (with_reducible first | exact HB.out | apply lA | apply lN | apply lD) | exact HB.out)))); replace HO_3 := am (Kd.R_elder' (by (with_reducible repeat (first | apply Ra | apply Rn | apply Rd)); exact HO_3.out) (Kd.R_base ho0) hb); replace HB := am (below_step (by repeat (first | (with_reducible first | exact HB.out | apply lA | apply lN | apply lD) | exact HB.out)) hb); (try clear hb); (try clear hb2); (try clear hk); (try clear hi); (try clear ho0)))
    go_ret
    exact ⟨_, by first | rfl | (simp [errW_none, errW_some] <;> rfl) | (simp [*, errW_none, errW_some] <;> rfl), by (with_reducible repeat (first | apply Ra | apply Rn | apply Rd)); exact Kd.R_mono HO103.out (fun _ hk => trivial), by repeat (first | (with_reducible first | exact HB.out | apply lA | apply lN | apply lD) | exact HB.out)⟩
end Go.Proofs.Ytnepgcbgkhikkaa.H
namespace Go.Proofs.Ytnepgcbgkhikkaa.H
open Go.RowKit Go.Proofs.YtnepgcbgkhikkaaW.PrintWords
set_option linter.unusedVariables false
set_option linter.unusedSimpArgs false
def namesOf (st : Stmt) : List ByteArray := (if (defN st).2 = true then [(defN st).1] else []) ++ usesS st
theorem namesOf_len (st : Stmt) : (namesOf st).length ≤ 3 := by
  have := usesS_len st
  unfold namesOf
  split <;> simp <;> omega
theorem cNames_l0 (s : List Stmt) (hs : s.length ≤ 1000) : ∀ (r : List Stmt) (n : Nat) (acc : List ByteArray), s.drop n = r → n ≤ s.length → acc.length ≤ n * 3 → Ev (fun k => cfg_Names.l0 k acc s (s.length : Int) n) (setS (acc ++ r.flatMap namesOf))
  | [], n, acc, h, hn, hc => by
    refine Ev.step (fun k => by rw [cfg_Names.l0]) ?_
    refine Ev.neg (drop_end h) (Ev.pure (a := setS acc) ?_ (Ev.some (by simp)))
    unfold cfg_sorted_string.f slices_Clone_string_string.f slices_Sort_string_string.f slices_Compact_string_string.f
    rw [if_pos (by omega)]
    simp only [Option.bind_some]
    rw [if_pos (by omega)]
    rfl
  | y :: r, n, acc, h, hn, hc => by
    obtain ⟨h1, h2, h3, h4, h5⟩ := drop_more h (by omega)
    have hu := usesS_len y
    refine Ev.step (fun k => by rw [cfg_Names.l0]) ?_
    refine Ev.pos h1 (Ev.pos h2 (Ev.pos h1 ?_))
    rw [show rd_T30 s n = y from h3 _, h5]
    refine Ev.pure (Def_eq y) ?_
    by_cases hd : (defN y).2 = true
    · refine Ev.pos hd (Ev.pos (by omega) (Ev.pure (a := acc ++ [(defN y).1]) rfl (Ev.pure (Uses_eq y) (Ev.pos (by simp; omega) ?_))))
      exact Ev.iff (cNames_l0 s hs r (n + 1) _ h4 (by omega) (by simp; omega)) (by simp [namesOf, hd])
    · refine Ev.neg hd (Ev.pure (Uses_eq y) (Ev.pos (by omega) ?_))
      exact Ev.iff (cNames_l0 s hs r (n + 1) _ h4 (by omega) (by simp; omega)) (by simp [namesOf, hd])
theorem Names_ev (s : List Stmt) (hs : s.length ≤ 1000) : Ev (fun k => cfg_Names.f k s) (setS (s.flatMap namesOf)) := cNames_l0 s hs s 0 [] rfl (by omega) (by simp)
theorem names_len (s : List Stmt) : (setS (s.flatMap namesOf)).length ≤ s.length * 3 := by
  have : ∀ l : List Stmt, (l.flatMap namesOf).length ≤ l.length * 3 := by
    intro l
    induction l with
    | nil => simp
    | cons a l ih =>
      have := namesOf_len a
      rw [List.flatMap_cons, List.length_append, List.length_cons]
      omega
  have h1 := setS_len (s.flatMap namesOf)
  have h2 := this s
  omega
end Go.Proofs.Ytnepgcbgkhikkaa.H
/- interp.Run -/
namespace Go.Proofs.Ytnepgcbgkhikkaa.H
open Go.RowKit Go.Proofs.YtnepgcbgkhikkaaW.PrintWords Go.Proofs.YtnepgcbgkhikkaaW.PrintLast Go.Proofs.YtnepgcbgkhikkaaW.PrintMore
set_option linter.unusedVariables false
attribute [local go_sem] max2_int min2_int max_two min_two
def initV (x : ByteArray) : Var := ⟨x, 0, -1, false⟩
def mostV (most : Int) : Int := if 1000 < most then 1000 else most
/-- a run: visit by visit -/
def runV (l : List Stmt) (most : Int) : Nat → Int → List Int → List Bool → List Var → List Visit → Option (List Visit)
  | 0, _, _, _, _, _ => none
  | g + 1, n, ins, ora, vs, out =>
    if 0 ≤ n ∧ n < (l.length : Int) ∧ (out.length : Int) < mostV most then
      match l[n.toNat]? with
      | none => none
      | some st => runV l most g (stepN st n.toNat vs ora) (stepI st ins) (stepO st ora) (stepV st n.toNat vs ins) (out ++ [⟨n, vs⟩])
    else some out
theorem runV_end {l : List Stmt} {most : Int} {g : Nat} {n : Int} {ins : List Int} {ora : List Bool} {vs : List Var} {out : List Visit} (h : ¬ (0 ≤ n ∧ n < (l.length : Int) ∧ (out.length : Int) < mostV most)) : runV l most (g + 1) n ins ora vs out = some out := by
  rw [runV, if_neg h]
theorem runV_more {l : List Stmt} {most : Int} {g : Nat} {n : Nat} {ins : List Int} {ora : List Bool} {vs : List Var} {out : List Visit} {st : Stmt} (h : l[n]? = some st) (ho : (out.length : Int) < mostV most) : runV l most (g + 1) n ins ora vs out = runV l most g (stepN st n vs ora) (stepI st ins) (stepO st ora) (stepV st n vs ins) (out ++ [⟨n, vs⟩]) := by
  have := (List.getElem?_eq_some_iff.1 h).1
  rw [runV, if_pos ⟨by omega, by omega, ho⟩, Int.toNat_natCast, h]
theorem stepV_names (st : Stmt) (n : Nat) (vs : List Var) (ins : List Int) (hn : KnownBy st (vs.map Var.name)) : (stepV st n vs ins).map Var.name = vs.map Var.name := by
  unfold stepV
  by_cases hk : defK st
  · rw [if_pos hk]
    obtain ⟨k, y, h1, h2, h3⟩ := getV_at vs 0 (hn.x hk)
    have ha : atV vs st.x = (k : Int) := by rw [atV, h1, Nat.zero_add]
    have hy : y.name = st.x := by
      have : getV vs st.x = y := h3
      rw [← this]
      unfold getV
      cases hf : vs.find? (fun p => decide (p.name = st.x)) with
      | none =>
        rw [List.find?_eq_none] at hf
        obtain ⟨v, hv, e⟩ := List.mem_map.1 (hn.x hk)
        exact absurd e (by simpa using hf v hv)
      | some v => simpa using List.find?_some hf
    have hm : (madeV st n vs ins).name = st.x := by
      unfold madeV
      repeat' split
      all_goals rfl
    rw [ha, Int.toNat_natCast, List.map_set, hm]
    apply List.ext_getElem?
    intro i
    rw [List.getElem?_set]
    split
    · rename_i e
      subst e
      have hl := (List.getElem?_eq_some_iff.1 h2).1
      rw [List.length_map, if_pos hl, List.getElem?_map, h2]
      simp [hy]
    · rfl
  · rw [if_neg hk]
theorem known_of {l : List Stmt} {st : Stmt} (h : st ∈ l) : KnownBy st (setS (l.flatMap namesOf)) := by
  have hm : ∀ x, x ∈ namesOf st → x ∈ setS (l.flatMap namesOf) := fun x hx => mem_setS.2 (List.mem_flatMap.2 ⟨st, h, hx⟩)
  refine ⟨fun hk => hm _ ?_, fun hk => hm _ ?_, fun hk => hm _ ?_⟩
  · unfold defK at hk
    simp [namesOf, defN, hk]
  · unfold namesOf
    refine List.mem_append_right _ ?_
    by_cases k2 : st.kind = 2
    · unfold usesS
      rw [if_pos k2]
      exact mem_setS.2 (by simp)
    · have : usesS st = [st.y] := by unfold usesS; rw [if_neg k2, if_pos (by omega)]
      rw [this]
      simp
  · unfold namesOf usesS
    rw [if_pos hk]
    exact List.mem_append_right _ (mem_setS.2 (by simp))
theorem Mach.grown {w0 : World} {N : Nat} {w w' : World} {gm : Nat} {A0 : Option Addr} {c0 : Nat} {l : List Stmt} {ins : List Int} {ora : List Bool} {u : Value} {vs : List Var} (h : Mach w0 N w gm A0 c0 l ins ora u vs) {row : Option Nat} (hg : w.grownBy w' row) (hr : ∀ k, row = some k → N ≤ k) : Mach w0 N w' gm A0 c0 l ins ora u vs := by
  obtain ⟨A1, c1, A2, c2, hm, h1, h2, h3, h4⟩ := h.row
  have hgl := h.gml
  have hgN := h.gmN
  have hw := h.N_w
  refine ⟨pw_below_grown h.bel row h.bel.size hg (fun k hk => by have := hr k hk; omega), h.gml, h.gmN, Nat.le_trans h.N_w hg.size, ⟨A1, c1, A2, c2, ?_, h1, h2, h3, h4⟩, ?_⟩
  · rw [hg.block gm (by omega) (fun e => by have := hr gm e.symm; omega)]; exact hm
  · exact Kd.R_grown h.vars hg (fun k hk e => by have := hr k e.symm; omega)
theorem cloneVn (A0 : Option Addr) (c0 n : Nat) (l0 : List Var) (w : World) (hn : n = l0.length) (hr0 : Kd.C k54 w A0 l0.length l0) (hc : l0.length ≤ c0) (hz : l0.length * 40 ≤ 140737488355328) :
    Calls Try.prog 55 #[.slice A0 n c0] w fun e w' => ∃ v0_ : Value, e = .returned v0_ ∧ Kd.R k54 54 w' w.heap.size (fun _ => True) v0_ l0 ∧ Below w.heap.size w w' := by
  subst hn
  exact cloneV A0 c0 l0 w hr0 hc hz
set_option maxRecDepth 100000 in
set_option maxHeartbeats 4000000 in
theorem run0 (K : Nat) (A0 : Option Addr) (c0 : Nat) (l : List Stmt) (A1 : Option Addr) (c1 : Nat) (ins : List Int) (A2 : Option Addr) (c2 : Nat) (ora : List Bool) (most : Int) (names : List ByteArray) (w : World)
    (hr0 : Kd.C k30 w A0 l.length l) (hc0 : l.length ≤ c0) (hr1 : Kd.C (Kd.int .i64) w A1 ins.length ins) (hc1 : ins.length ≤ c1) (hr2 : Kd.C Kd.bool w A2 ora.length ora) (hc2 : ora.length ≤ c2) (hn : cfg_Names.f K l = some names) (hln : names.length ≤ 100000) (hk : ∀ st ∈ l, KnownBy st names) (r : List Visit) (hr : runV l most 1001 0 ins ora (names.map initV) [] = some r) :
    Calls Try.prog 36 #[.slice A0 l.length c0, .slice A1 ins.length c1, .slice A2 ora.length c2, .int .i64 most] w fun e w' => ∃ v0_ : Value, e = .returned v0_ ∧ Kd.S k52 52 w' w.heap.size (fun _ => True) v0_ r ∧ Below w.heap.size w w' := by
  have HR0 := Aside0.mk hr0
  have HR1 := Aside0.mk hr1
  have HR2 := Aside0.mk hr2
  have HC0 := Aside0.mk hc0
  have HN := Aside0.mk hn
  have HK := Aside0.mk hk
  have HV := Aside0.mk hr
  clear hr0 hr1 hr2 hc0 hn hk hr
  have hum := Try.underlying73
  have hus := Try.underlying71
  have huv := Try.underlying54
  go_enter Try.func36, Try.ntmps36
  go_wp2_with (go_at_call 31; go_must (refine (cfg_Names.calls K _ _ l names _ (Kd.C_alloc HR0.out _) HC0.out HN.out).mono ?_); rintro e w1 ⟨v0, rfl, ho0, hb⟩; have HO := Aside0.mk (Kd.R_bound ho0); have HB := Aside0.mk (Below.then (below_alloc (Below.refl w.heap.size w) _) hb); have GM := Aside0.mk (blk_below (blk_new w (.cells #[.slice A1 ins.length c1, .slice A2 ora.length c2, .slice A0 l.length c0, .slice none 0 0] 73)) hb); clear ho0 hb; obtain ⟨An, cn, en⟩ := Kd.R_slice HO.out; subst en)
  have hlt1 : w.heap.size < w1.heap.size := blk_lt GM.out
  go_loopg [23] names.length (fun gg s23 wr => ∃ (kk : Nat) (u : Value), kk ≤ names.length ∧ names.length - kk ≤ gg ∧ s23 = .int .i64 kk ∧ Aside0 (Below w.heap.size w wr) ∧ Aside0 (wr.heap[w.heap.size]? = some (.cells #[.slice A1 ins.length c1, .slice A2 ora.length c2, .slice A0 l.length c0, u] 73 (0, 0))) ∧ Aside0 (Kd.R k54 54 wr w.heap.size (fun k => w1.heap.size ≤ k) u ((names.take kk).map initV)) ∧ Aside0 (Kept w1 wr (fun i => i = w.heap.size ∨ w1.heap.size ≤ i)))
  case atStart => exact ⟨0, _, Nat.zero_le _, by omega, rfl, HB, GM, ⟨Kd.R_nil _ _ _ _ _⟩, ⟨Kept.refl _ _⟩⟩
  case round =>
    obtain ⟨kk, u, hkk, hg, rfl, BW, GW, RW, KW⟩ := hrel
    by_cases hlt : kk < names.length
    · have hltz : (kk : Int) < (names.length : Int) := by omega
      obtain ⟨y, hy⟩ := at_some hlt
      have HCn : Aside0 (Kd.C Kd.string wr An names.length names) := ⟨Kd.C_kept_own HO.out (fun k hk hs => by
        have h1 := hk.2.1
        have h2 := hk.2.2.1
        simp at h1
        rcases hs with hs | hs <;> omega) wr KW.out⟩
      obtain ⟨ad, e1, hx⟩ := at_str HCn.out hy
      cases e1
      have hc3 := (blk_cell GW.out 3).trans rfl
      have hf3 := blk_frozen GW.out 3
      have hbs := BW.out.size
      have HL := Aside0.mk (blk_new wr (.cells #[.string y, .int .i64 0, .int .i64 (-1), .bool false] 54))
      have HLC : Aside0 (Kd.C k54 (wr.alloc (.cells #[.string y, .int .i64 0, .int .i64 (-1), .bool false] 54)) (some ⟨wr.heap.size, 0, none⟩) 1 [initV y]) := ⟨C_cells HL.out ((flatVar.reps (fun _ _ => flatVar.K)).2 rfl) (by simp)⟩
      have HGM := Aside0.mk (blk_lt GW.out)
      go_wp2_with (at_builtin; go_must (refine Kd.R_append_rows k54 (Rr := k54.K (wr.alloc (.cells #[.string y, .int .i64 0, .int .i64 (-1), .bool false] 54))) (w0 := w) w.heap.size rfl (.tmp 31) (.tmp 34) 50 54 _ 40 rfl Try.underlying50 info54 rfl (by decide) (by omega) u ((names.take kk).map initV) [initV y] (some ⟨wr.heap.size, 0, none⟩) 1 1 (fun k => w1.heap.size ≤ k) (fun _ => False) (by go_simp) (by go_simp) (Kd.R_alloc RW.out _) HLC.out (fun x cs hk => flatVar.M.2 (flatVar.K.1 hk)) (fun _ h => h.elim) (fun k hk => by have := KW.out.1; simp at hk; omega) (below_alloc BW.out _) (by simp; omega) (by simp; omega) ?_); intro v1 w2 hr1 hb1 hg1 hat1; have HR1 := Aside0.mk hr1; have HB1 := Aside0.mk hb1; have HG1 := Aside0.mk hg1; have g2 := (hg1.block w.heap.size (blk_lt (blk_alloc GW.out _)) (fun e => by have := RW.out.1 w.heap.size e.symm; omega)).trans (blk_alloc GW.out _); have hc4 := (blk_cell g2 3).trans rfl; have hf4 := blk_frozen g2 3; obtain ⟨Av, cv, ev⟩ := Kd.R_slice HR1.out; subst ev; clear hr1 hb1 hg1 hat1)
      go_roundg (names.length - (kk + 1))
      case measure => omega
      case rel =>
        refine ⟨kk + 1, _, by omega, by omega, by go_num, ⟨below_set HB1.out (Nat.le_refl _)⟩, ⟨(step_put g2).trans rfl⟩, ⟨?_⟩, ⟨?_⟩⟩
        · have e : (names.take (kk + 1)).map initV = (names.take kk).map initV ++ [initV y] := by rw [List.take_add_one, hy]; simp
          rw [e]
          have hln2 : ((names.take kk).map initV ++ [initV y]).length = kk + 1 := by simp; omega
          have hR := HR1.out
          rw [hln2] at hR
          exact Kd.R_kept hR (Kept.setCell (S := fun i => i = w.heap.size) (Kept.refl _ _) (.inl rfl) _) (fun k hk => by omega)
        · exact Kept.setCell (Kept.of_grown HG1.out (Kept.alloc KW.out _) (fun i hi => .inl (.inr (RW.out.1 i hi)))) (.inl (.inl rfl)) _
    · have hltz : ¬ (kk : Int) < (names.length : Int) := by omega
      obtain rfl : kk = names.length := by omega
      have hRv := RW.out
      rw [List.take_length] at hRv
      have HM : Aside0 (Mach w wr.heap.size wr w.heap.size A0 c0 l ins ora u (names.map initV)) :=
        ⟨⟨BW.out, Nat.le_refl _, blk_lt GW.out, Nat.le_refl _, ⟨A1, c1, A2, c2, GW.out, HR1.out, hc1, HR2.out, hc2⟩, Kd.R_mono (Kd.R_bound hRv) (fun k hk => ⟨by have := hk.1; omega, hk.2.2.1⟩)⟩⟩
      clear hRv
      go_wp2
      have hwN := Nat.le_refl wr.heap.size
      generalize hNN : wr.heap.size = N at hwN HM
      have HNN := Aside0.mk hNN
      clear hNN
      obtain ⟨Au, cu, eu⟩ := Kd.R_slice HM.out.vars
      rw [List.length_map] at eu
      subst eu
      go_loopg [12, 13] 1001 (fun gg s12 s13 wx => ∃ (g : Nat) (n : Int) (insx : List Int) (orax : List Bool) (vs : List Var) (out : List Visit), g + 1 ≤ gg ∧ s13 = .int .i64 n ∧ Aside0 (Mach w N wx w.heap.size A0 c0 l insx orax (.slice Au names.length cu) vs) ∧ Aside0 (Kd.S k52 52 wx N (fun k => N ≤ k) s12 out) ∧ Aside0 (runV l most (g + 1) n insx orax vs out = some r) ∧ Aside0 (vs.map Var.name = names))
      case atStart => exact ⟨1000, 0, ins, ora, names.map initV, [], by omega, rfl, HM, ⟨Kd.S_nil _ _ _ _ _⟩, HV, ⟨by simp [initV, Function.comp_def]⟩⟩
      case round =>
        obtain ⟨g, n, insx, orax, vs, out, hgg, rfl, MX, SX, VX, NX⟩ := hrel
        obtain ⟨Ao, co, eo⟩ := Kd.S_slice SX.out
        subst eo
        have hcase : (0 ≤ n ∧ n < (l.length : Int) ∧ ((1000 < most ∧ (out.length : Int) < 1000) ∨ (¬ 1000 < most ∧ (out.length : Int) < most))) ∨ (¬ 0 ≤ n ∨ (0 ≤ n ∧ ¬ n < (l.length : Int)) ∨ (0 ≤ n ∧ n < (l.length : Int) ∧ 1000 < most ∧ ¬ (out.length : Int) < 1000) ∨ (0 ≤ n ∧ n < (l.length : Int) ∧ ¬ 1000 < most ∧ ¬ (out.length : Int) < most)) := by omega
        rcases hcase with ⟨c1, c2, c3⟩ | c
        · obtain ⟨j, rfl⟩ : ∃ j : Nat, n = (j : Int) := ⟨n.toNat, by omega⟩
          obtain ⟨A1x, c1x, A2x, c2x, hm, -, -, -, -⟩ := MX.out.row
          have hc3 := (blk_cell hm 3).trans rfl
          have hvl : names.length = vs.length := by have := congrArg List.length NX.out; simpa using this.symm
          have HVL := Aside0.mk hvl
          obtain ⟨st, hst⟩ : ∃ st, l[j]? = some st := ⟨l[j]'(by omega), List.getElem?_eq_getElem _⟩
          have HST := Aside0.mk hst
          have V2 := VX.out
          rw [runV_more hst (by unfold mostV; split <;> omega)] at V2
          obtain ⟨g', rfl⟩ : ∃ g', g = g' + 1 := by
            cases g with
            | zero => exact absurd V2 (by simp [runV])
            | succ m => exact ⟨m, rfl⟩
          have VY := Aside0.mk V2
          have KX : Aside0 (KnownBy st (vs.map Var.name)) := ⟨by rw [NX.out]; exact HK.out st (List.mem_of_getElem? hst)⟩
          have hNw := MX.out.N_w
          have HLT := Aside0.mk (Kd.S_lt SX.out)
          have HBS := Aside0.mk (Kd.S_base SX.out)
          clear hm hvl hst V2 VX
          rcases c3 with ⟨cm, c3⟩ | ⟨cm, c3⟩
          all_goals
            go_wp2_with (first
              | (go_at_call 55; go_must (refine (cloneVn Au cu names.length vs _ HVL.out (Kd.R_reads' MX.out.vars).2.2 (by have := (Kd.R_reads' MX.out.vars).2.1; have := HVL.out; omega) (by have := HVL.out; omega)).mono ?_); rintro e w2 ⟨v0, rfl, hR2, hB2⟩; obtain ⟨Ac, cc, ec⟩ := Kd.R_slice hR2; subst ec; have HR2 := Aside0.mk hR2; have HB2 := Aside0.mk hB2; have hs2 := hB2.size; clear hR2 hB2)
              | (at_builtin; go_must (refine Kd.S_append k52 (w0 := w2) N rfl (.tmp 54) (.tmp 62) 46 52 _ 32 rfl Try.underlying46 info52 rfl (by decide) (by omega) (.slice Ao out.length co) out ⟨j, vs⟩ [.int .i64 j, .slice Ac vs.length cc] (fun k => N ≤ k) (fun k => wr.heap.size ≤ k) (by go_simp) (by go_simp) (k52_mkM _ _ _ ⟨j, vs⟩ (Kd.R_mono (Kd.R_lower (Kd.R_bound HR2.out) hNw) (fun k hk => hk.2.1))) (fun k hk => ⟨by omega, fun e => by have := HLT.out k e.symm; omega⟩) (fun k hk => by omega) (Kd.S_mono (Kd.S_old SX.out HB2.out) (fun k hk => ⟨hk.1, by omega⟩)) (Below.refl _ _) (by omega) (by omega) ?_); intro v1 w3 hs3 hb3 hg3 hat3; have MX3 := Aside0.mk ((MX.out.below HB2.out).grown hg3 HBS.out); have HS3 := Aside0.mk hs3; clear hs3 hb3 hg3 hat3)
              | (go_at_call 56; go_must (refine (step_calls w N _ w.heap.size A0 c0 l insx orax (.slice Au names.length cu) vs j st MX3.out HR0.out HST.out KX.out).mono ?_); rintro e w4 ⟨rfl, hM4, hK4⟩; have HM4 := Aside0.mk hM4; have HS4 := Aside0.mk (Kd.S_kept HS3.out hK4 (fun k hk h => by omega)); clear hM4 hK4))
            go_roundg (g' + 1)
            case measure => omega
            case rel => exact ⟨g', _, _, _, _, _, by omega, rfl, HM4, HS4, VY, ⟨by rw [stepV_names st j vs insx KX.out]; exact NX.out⟩⟩
        · have e : r = out := by
            have := VX.out
            rw [runV_end (by unfold mostV; split <;> omega)] at this
            exact (Option.some.inj this).symm
          have SE : Aside0 (Kd.S k52 52 wr w.heap.size (fun _ => True) (.slice Ao out.length co) r) := ⟨by rw [e]; exact Kd.S_mono (Kd.S_lower SX.out (by have := MX.out.gml; have := MX.out.gmN; omega)) (fun _ _ => trivial)⟩
          clear e
          rcases c with c | ⟨c1, c2⟩ | ⟨c1, c2, cm, c3⟩ | ⟨c1, c2, cm, c3⟩
          all_goals
            go_wp2
            go_ret
            exact ⟨_, rfl, SE.out, MX.out.bel⟩
theorem ev_rounds {α : Type} {g : Nat → Option α} {r : α} (h : Ev g r) : ∃ k, g k = some r := Ev.rounds h
def nmsV (l : List Stmt) : List ByteArray := setS (l.flatMap namesOf)
def interp_Run.f (l : List Stmt) (ins : List Int) (ora : List Bool) (most : Int) : Option (List Visit) := if l.length ≤ 1000 then runV l most 1001 0 ins ora ((nmsV l).map initV) [] else none
theorem interp_Run.calls (A0 : Option Addr) (c0 : Nat) (l : List Stmt) (A1 : Option Addr) (c1 : Nat) (ins : List Int) (A2 : Option Addr) (c2 : Nat) (ora : List Bool) (most : Int) (r : List Visit) (w : World)
    (hr0 : Kd.C k30 w A0 l.length l) (hc0 : l.length ≤ c0) (hr1 : Kd.C (Kd.int .i64) w A1 ins.length ins) (hc1 : ins.length ≤ c1) (hr2 : Kd.C Kd.bool w A2 ora.length ora) (hc2 : ora.length ≤ c2) (h : interp_Run.f l ins ora most = some r) :
    Calls Try.prog 36 #[.slice A0 l.length c0, .slice A1 ins.length c1, .slice A2 ora.length c2, .int .i64 most] w fun e w' => ∃ v0_ : Value, e = .returned v0_ ∧ Kd.S k52 52 w' w.heap.size (fun _ => True) v0_ r ∧ Below w.heap.size w w' := by
  unfold interp_Run.f at h
  split at h
  case isFalse => cases h
  rename_i hl
  obtain ⟨K, hK⟩ := ev_rounds (Names_ev l hl)
  have hn := names_len l
  exact run0 K A0 c0 l A1 c1 ins A2 c2 ora most _ w hr0 hc0 hr1 hc1 hr2 hc2 hK (by omega) (fun st hs => known_of hs) r h
end Go.Proofs.Ytnepgcbgkhikkaa.H
/- a run as states in line: what interp.Run answers -/
namespace Go.Proofs.Ytnepgcbgkhikkaa.H
open Go.RowKit Go.Proofs.YtnepgcbgkhikkaaW.PrintWords
set_option linter.unusedVariables false
set_option linter.unusedSimpArgs false
/-- where a run is, what is left of its script, and what names have -/
structure St where
  n : Int
  ins : List Int
  ora : List Bool
  vs : List Var
def nextS (l : List Stmt) (s : St) : St :=
  match l[s.n.toNat]? with
  | none => s
  | some st => ⟨stepN st s.n.toNat s.vs s.ora, stepI st s.ins, stepO st s.ora, stepV st s.n.toNat s.vs s.ins⟩
def sN (l : List Stmt) (s : St) : Nat → St
  | 0 => s
  | k + 1 => nextS l (sN l s k)
theorem sN_next (l : List Stmt) (s : St) : ∀ k, sN l (nextS l s) k = sN l s (k + 1)
  | 0 => rfl
  | k + 1 => by rw [sN, sN_next l s k]; rfl
def inS (l : List Stmt) (s : St) : Prop := 0 ≤ s.n ∧ s.n < (l.length : Int)
instance (l : List Stmt) (s : St) : Decidable (inS l s) := by unfold inS; infer_instance
def visS (s : St) : Visit := ⟨s.n, s.vs⟩
def visN (l : List Stmt) (s : St) (m : Nat) : List Visit := (List.range m).map fun i => visS (sN l s i)
theorem visN_len (l : List Stmt) (s : St) (m : Nat) : (visN l s m).length = m := by simp [visN]
theorem visN_at {l : List Stmt} {s : St} {m i : Nat} (h : i < m) : (visN l s m)[i]? = some (visS (sN l s i)) := by simp [visN, h]
theorem visN_cons (l : List Stmt) (s : St) (m : Nat) : visN l s (m + 1) = visS s :: visN l (nextS l s) m := by
  unfold visN
  rw [List.range_succ_eq_map, List.map_cons, List.map_map]
  congr 1
  apply List.map_congr_left
  intro i _
  show visS (sN l s (i + 1)) = visS (sN l (nextS l s) i)
  rw [sN_next]
theorem inS_at {l : List Stmt} {s : St} (h : inS l s) : ∃ st, l[s.n.toNat]? = some st ∧ st ∈ l ∧ nextS l s = ⟨stepN st s.n.toNat s.vs s.ora, stepI st s.ins, stepO st s.ora, stepV st s.n.toNat s.vs s.ins⟩ := by
  obtain ⟨h0, h1⟩ := h
  have hl : s.n.toNat < l.length := by omega
  have e : l[s.n.toNat]? = some l[s.n.toNat] := List.getElem?_eq_getElem hl
  refine ⟨_, e, List.getElem_mem hl, ?_⟩
  unfold nextS
  rw [e]
theorem runV_on {l : List Stmt} {most : Int} {g : Nat} {s : St} {out : List Visit} (h : inS l s) (ho : (out.length : Int) < mostV most) :
    runV l most (g + 1) s.n s.ins s.ora s.vs out = runV l most g (nextS l s).n (nextS l s).ins (nextS l s).ora (nextS l s).vs (out ++ [visS s]) := by
  obtain ⟨st, e, -, hn⟩ := inS_at h
  rw [runV, if_pos ⟨h.1, h.2, ho⟩, e, hn]
  rfl
theorem runV_spec (l : List Stmt) (most : Int) : ∀ (g : Nat) (s : St) (out : List Visit), 0 < g → mostV most - (out.length : Int) < (g : Int) →
    ∃ m, runV l most g s.n s.ins s.ora s.vs out = some (out ++ visN l s m) ∧ (∀ i, i < m → inS l (sN l s i)) ∧ (m = 0 ∨ ((out.length + m : Nat) : Int) ≤ mostV most) ∧ (¬ inS l (sN l s m) ∨ mostV most ≤ ((out.length + m : Nat) : Int))
  | 0, s, out, h0, hg => by omega
  | g + 1, s, out, h0, hg => by
    by_cases c : inS l s ∧ (out.length : Int) < mostV most
    · obtain ⟨m, h1, h2, h3, h4⟩ := runV_spec l most g (nextS l s) (out ++ [visS s]) (by omega) (by simp; omega)
      refine ⟨m + 1, ?_, ?_, ?_, ?_⟩
      · rw [runV_on c.1 c.2, h1, visN_cons, List.append_assoc]; rfl
      · intro i hi
        cases i with
        | zero => exact c.1
        | succ i => rw [← sN_next]; exact h2 i (by omega)
      · simp at h3 ⊢; omega
      · rw [← sN_next]; simp at h4 ⊢; rcases h4 with h4 | h4
        · exact .inl h4
        · right; omega
    · refine ⟨0, ?_, by omega, .inl rfl, ?_⟩
      · rw [runV_end (by unfold inS at c; omega)]; simp [visN]
      · unfold inS at c ⊢; simp [sN]; omega
def s0 (l : List Stmt) (ins : List Int) (ora : List Bool) : St := ⟨0, ins, ora, (nmsV l).map initV⟩
theorem mostV_le (most : Int) : mostV most ≤ 1000 ∧ mostV most ≤ most := by unfold mostV; split <;> omega
theorem mostV_small {most : Int} (h : most ≤ 1000) : mostV most = most := by unfold mostV; rw [if_neg (by omega)]
/-- what a run answers: the states from the first one on, as long as they are within and as many are allowed -/
theorem Run_spec (l : List Stmt) (ins : List Int) (ora : List Bool) (most : Int) (hl : l.length ≤ 1000) :
    ∃ m, interp_Run.f l ins ora most = some (visN l (s0 l ins ora) m) ∧ (∀ i, i < m → inS l (sN l (s0 l ins ora) i)) ∧ (m = 0 ∨ (m : Int) ≤ mostV most) ∧ (¬ inS l (sN l (s0 l ins ora) m) ∨ mostV most ≤ (m : Int)) := by
  obtain ⟨m, h1, h2, h3, h4⟩ := runV_spec l most 1001 (s0 l ins ora) [] (by omega) (by have := (mostV_le most).1; simp; omega)
  refine ⟨m, ?_, h2, by simpa using h3, by simpa using h4⟩
  unfold interp_Run.f
  rw [if_pos hl]
  rw [List.nil_append] at h1
  exact h1
theorem names_next {l : List Stmt} {s : St} (h : inS l s) (hn : s.vs.map Var.name = nmsV l) : (nextS l s).vs.map Var.name = nmsV l := by
  obtain ⟨st, e, hm, he⟩ := inS_at h
  rw [he]
  show (stepV st s.n.toNat s.vs s.ins).map Var.name = nmsV l
  rw [stepV_names st _ _ _ (by rw [hn]; exact known_of hm), hn]
theorem names_s0 (l : List Stmt) (ins : List Int) (ora : List Bool) : (s0 l ins ora).vs.map Var.name = nmsV l := by
  simp [s0, initV, Function.comp_def]
theorem names_sN {l : List Stmt} {s : St} (hn : s.vs.map Var.name = nmsV l) : ∀ (m : Nat), (∀ i, i < m → inS l (sN l s i)) → (sN l s m).vs.map Var.name = nmsV l
  | 0, _ => hn
  | m + 1, h => names_next (h m (by omega)) (names_sN hn m (fun i hi => h i (by omega)))
end Go.Proofs.Ytnepgcbgkhikkaa.H
/- on a trace: where it leads, who wrote a name last, what is read later -/
namespace Go.Proofs.Ytnepgcbgkhikkaa.H
open Go.RowKit Go.Proofs.YtnepgcbgkhikkaaW.PrintWords
set_option linter.unusedVariables false
set_option linter.unusedSimpArgs false
theorem mem_srtI2 {a b x : Int} : x ∈ srtI2 a b ↔ x = a ∨ x = b := by
  unfold srtI2
  split
  · simp
  · split
    · simp; omega
    · simp; omega
theorem stmt_at2 {l : List Stmt} {s : St} (h : inS l s) {st : Stmt} (e : l[s.n.toNat]? = some st) : at_ l s.n = st := by
  unfold at_ rd_T30
  rw [List.getD_eq_getElem?_getD, e]
  rfl
theorem leads {l : List Stmt} {s : St} (h : inS l s) (h' : inS l (nextS l s)) : (nextS l s).n ∈ nxt l s.n := by
  obtain ⟨st, e, hm, hn⟩ := inS_at h
  have ha := stmt_at2 h e
  have hq : 0 ≤ (nextS l s).n ∧ (nextS l s).n < (l.length : Int) := h'
  unfold nxt
  rw [if_pos (show 0 ≤ s.n ∧ s.n < (l.length : Int) from h), List.mem_filter, ha]
  refine ⟨?_, by simp [withinB]; exact hq⟩
  rw [hn] at hq ⊢
  show stepN st s.n.toNat s.vs s.ora ∈ nxtRaw st s.n
  replace hq : 0 ≤ stepN st s.n.toNat s.vs s.ora ∧ _ := hq
  have h0 : ((s.n.toNat : Nat) : Int) = s.n := by have := h.1; omega
  unfold stepN at hq ⊢
  unfold nxtRaw
  by_cases k7 : st.kind = 7
  · rw [if_pos k7, if_pos k7, mem_srtI2]; split <;> simp
  · rw [if_neg k7] at hq ⊢
    rw [if_neg k7]
    by_cases k8 : st.kind = 8
    · rw [if_pos k8, if_pos k8]; simp
    · rw [if_neg k8] at hq ⊢
      rw [if_neg k8]
      by_cases k9 : st.kind = 9
      · rw [if_pos k9] at hq; omega
      · rw [if_neg k9, if_neg k9, h0]; simp
theorem defB_at {l : List Stmt} {s : St} (h : inS l s) {st : Stmt} (e : l[s.n.toNat]? = some st) (x : ByteArray) : defB (at_ l s.n) x = true ↔ defK st ∧ st.x = x := by
  rw [stmt_at2 h e, defB_iff]
  unfold defN defK
  split
  · rename_i c; simp [c]
  · rename_i c; simp [c]
theorem nodup_names {l : List Stmt} {s : St} (hn : s.vs.map Var.name = nmsV l) {i j : Nat} {v w : Var} (hi : s.vs[i]? = some v) (hj : s.vs[j]? = some w) (e : v.name = w.name) : i = j := by
  have hp : ((s.vs.map Var.name).map toL).Pairwise (· < ·) := by rw [hn]; exact setS_sorted (l.flatMap namesOf)
  have hq : ∀ {i j : Nat} {v w : Var}, s.vs[i]? = some v → s.vs[j]? = some w → v.name = w.name → ¬ i < j := by
    intro i j v w hi hj e hlt
    obtain ⟨hil, ei⟩ := List.getElem?_eq_some_iff.1 hi
    obtain ⟨hjl, ej⟩ := List.getElem?_eq_some_iff.1 hj
    have := List.pairwise_iff_getElem.1 hp i j (by simpa using hil) (by simpa using hjl) hlt
    simp only [List.getElem_map, ei, ej, e] at this
    exact List.lt_irrefl _ this
  have h1 := hq hi hj e
  have h2 := hq hj hi e.symm
  omega
/-- what a name has behind a statement: what it had, if that doesn't define it, or what was made -/
theorem vars_next {l : List Stmt} {s : St} (h : inS l s) (hn : s.vs.map Var.name = nmsV l) {st : Stmt} (e : l[s.n.toNat]? = some st) {i : Nat} {v : Var} (hv : (nextS l s).vs[i]? = some v) :
    (¬ (defK st ∧ st.x = v.name) ∧ s.vs[i]? = some v) ∨ (defK st ∧ v = madeV st s.n.toNat s.vs s.ins) := by
  obtain ⟨st', e', hm, hx⟩ := inS_at h
  obtain rfl : st = st' := by rw [e] at e'; exact Option.some.inj e'
  rw [hx] at hv
  replace hv : (stepV st s.n.toNat s.vs s.ins)[i]? = some v := hv
  unfold stepV at hv
  by_cases hk : defK st
  · rw [if_pos hk] at hv
    have hkn : KnownBy st (s.vs.map Var.name) := by rw [hn]; exact known_of hm
    obtain ⟨k, y, h1, h2, h3⟩ := getV_at s.vs 0 (hkn.x hk)
    have ha : atV s.vs st.x = (k : Int) := by rw [atV, h1, Nat.zero_add]
    have hy : y.name = st.x := by
      have : getV s.vs st.x = y := h3
      rw [← this]
      unfold getV
      cases hf : s.vs.find? (fun p => decide (p.name = st.x)) with
      | none =>
        rw [List.find?_eq_none] at hf
        obtain ⟨w, hw, ew⟩ := List.mem_map.1 (hkn.x hk)
        exact absurd ew (by simpa using hf w hw)
      | some w => simpa using List.find?_some hf
    rw [ha, Int.toNat_natCast, List.getElem?_set] at hv
    split at hv
    · rename_i ei
      have hl := (List.getElem?_eq_some_iff.1 h2).1
      rw [if_pos hl] at hv
      exact .inr ⟨hk, (Option.some.inj hv).symm⟩
    · rename_i ei
      refine .inl ⟨fun hd => ei ?_, hv⟩
      exact nodup_names hn h2 hv (hy.trans hd.2)
  · rw [if_neg hk] at hv
    exact .inl ⟨fun hd => hk hd.1, hv⟩
theorem madeV_name (st : Stmt) (n : Nat) (vs : List Var) (ins : List Int) : (madeV st n vs ins).name = st.x ∧ (madeV st n vs ins).last = (n : Int) := by
  unfold madeV
  repeat' split
  all_goals exact ⟨rfl, rfl⟩
/-- who wrote a name last defines it, and reaches the statement; what never was written is 0 -/
def okV (l : List Stmt) (n : Int) (v : Var) : Prop := (v.last < 0 → v.n = 0 ∧ v.taint = false ∧ v.last = -1) ∧ (0 ≤ v.last → reachP l n v.name v.last)
theorem okV_next {l : List Stmt} {s : St} (h : inS l s) (h' : inS l (nextS l s)) (hn : s.vs.map Var.name = nmsV l) (ho : ∀ (i : Nat) v, s.vs[i]? = some v → okV l s.n v) : ∀ (i : Nat) v, (nextS l s).vs[i]? = some v → okV l (nextS l s).n v := by
  intro i v hv
  obtain ⟨st, e, hm, hx⟩ := inS_at h
  have hl := leads h h'
  have h0 : ((s.n.toNat : Nat) : Int) = s.n := by have := h.1; omega
  rcases vars_next h hn e hv with ⟨hd, hv⟩ | ⟨hk, rfl⟩
  · obtain ⟨o1, o2⟩ := ho i v hv
    refine ⟨o1, fun hq => ?_⟩
    obtain ⟨r1, r2, r3, r4, r5, r6⟩ := o2 hq
    refine ⟨h'.1, h'.2, r3, r4, r5, .step r6 ?_ hl⟩
    unfold keepS
    rw [Bool.not_eq_true', ← Bool.not_eq_true, defB_at h e]
    exact hd
  · obtain ⟨q1, q2⟩ := madeV_name st s.n.toNat s.vs s.ins
    refine ⟨fun hq => by rw [q2] at hq; omega, fun _ => ?_⟩
    rw [q1, q2, h0]
    exact ⟨h'.1, h'.2, h.1, h.2, (defB_at h e _).2 ⟨hk, rfl⟩, .base hl⟩
theorem okV_all {l : List Stmt} {s : St} (hn : s.vs.map Var.name = nmsV l) (ho : ∀ (i : Nat) v, s.vs[i]? = some v → okV l s.n v) : ∀ (m : Nat), (∀ i, i ≤ m → inS l (sN l s i)) → ∀ (i : Nat) v, (sN l s m).vs[i]? = some v → okV l (sN l s m).n v
  | 0, _ => ho
  | m + 1, h => okV_next (h m (by omega)) (h (m + 1) (by omega)) (names_sN hn m (fun i hi => h i (by omega))) (okV_all hn ho m (fun i hi => h i (by omega)))
theorem okV_s0 (l : List Stmt) (ins : List Int) (ora : List Bool) : ∀ (i : Nat) v, (s0 l ins ora).vs[i]? = some v → okV l (s0 l ins ora).n v := by
  intro i v hv
  have : ((nmsV l).map initV)[i]? = some v := hv
  rw [List.getElem?_map] at this
  obtain ⟨x, -, rfl⟩ := Option.map_eq_some_iff.1 this
  exact ⟨fun _ => ⟨rfl, rfl, rfl⟩, fun h => absurd h (by simp [initV])⟩
/-- from a state on: a name that was not written leads there -/
theorem unwritten {l : List Stmt} {s : St} (x : ByteArray) : ∀ (m : Nat), (∀ i, i ≤ m → inS l (sN l s i)) → (∀ i, i < m → defB (at_ l (sN l s i).n) x = false) → Rch l (keepS l x) [s.n] (sN l s m).n
  | 0, _, _ => .base (by simp [sN])
  | m + 1, h, hd => by
    refine .step (unwritten x m (fun i hi => h i (by omega)) (fun i hi => hd i (by omega))) ?_ (leads (h m (by omega)) (h (m + 1) (by omega)))
    unfold keepS
    rw [hd m (by omega)]; rfl
end Go.Proofs.Ytnepgcbgkhikkaa.H
