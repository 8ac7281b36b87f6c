import Derived.Test.YthpejcnldecmoaaPlanLib
namespace Go.Proofs.Ythpejcnldecmoaa.H
open Go.RowKit Go.Proofs.YthpejcnldecmoaaW.PrintWords Go.Proofs.YthpejcnldecmoaaW.PrintLast Go.Proofs.YthpejcnldecmoaaW.PrintMore
set_option linter.unusedVariables false
set_option maxHeartbeats 4000000 in
/-- slices.IndexFunc at lambrequin/api.Literal, a struct -/
theorem IndexFuncLiter (g : Nat) (lb : Array Value) (eg : ∀ args w, (callFunc g args).run Try.prog w = .ok (.enter g args) w) (p : Liter → Bool)
    (A0 : Option Addr) (c0 : Nat) (l0 : List Liter) (w : World) (hr0 : Kd.C kLiter w A0 l0.length l0) (hp : PredA Try.prog g lb kLiter p w l0) :
    Calls Try.prog 54 #[.slice A0 l0.length c0, .func (.func g) #[] lb] w fun e w' => e = .returned (.int .i64 (idxP p l0 0)) ∧ Below w.heap.size w w' := by
  have HR := Aside0.mk hr0
  have HP := Aside0.mk hp
  have hl : l0.length ≤ 9223372036854775807 := hr0.2.1
  clear hr0 hp
  go_enter Try.func54, Try.ntmps54
  go_wp2
  go_loopg [5, 8] l0.length (fun gg _ s8 wr => ∃ kk : Nat, kk ≤ l0.length ∧ l0.length - kk ≤ gg ∧ s8 = .int .i64 kk ∧ Aside0 (Below w.heap.size w wr) ∧ Aside0 (idxP p l0 0 = idxP p (l0.drop kk) kk))
  case atStart => exact ⟨0, Nat.zero_le _, by omega, rfl, ⟨Below.refl _ w⟩, ⟨rfl⟩⟩
  case round =>
    obtain ⟨kk, hkk, hg, rfl, BW, A⟩ := hrel
    by_cases hlt : kk < l0.length
    · have hltz : (kk : Int) < (l0.length : Int) := by omega
      obtain ⟨y, hy⟩ := at_some hlt
      have hat := at_Liter HR.out hy
      have HA := Aside0.mk (A.out.trans (by rw [drop_cons hy]))
      have hym := List.mem_of_getElem? hy
      clear A hy
      obtain ⟨ad, A2, c2, e1, hx0, hx1, hx2, hx3, hx4, hx5, hx6, hx7, hx8, hx9, hx10, hx11, hx12, hx13, l2, g2⟩ := hat
      cases e1
      replace hx0 := Below.old BW.out hx0; replace hx1 := Below.old BW.out hx1; replace hx2 := Below.old BW.out hx2; replace hx3 := Below.old BW.out hx3; replace hx4 := Below.old BW.out hx4; replace hx5 := Below.old BW.out hx5; replace hx6 := Below.old BW.out hx6; replace hx7 := Below.old BW.out hx7; replace hx8 := Below.old BW.out hx8; replace hx9 := Below.old BW.out hx9; replace hx10 := Below.old BW.out hx10; replace hx11 := Below.old BW.out hx11; replace hx12 := Below.old BW.out hx12; replace hx13 := Below.old BW.out hx13
      have hcall := HP.out wr y [.int .i64 y.kind, .string y.atom.pred, .slice A2 y.atom.args.length c2, .string y.op, .bool y.l.isVar, .string y.l.name, .bool y.l.val.isSym, .string y.l.val.sym, .int .i64 y.l.val.n, .bool y.r.isVar, .string y.r.name, .bool y.r.val.isSym, .string y.r.val.sym, .int .i64 y.r.val.n] hym BW.out (kLiter_mk wr y l2 (Kd.C_below g2 BW.out))
      cases hq : p y with
      | true =>
        rw [hq] at hcall
        go_wp2_with (go_at_fn g; refine hcall.mono ?_; rintro e w' ⟨rfl, hb'⟩)
        go_ret
        exact ⟨by rw [HA.out, idxP, if_pos hq]; rfl, Below.then BW.out hb'⟩
      | false =>
        rw [hq] at hcall
        go_wp2_with (go_at_fn g; refine hcall.mono ?_; rintro e w' ⟨rfl, hb'⟩)
        go_roundg (l0.length - (kk + 1))
        case measure => omega
        case rel => exact ⟨kk + 1, by omega, by omega, by go_num, ⟨Below.then BW.out hb'⟩, ⟨by rw [HA.out, idxP, if_neg (by rw [hq]; decide)]⟩⟩
    · have hltz : ¬ (kk : Int) < (l0.length : Int) := by omega
      obtain rfl : kk = l0.length := by omega
      go_wp2
      go_ret
      exact ⟨by rw [A.out]; simp [idxP], BW.out⟩
/-- slices.ContainsFunc at lambrequin/api.Literal -/
theorem ContainsFuncLiter (g : Nat) (lb : Array Value) (eg : ∀ args w, (callFunc g args).run Try.prog w = .ok (.enter g args) w) (p : Liter → Bool)
    (A0 : Option Addr) (c0 : Nat) (l0 : List Liter) (w : World) (hr0 : Kd.C kLiter w A0 l0.length l0) (hp : PredA Try.prog g lb kLiter p w l0) :
    Calls Try.prog 40 #[.slice A0 l0.length c0, .func (.func g) #[] lb] w fun e w' => e = .returned (.bool (l0.any p)) ∧ Below w.heap.size w w' := by
  have HR := Aside0.mk hr0
  have HP := Aside0.mk hp
  clear hr0 hp
  go_enter Try.func40, Try.ntmps40
  go_wp2_with (go_at_call 54; go_must (refine (IndexFuncLiter g lb eg p _ _ _ _ HR.out HP.out).mono ?_); rintro e w' ⟨rfl, hb⟩)
  go_ret
  exact ⟨by rw [← idxP_any]; rfl, hb⟩
end Go.Proofs.Ythpejcnldecmoaa.H
