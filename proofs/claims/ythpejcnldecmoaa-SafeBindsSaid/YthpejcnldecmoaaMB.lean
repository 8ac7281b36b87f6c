/- Texts of this seat that its laws share, joined. -/
import Derived.Test.YthpejcnldecmoaaMA
import Derived.Deep.RegionHeld3
import Derived.BigQuiet
import Derived.Deep.QuietTactic
import Derived.Deep.RegionLaw
import Derived.Deep.DeepCutAuto
import Derived.Deep.CutBlock
namespace Go.Proofs.Ythpejcnldecmoaa.H
open Go.RowKit Go.Proofs.YthpejcnldecmoaaW.PrintWords Go.Proofs.YthpejcnldecmoaaW.PrintLast Go.Proofs.YthpejcnldecmoaaW.PrintMore
set_option linter.unusedVariables false
set_option maxHeartbeats 1000000 in
/-- slices.IndexFunc at string -/
theorem IndexFuncString (g : Nat) (lb : Array Value) (eg : ∀ args w, (callFunc g args).run Try.prog w = .ok (.enter g args) w) (p : ByteArray → Bool)
    (A0 : Option Addr) (c0 : Nat) (l0 : List ByteArray) (w : World) (hr0 : Kd.C Kd.string w A0 l0.length l0) (hp : PredK Try.prog g lb Value.string p w l0) :
    Calls Try.prog 48 #[.slice A0 l0.length c0, .func (.func g) #[] lb] w fun e w' => e = .returned (.int .i64 (idxP p l0 0)) ∧ Below w.heap.size w w' := by
  have HR := Aside0.mk hr0
  have HP := Aside0.mk hp
  have hl : l0.length ≤ 9223372036854775807 := hr0.2.1
  clear hr0 hp
  go_enter Try.func48, Try.ntmps48
  go_wp2
  go_loopg [5, 8] l0.length (fun gg _ s8 wr => ∃ kk : Nat, kk ≤ l0.length ∧ l0.length - kk ≤ gg ∧ s8 = .int .i64 kk ∧ Aside0 (Below w.heap.size w wr) ∧ Aside0 (idxP p l0 0 = idxP p (l0.drop kk) kk))
  case atStart => exact ⟨0, Nat.zero_le _, by omega, rfl, ⟨Below.refl _ w⟩, ⟨rfl⟩⟩
  case round =>
    obtain ⟨kk, hkk, hg, rfl, BW, A⟩ := hrel
    by_cases hlt : kk < l0.length
    · have hltz : (kk : Int) < (l0.length : Int) := by omega
      obtain ⟨y, hy⟩ := at_some hlt
      obtain ⟨ad, e1, hx⟩ := at_str HR.out hy
      cases e1
      replace hx := Below.old BW.out hx
      have hcall := HP.out wr y (List.mem_of_getElem? hy) BW.out
      have HA := Aside0.mk (A.out.trans (by rw [drop_cons hy]))
      clear A hy
      cases hq : p y with
      | true =>
        rw [hq] at hcall
        go_wp2_with (go_at_fn g; refine hcall.mono ?_; rintro e w' ⟨rfl, hb'⟩)
        go_ret
        exact ⟨by rw [HA.out, idxP, if_pos hq]; rfl, Below.then BW.out hb'⟩
      | false =>
        rw [hq] at hcall
        go_wp2_with (go_at_fn g; refine hcall.mono ?_; rintro e w' ⟨rfl, hb'⟩)
        go_roundg (l0.length - (kk + 1))
        case measure => omega
        case rel => exact ⟨kk + 1, by omega, by omega, by go_num, ⟨Below.then BW.out hb'⟩, ⟨by rw [HA.out, idxP, if_neg (by rw [hq]; decide)]⟩⟩
    · have hltz : ¬ (kk : Int) < (l0.length : Int) := by omega
      obtain rfl : kk = l0.length := by omega
      go_wp2
      go_ret
      exact ⟨by rw [A.out]; simp [idxP], BW.out⟩
set_option maxHeartbeats 1000000 in
/-- slices.IndexFunc at int -/
theorem IndexFuncInt (g : Nat) (lb : Array Value) (eg : ∀ args w, (callFunc g args).run Try.prog w = .ok (.enter g args) w) (p : Int → Bool)
    (A0 : Option Addr) (c0 : Nat) (l0 : List Int) (w : World) (hr0 : Kd.C (Kd.int .i64) w A0 l0.length l0) (hp : PredK Try.prog g lb (Value.int .i64) p w l0) :
    Calls Try.prog 57 #[.slice A0 l0.length c0, .func (.func g) #[] lb] w fun e w' => e = .returned (.int .i64 (idxP p l0 0)) ∧ Below w.heap.size w w' := by
  have HR := Aside0.mk hr0
  have HP := Aside0.mk hp
  have hl : l0.length ≤ 9223372036854775807 := hr0.2.1
  clear hr0 hp
  go_enter Try.func57, Try.ntmps57
  go_wp2
  go_loopg [5, 8] l0.length (fun gg _ s8 wr => ∃ kk : Nat, kk ≤ l0.length ∧ l0.length - kk ≤ gg ∧ s8 = .int .i64 kk ∧ Aside0 (Below w.heap.size w wr) ∧ Aside0 (idxP p l0 0 = idxP p (l0.drop kk) kk))
  case atStart => exact ⟨0, Nat.zero_le _, by omega, rfl, ⟨Below.refl _ w⟩, ⟨rfl⟩⟩
  case round =>
    obtain ⟨kk, hkk, hg, rfl, BW, A⟩ := hrel
    by_cases hlt : kk < l0.length
    · have hltz : (kk : Int) < (l0.length : Int) := by omega
      obtain ⟨y, hy⟩ := at_some hlt
      obtain ⟨ad, e1, hx⟩ := at_int HR.out hy
      cases e1
      replace hx := Below.old BW.out hx
      have hcall := HP.out wr y (List.mem_of_getElem? hy) BW.out
      have HA := Aside0.mk (A.out.trans (by rw [drop_cons hy]))
      clear A hy
      cases hq : p y with
      | true =>
        rw [hq] at hcall
        go_wp2_with (go_at_fn g; refine hcall.mono ?_; rintro e w' ⟨rfl, hb'⟩)
        go_ret
        exact ⟨by rw [HA.out, idxP, if_pos hq]; rfl, Below.then BW.out hb'⟩
      | false =>
        rw [hq] at hcall
        go_wp2_with (go_at_fn g; refine hcall.mono ?_; rintro e w' ⟨rfl, hb'⟩)
        go_roundg (l0.length - (kk + 1))
        case measure => omega
        case rel => exact ⟨kk + 1, by omega, by omega, by go_num, ⟨Below.then BW.out hb'⟩, ⟨by rw [HA.out, idxP, if_neg (by rw [hq]; decide)]⟩⟩
    · have hltz : ¬ (kk : Int) < (l0.length : Int) := by omega
      obtain rfl : kk = l0.length := by omega
      go_wp2
      go_ret
      exact ⟨by rw [A.out]; simp [idxP], BW.out⟩
/-- slices.ContainsFunc at string -/
theorem ContainsFuncString (g : Nat) (lb : Array Value) (eg : ∀ args w, (callFunc g args).run Try.prog w = .ok (.enter g args) w) (p : ByteArray → Bool)
    (A0 : Option Addr) (c0 : Nat) (l0 : List ByteArray) (w : World) (hr0 : Kd.C Kd.string w A0 l0.length l0) (hp : PredK Try.prog g lb Value.string p w l0) :
    Calls Try.prog 63 #[.slice A0 l0.length c0, .func (.func g) #[] lb] w fun e w' => e = .returned (.bool (l0.any p)) ∧ Below w.heap.size w w' := by
  have HR := Aside0.mk hr0
  have HP := Aside0.mk hp
  clear hr0 hp
  go_enter Try.func63, Try.ntmps63
  go_wp2_with (go_at_call 48; go_must (refine (IndexFuncString g lb eg p _ _ _ _ HR.out HP.out).mono ?_); rintro e w' ⟨rfl, hb⟩)
  go_ret
  exact ⟨by rw [← idxP_any]; rfl, hb⟩
set_option maxHeartbeats 4000000 in
set_option maxRecDepth 100000 in
/-- slices.DeleteFunc at int: elements of one cell -/
theorem DeleteFuncInt (g : Nat) (lb : Array Value) (eg : ∀ args w, (callFunc g args).run Try.prog w = .ok (.enter g args) w) (p : Int → Bool) (base : Nat) (ok : Nat → Prop)
    (v : Value) (l : List Int) (w : World) (ho : Kd.R (Kd.int .i64) 3 w base ok v l) (hp : PredG Try.prog g lb (Value.int .i64) p w v.ownBlock l) :
    Calls Try.prog 55 #[v, .func (.func g) #[] lb] w fun e w' => ∃ v', e = .returned v' ∧ Kd.R (Kd.int .i64) 3 w' base ok v' (l.filter fun x => !p x) ∧ w.grownBy w' v.ownBlock ∧ v'.ownBlock = v.ownBlock := by
  obtain ⟨A, c, rfl, hlc, hC⟩ := Kd.R_reads ho
  have hl : l.length ≤ 9223372036854775807 := hC.2.1
  have hIF := IndexFuncInt g lb eg p A c l w hC hp.k
  rcases idxP_cases p l 0 with ⟨e1, hall⟩ | ⟨k0, y0, e1, hy0, ht, hall⟩
  · rw [e1] at hIF
    have hf : (l.filter fun x => !p x) = l := List.filter_eq_self.2 (fun x hx => by simp [hall x hx])
    have HO := Aside0.mk ho
    have HF := Aside0.mk hf
    clear ho hp hC hf hall e1
    go_enter Try.func55, Try.ntmps55
    go_wp2_with (go_at_call 57; refine hIF.mono ?_; rintro e w' ⟨rfl, hb⟩)
    go_ret
    exact ⟨_, rfl, by rw [HF.out]; exact Kd.R_below HO.out hb, grown_of_below hb _, rfl⟩
  · rw [e1, Nat.zero_add] at hIF
    have hk0 : k0 < l.length := (List.getElem?_eq_some_iff.1 hy0).1
    obtain ⟨b, cap, e2, hbb, hbl, cells0, hcells0⟩ := Kd.R_form ho (by omega)
    cases e2
    have hne1 : ((k0 : Int) == -1) = false := beq_eq_false_iff_ne.2 (by omega)
    have HI0 := Aside0.mk (KeptIv.start (q := fun x => !p x) (fun x hx => by simp [hall x hx]) hy0 (by simp [ht]))
    have HO := Aside0.mk ho
    have HP := Aside0.mk hp
    clear ho hp hC hall e1 hy0 ht hcells0
    go_enter Try.func55, Try.ntmps55
    go_wp2_with (go_at_call 57; refine hIF.mono ?_; rintro e w0 ⟨rfl, hb0⟩; have HB0 := Aside0.mk hb0; clear hb0)
    go_loopg [5, 6, 7] l.length (fun gg s5 s6 _ wr => ∃ (i j : Nat) (dk : List Int), s5 = .int .i64 i ∧ s6 = .int .i64 j ∧ j ≤ l.length ∧ i < j ∧ l.length - j ≤ gg ∧ Aside0 (KeptIv (fun x => !p x) l j i dk) ∧ Aside0 (Kd.R (Kd.int .i64) 3 wr base ok (.slice (some ⟨b, 0, none⟩) l.length c) dk) ∧ Aside0 (w.grownBy wr (some b)))
    case atStart => exact ⟨k0, k0 + 1, l, rfl, by go_num, by omega, by omega, by omega, HI0, ⟨Kd.R_below HO.out HB0.out⟩, ⟨grown_of_below HB0.out _⟩⟩
    case round =>
      clear HI0 HO
      obtain ⟨i, j, dk, rfl, rfl, hjl, hij, hgg, HI, HO, HG⟩ := hrel
      have hdl := HI.out.len
      by_cases hlt : j < l.length
      · have hltz : (j : Int) < (l.length : Int) := by omega
        obtain ⟨y, hy⟩ := at_some hlt
        have hyd : dk[j]? = some y := by
          have := congrArg (fun z => z[0]?) HI.out.high
          simpa [hy] using this
        obtain ⟨-, -, hC⟩ := Kd.R_reads' HO.out
        obtain ⟨ad, e1, hx⟩ := at_int hC hyd
        cases e1
        rw [add_plain] at hx
        have hcall := HP.out wr y (List.mem_of_getElem? hy) HG.out
        have HY := Aside0.mk hy
        clear hy hyd hC
        cases hq : p y with
        | true =>
          rw [hq] at hcall
          go_wp2_with (go_at_fn g; refine hcall.mono ?_; rintro e w' ⟨rfl, hb'⟩; have HB' := Aside0.mk hb'; clear hb')
          go_roundg (l.length - (j + 1))
          case measure => omega
          case rel => exact ⟨i, j + 1, dk, rfl, by go_num, by omega, by omega, by omega, ⟨HI.out.skip HY.out (by simp [hq])⟩, ⟨Kd.R_below HO.out HB'.out⟩, ⟨grown_trans HG.out (grown_of_below HB'.out _)⟩⟩
        | false =>
          rw [hq] at hcall
          obtain ⟨yi, hyi⟩ : ∃ yi, dk[i]? = some yi := at_some (by omega)
          obtain ⟨-, -, hC⟩ := Kd.R_reads' HO.out
          obtain ⟨ad, e1, hxi⟩ := at_int hC hyi
          cases e1
          rw [add_plain] at hxi
          clear hyi hC
          go_wp2_with (go_at_fn g; refine hcall.mono ?_; rintro e w' ⟨rfl, hb'⟩; have HO1 := Aside0.mk (Kd.R_below HO.out hb'); have hxi1 := Below.old hb' hxi; obtain ⟨cells, hcells⟩ := R_blk HO1.out; have hfz := blk_frozen hcells i; have HB' := Aside0.mk hb'; clear hb' hcells)
          obtain ⟨hp1, hp2⟩ := R_put1 HO1.out i y
          go_roundg (l.length - (j + 1))
          case measure => omega
          case rel => exact ⟨i + 1, j + 1, dk.set i y, by go_num, by go_num, by omega, by omega, by omega, ⟨HI.out.keep HY.out (by simp [hq])⟩, ⟨hp1⟩, ⟨grown_trans HG.out (grown_trans (grown_of_below HB'.out _) hp2)⟩⟩
      · have hltz : ¬ (j : Int) < (l.length : Int) := by omega
        obtain rfl : j = l.length := by omega
        obtain ⟨cells, hcells⟩ := R_blk HO.out
        have hsz := R_size HO.out hcells
        obtain ⟨vs, hclr⟩ := run_clear_row (P := Try.prog) wr 31 3 0 (.int .i64 0) Try.underlying31 Try.zeroValue3 (by intro v hv; simp [Value.cells] at hv; subst hv; rfl) b i (l.length - i) (c - i) cells hcells (by have h1 := hsz.1; have h2 := hsz.2; have h3 : (Kd.int .i64).sz = 1 := rfl; rw [h3] at h1; simp [Value.cells]; omega)
        obtain ⟨cur', h1, h2, h3, h4⟩ := setCells_rowH vs i wr cells hcells
        have HR := Aside0.mk (R_cut HO.out (by omega : i ≤ dk.length) h4 hcells h1 h2 (fun j hj => h3 j (by have h3 : (Kd.int .i64).sz = 1 := rfl; rw [h3] at hj; omega)))
        have HG4 := Aside0.mk h4
        clear h1 h2 h3 h4 hsz hcells
        have HL := Aside0.mk hdl
        clear hdl
        go_wp2
        go_ret
        exact ⟨_, rfl, by
          have := HI.out.low
          rw [List.take_length] at this
          rw [← this]; exact HR.out, grown_trans HG.out HG4.out, rfl⟩
end Go.Proofs.Ythpejcnldecmoaa.H
namespace Go.Proofs.Ythpejcnldecmoaa.H
open Go.RowKit Go.Proofs.YthpejcnldecmoaaW.PrintWords Go.Proofs.YthpejcnldecmoaaW.PrintLast Go.Proofs.YthpejcnldecmoaaW.PrintMore
set_option linter.unusedVariables false
set_option maxHeartbeats 4000000 in
/-- slices.IndexFunc at lambrequin/api.Literal, a struct -/
theorem IndexFuncLiter (g : Nat) (lb : Array Value) (eg : ∀ args w, (callFunc g args).run Try.prog w = .ok (.enter g args) w) (p : Liter → Bool)
    (A0 : Option Addr) (c0 : Nat) (l0 : List Liter) (w : World) (hr0 : Kd.C k47 w A0 l0.length l0) (hp : PredA Try.prog g lb k47 p w l0) :
    Calls Try.prog 54 #[.slice A0 l0.length c0, .func (.func g) #[] lb] w fun e w' => e = .returned (.int .i64 (idxP p l0 0)) ∧ Below w.heap.size w w' := by
  have HR := Aside0.mk hr0
  have HP := Aside0.mk hp
  have hl : l0.length ≤ 9223372036854775807 := hr0.2.1
  clear hr0 hp
  go_enter Try.func54, Try.ntmps54
  go_wp2
  go_loopg [5, 8] l0.length (fun gg _ s8 wr => ∃ kk : Nat, kk ≤ l0.length ∧ l0.length - kk ≤ gg ∧ s8 = .int .i64 kk ∧ Aside0 (Below w.heap.size w wr) ∧ Aside0 (idxP p l0 0 = idxP p (l0.drop kk) kk))
  case atStart => exact ⟨0, Nat.zero_le _, by omega, rfl, ⟨Below.refl _ w⟩, ⟨rfl⟩⟩
  case round =>
    obtain ⟨kk, hkk, hg, rfl, BW, A⟩ := hrel
    by_cases hlt : kk < l0.length
    · have hltz : (kk : Int) < (l0.length : Int) := by omega
      obtain ⟨y, hy⟩ := at_some hlt
      have hat := at_Liter HR.out hy
      have HA := Aside0.mk (A.out.trans (by rw [drop_cons hy]))
      have hym := List.mem_of_getElem? hy
      clear A hy
      obtain ⟨ad, A2, c2, e1, hx0, hx1, hx2, hx3, hx4, hx5, hx6, hx7, hx8, hx9, hx10, hx11, hx12, hx13, l2, g2⟩ := hat
      cases e1
      replace hx0 := Below.old BW.out hx0; replace hx1 := Below.old BW.out hx1; replace hx2 := Below.old BW.out hx2; replace hx3 := Below.old BW.out hx3; replace hx4 := Below.old BW.out hx4; replace hx5 := Below.old BW.out hx5; replace hx6 := Below.old BW.out hx6; replace hx7 := Below.old BW.out hx7; replace hx8 := Below.old BW.out hx8; replace hx9 := Below.old BW.out hx9; replace hx10 := Below.old BW.out hx10; replace hx11 := Below.old BW.out hx11; replace hx12 := Below.old BW.out hx12; replace hx13 := Below.old BW.out hx13
      have hcall := HP.out wr y [.int .i64 y.kind, .string y.atom.pred, .slice A2 y.atom.args.length c2, .string y.op, .bool y.l.isVar, .string y.l.name, .bool y.l.val.isSym, .string y.l.val.sym, .int .i64 y.l.val.n, .bool y.r.isVar, .string y.r.name, .bool y.r.val.isSym, .string y.r.val.sym, .int .i64 y.r.val.n] hym BW.out (k47_mk wr y l2 (Kd.C_below g2 BW.out))
      cases hq : p y with
      | true =>
        rw [hq] at hcall
        go_wp2_with (go_at_fn g; refine hcall.mono ?_; rintro e w' ⟨rfl, hb'⟩)
        go_ret
        exact ⟨by rw [HA.out, idxP, if_pos hq]; rfl, Below.then BW.out hb'⟩
      | false =>
        rw [hq] at hcall
        go_wp2_with (go_at_fn g; refine hcall.mono ?_; rintro e w' ⟨rfl, hb'⟩)
        go_roundg (l0.length - (kk + 1))
        case measure => omega
        case rel => exact ⟨kk + 1, by omega, by omega, by go_num, ⟨Below.then BW.out hb'⟩, ⟨by rw [HA.out, idxP, if_neg (by rw [hq]; decide)]⟩⟩
    · have hltz : ¬ (kk : Int) < (l0.length : Int) := by omega
      obtain rfl : kk = l0.length := by omega
      go_wp2
      go_ret
      exact ⟨by rw [A.out]; simp [idxP], BW.out⟩
/-- slices.ContainsFunc at lambrequin/api.Literal -/
theorem ContainsFuncLiter (g : Nat) (lb : Array Value) (eg : ∀ args w, (callFunc g args).run Try.prog w = .ok (.enter g args) w) (p : Liter → Bool)
    (A0 : Option Addr) (c0 : Nat) (l0 : List Liter) (w : World) (hr0 : Kd.C k47 w A0 l0.length l0) (hp : PredA Try.prog g lb k47 p w l0) :
    Calls Try.prog 40 #[.slice A0 l0.length c0, .func (.func g) #[] lb] w fun e w' => e = .returned (.bool (l0.any p)) ∧ Below w.heap.size w w' := by
  have HR := Aside0.mk hr0
  have HP := Aside0.mk hp
  clear hr0 hp
  go_enter Try.func40, Try.ntmps40
  go_wp2_with (go_at_call 54; go_must (refine (IndexFuncLiter g lb eg p _ _ _ _ HR.out HP.out).mono ?_); rintro e w' ⟨rfl, hb⟩)
  go_ret
  exact ⟨by rw [← idxP_any]; rfl, hb⟩
end Go.Proofs.Ythpejcnldecmoaa.H
namespace Go.Proofs.Ythpejcnldecmoaa.H
open Go.RowKit Go.Proofs.YthpejcnldecmoaaW.PrintWords Go.Proofs.YthpejcnldecmoaaW.PrintLast Go.Proofs.YthpejcnldecmoaaW.PrintMore
set_option linter.unusedVariables false

theorem known1 (w : World) (Bp B : Nat) (Ab : Option Addr) (cb : Nat) (bound l : List ByteArray) (h1 : w.cell? ⟨Bp, 0, none⟩ = some (.pointer (some ⟨B, 0, none⟩))) (h2 : w.cell? ⟨B, 2, none⟩ = some (.slice Ab bound.length cb)) (hr : Kd.C Kd.string w Ab bound.length bound) :
    PredK Try.prog 64 #[.pointer (some ⟨Bp, 0, none⟩)] Value.string (fun s => !mem s bound) w l := by
  intro W x _ hb
  have e1 := Below.old hb h1
  have e2 := Below.old hb h2
  have HR := Aside0.mk (Kd.C_below hr hb)
  clear hr h1 h2
  have HB := Aside0.mk hb
  clear hb
  go_enter Try.func64, Try.ntmps64
  go_wp2_with (go_at_call 45; go_must (refine (ContainsString _ _ _ _ _ HR.out).mono ?_); rintro e w' ⟨rfl, rfl⟩)
  go_ret
  exact ⟨rfl, Below.refl _ _⟩

theorem blk_new' {w : World} {n : Nat} (h : w.heap.size = n) (o : Obj) : (w.alloc o).heap[n]? = some o := by subst h; exact blk_new w o
theorem reps_two (w : World) (a b : Term) : Reps (k45.K w) k45.sz [a, b] ([.bool a.isVar, .string a.name, .bool a.val.isSym, .string a.val.sym, .int .i64 a.val.n] ++ [.bool b.isVar, .string b.name, .bool b.val.isSym, .string b.val.sym, .int .i64 b.val.n]) :=
  Reps.snoc (Reps.snoc (Reps.none _ _) (k45_mk w a) rfl) (k45_mk w b) rfl

set_option maxHeartbeats 4000000 in
theorem planner_known (w : World) (B : Nat) (v0 v1 v3 : Value) (Ab : Option Addr) (cb : Nat) (bound : List ByteArray) (y : Liter) (A2 : Option Addr) (c2 : Nat)
    (h1 : w.heap[B]? = some (.cells #[v0, v1, .slice Ab bound.length cb, v3] 78 (0, 0))) (hr : Kd.C Kd.string w Ab bound.length bound) (hg : Kd.C k45 w A2 y.atom.args.length y.atom.args) (hl : y.atom.args.length ≤ 8796093022207) :
    Calls Try.prog 59 #[.pointer (some ⟨B, 0, none⟩), .agg [.int .i64 y.kind, .string y.atom.pred, .slice A2 y.atom.args.length c2, .string y.op, .bool y.l.isVar, .string y.l.name, .bool y.l.val.isSym, .string y.l.val.sym, .int .i64 y.l.val.n, .bool y.r.isVar, .string y.r.name, .bool y.r.val.isSym, .string y.r.val.sym, .int .i64 y.r.val.n].toArray] w fun e w' => e = .returned (.bool (known bound y)) ∧ Below w.heap.size w w' := by
  have hu := Try.underlying45
  have hu2 := Try.underlying24
  have hu3 := Try.underlying47
  have hc := (blk_cell h1 2).trans rfl
  have HR := Aside0.mk hr
  have HG := Aside0.mk hg
  have hBs := blk_lt h1
  clear hr hg h1
  have eg := enters_of Try.func64 (by kernel_rfl) rfl
  by_cases hk : y.kind = 3
  · have hk1 : (y.kind == 3) = true := beq_iff_eq.2 hk
    have HK := Aside0.mk hk
    clear hk
    go_enter Try.func59, Try.ntmps59
    go_wp2_with (first
      | (go_at_call 31; go_must (refine (safe_Vars _ _ _ [y.l, y.r] _ (C_cells (blk_new' (by simp) _) (reps_two _ _ _) (by simp)) (by simp)).mono ?_); rintro e w1 ⟨v, rfl, hr, hb⟩; have HB := Aside0.mk (Below.then (below_alloc (below_alloc (below_alloc (below_alloc (Below.refl w.heap.size w) _) _) _) _) hb); have hcp := Below.old hb (a := ⟨w.heap.size, 0, none⟩) (v := .pointer (some ⟨B, 0, none⟩)) (by go_simp); have hcb := Below.old HB.out hc; obtain ⟨A3, c3, rfl, hl3, hC3⟩ := Kd.R_reads hr; have HC3 := Aside0.mk hC3; clear hC3 hr hb)
      | (go_at_call 63; go_must (refine (ContainsFuncString 64 #[.pointer (some ⟨w.heap.size, 0, none⟩)] eg (fun s => !mem s bound) _ _ _ _ HC3.out (known1 _ _ _ _ _ _ _ hcp hcb (Kd.C_below HR.out HB.out))).mono ?_); rintro e w2 ⟨rfl, hb2⟩; have HB2 := Aside0.mk (Below.then HB.out hb2); clear hb2))
    go_ret
    exact ⟨by rw [known, litTerms, if_pos HK.out]; rfl, HB2.out⟩
  · have hk1 : (y.kind == 3) = false := beq_eq_false_iff_ne.2 hk
    have HK := Aside0.mk hk
    clear hk
    go_enter Try.func59, Try.ntmps59
    go_wp2_with (first
      | (go_at_call 31; go_must (refine (safe_Vars _ _ _ y.atom.args _ (Kd.C_alloc (Kd.C_alloc (Kd.C_alloc HG.out _) _) _) hl).mono ?_); rintro e w1 ⟨v, rfl, hr, hb⟩; have HB := Aside0.mk (Below.then (below_alloc (below_alloc (below_alloc (Below.refl w.heap.size w) _) _) _) hb); have hcp := Below.old hb (a := ⟨w.heap.size, 0, none⟩) (v := .pointer (some ⟨B, 0, none⟩)) (by go_simp); have hcb := Below.old HB.out hc; obtain ⟨A3, c3, rfl, hl3, hC3⟩ := Kd.R_reads hr; have HC3 := Aside0.mk hC3; clear hC3 hr hb)
      | (go_at_call 63; go_must (refine (ContainsFuncString 64 #[.pointer (some ⟨w.heap.size, 0, none⟩)] eg (fun s => !mem s bound) _ _ _ _ HC3.out (known1 _ _ _ _ _ _ _ hcp hcb (Kd.C_below HR.out HB.out))).mono ?_); rintro e w2 ⟨rfl, hb2⟩; have HB2 := Aside0.mk (Below.then HB.out hb2); clear hb2))
    go_ret
    exact ⟨by rw [known, litTerms, if_neg HK.out]; rfl, HB2.out⟩
end Go.Proofs.Ythpejcnldecmoaa.H
namespace Go.Proofs.Ythpejcnldecmoaa.H
open Go.RowKit Go.Proofs.YthpejcnldecmoaaW.PrintWords Go.Proofs.YthpejcnldecmoaaW.PrintLast Go.Proofs.YthpejcnldecmoaaW.PrintMore
set_option linter.unusedVariables false


abbrev SeesT (w : World) (Bp B : Nat) (A0 : Option Addr) (c0 n : Nat) (y : Liter) (A2 : Option Addr) (c2 : Nat) (ad : Addr) (k : Nat) (w' : World) : Prop :=
  Below w.heap.size w w' ∧ w'.cell? ⟨Bp, 0, none⟩ = some (.pointer (some ⟨B, 0, none⟩)) ∧ w'.cell? ⟨B, 0, none⟩ = some (.slice A0 n c0) ∧ w'.cell? (ad.add (k * 14)) = some (.int .i64 y.kind) ∧ w'.cell? ⟨(ad.add (k * 14)).block, (ad.add (k * 14)).off + 1, none⟩ = some (.string y.atom.pred) ∧ w'.cell? ⟨(ad.add (k * 14)).block, (ad.add (k * 14)).off + 2, none⟩ = some (.slice A2 y.atom.args.length c2) ∧ w'.cell? ⟨(ad.add (k * 14)).block, (ad.add (k * 14)).off + 3, none⟩ = some (.string y.op) ∧ w'.cell? ⟨(ad.add (k * 14)).block, (ad.add (k * 14)).off + 4, none⟩ = some (.bool y.l.isVar) ∧ w'.cell? ⟨(ad.add (k * 14)).block, (ad.add (k * 14)).off + 5, none⟩ = some (.string y.l.name) ∧ w'.cell? ⟨(ad.add (k * 14)).block, (ad.add (k * 14)).off + 6, none⟩ = some (.bool y.l.val.isSym) ∧ w'.cell? ⟨(ad.add (k * 14)).block, (ad.add (k * 14)).off + 7, none⟩ = some (.string y.l.val.sym) ∧ w'.cell? ⟨(ad.add (k * 14)).block, (ad.add (k * 14)).off + 8, none⟩ = some (.int .i64 y.l.val.n) ∧ w'.cell? ⟨(ad.add (k * 14)).block, (ad.add (k * 14)).off + 9, none⟩ = some (.bool y.r.isVar) ∧ w'.cell? ⟨(ad.add (k * 14)).block, (ad.add (k * 14)).off + 10, none⟩ = some (.string y.r.name) ∧ w'.cell? ⟨(ad.add (k * 14)).block, (ad.add (k * 14)).off + 11, none⟩ = some (.bool y.r.val.isSym) ∧ w'.cell? ⟨(ad.add (k * 14)).block, (ad.add (k * 14)).off + 12, none⟩ = some (.string y.r.val.sym) ∧ w'.cell? ⟨(ad.add (k * 14)).block, (ad.add (k * 14)).off + 13, none⟩ = some (.int .i64 y.r.val.n)
set_option maxHeartbeats 8000000 in
set_option maxRecDepth 100000 in
theorem test1 (w : World) (Bp B : Nat) (v1 v3 : Value) (A0 : Option Addr) (c0 : Nat) (body : List Liter) (Ab : Option Addr) (cb : Nat) (bound : List ByteArray) (k : Nat) (y : Liter) (hy : body[k]? = some y) (hlt : k < body.length)
    (h0 : w.cell? ⟨Bp, 0, none⟩ = some (.pointer (some ⟨B, 0, none⟩))) (h1 : w.heap[B]? = some (.cells #[.slice A0 body.length c0, v1, .slice Ab bound.length cb, v3] 78 (0, 0)))
    (hbody : Kd.C k47 w A0 body.length body) (hr : Kd.C Kd.string w Ab bound.length bound) (hl : y.atom.args.length ≤ 8796093022207) :
    Calls Try.prog 58 #[.int .i64 k, .pointer (some ⟨Bp, 0, none⟩)] w fun e w' => e = .returned (.bool (asks bound y)) ∧ Below w.heap.size w w' := by
  have hu := Try.underlying45
  have hu2 := Try.underlying24
  have hu3 := Try.underlying47
  have hlz : (k : Int) < (body.length : Int) := by omega
  have hb0 := (blk_cell h1 0).trans rfl
  obtain ⟨ad, A2, c2, e1, hx0, hx1, hx2, hx3, hx4, hx5, hx6, hx7, hx8, hx9, hx10, hx11, hx12, hx13, l2, g2⟩ := at_Liter hbody hy
  cases e1
  have HR := Aside0.mk hr
  have HG := Aside0.mk g2
  have H1 := Aside0.mk h1
  clear hr g2 h1 hbody hy l2
  by_cases hk : y.kind = 1
  · have hk1 : (y.kind != 1) = false := bne_eq_false_iff_eq.2 hk
    have HK := Aside0.mk hk
    clear hk
    go_enter Try.func58, Try.ntmps58
    go_wp2
    go_quiet (fail)
    go_wp2
    go_ret
    exact ⟨by simp [asks, HK.out], pw_below_drewN (Below.refl _ _) _⟩
  · have hk1 : (y.kind != 1) = true := bne_iff_ne.2 hk
    have HK := Aside0.mk hk
    clear hk
    go_enter Try.func58, Try.ntmps58
    go_wp2
    have hbd : Below w.heap.size w w.drew := below_drew (Below.refl _ _)
    have KS : Aside0 (∀ w', Below w.heap.size w w' → SeesT w Bp B (some ad) c0 body.length y A2 c2 ad k w') := ⟨fun w' hb => ⟨hb, Below.old hb h0, Below.old hb hb0, Below.old hb hx0, Below.old hb hx1, Below.old hb hx2, Below.old hb hx3, Below.old hb hx4, Below.old hb hx5, Below.old hb hx6, Below.old hb hx7, Below.old hb hx8, Below.old hb hx9, Below.old hb hx10, Below.old hb hx11, Below.old hb hx12, Below.old hb hx13⟩⟩
    go_region_held3 (fun w' => SeesT w Bp B (some ad) c0 body.length y A2 c2 ad k w') (first | exact KS.out _ (below_drew (Below.refl _ _)) | exact KS.out _ (Below.then (by assumption) (by assumption))) ((go_at_call 59; go_must (refine (planner_known _ B _ _ _ Ab cb bound y A2 c2 (blk_below (H1.out) (by assumption)) (Kd.C_below HR.out (by assumption)) (Kd.C_below HG.out (by assumption)) hl).mono ?_); rintro e w2 ⟨rfl, hb⟩))
    have HB := Aside0.mk (Below.then hbd hb)
    clear hb hbd KS
    go_wp2
    go_ret
    exact ⟨by rw [asks, decide_eq_true HK.out, Bool.true_and]; rfl, HB.out⟩
end Go.Proofs.Ythpejcnldecmoaa.H
namespace Go.Proofs.Ythpejcnldecmoaa.H
open Go.RowKit Go.Proofs.YthpejcnldecmoaaW.PrintWords Go.Proofs.YthpejcnldecmoaaW.PrintLast Go.Proofs.YthpejcnldecmoaaW.PrintMore
set_option linter.unusedVariables false

/-- the planner at block B -/
structure Pl (w0 w : World) (B : Nat) (A0 : Option Addr) (c0 : Nat) (body : List Liter) (s : Plan) (vl vb vo : Value) : Prop where
  blk : w.heap[B]? = some (.cells #[.slice A0 body.length c0, vl, vb, vo] 78 (0, 0))
  ge : w0.heap.size ≤ B
  below : Below w0.heap.size w0 w
  left : Kd.R (Kd.int .i64) 3 w w0.heap.size (fun k => k ≠ B ∧ some k ≠ vo.ownBlock) vl (ints s.left)
  bound : Kd.R Kd.string 9 w w0.heap.size (fun k => k ≠ B) vb s.bound
  order : Kd.R (Kd.int .i64) 3 w w0.heap.size (fun k => k ≠ B ∧ some k ≠ vl.ownBlock) vo (ints s.order)
theorem Pl.then {w0 w W : World} {B : Nat} {A0 : Option Addr} {c0 : Nat} {body : List Liter} {s : Plan} {vl vb vo : Value} (h : Pl w0 w B A0 c0 body s vl vb vo) (hb : Below w.heap.size w W) : Pl w0 W B A0 c0 body s vl vb vo :=
  ⟨blk_below h.blk hb, h.ge, below_then h.below h.below.size hb, Kd.R_below h.left hb, Kd.R_below h.bound hb, Kd.R_below h.order hb⟩
/-- what is asked of a body: its length, and its atoms' -/
structure Fine (body : List Liter) (s : Plan) : Prop where
  len : body.length ≤ 1000
  args : ∀ l ∈ body, l.atom.args.length ≤ 1000
  left : ∀ k ∈ s.left, k < body.length

theorem lit_at {body : List Liter} {k : Nat} (h : k < body.length) : body[k]? = some (lit body k) := by
  simp [lit, List.getD_eq_getElem?_getD, List.getElem?_eq_getElem h]
theorem lit_mem {body : List Liter} {k : Nat} (h : k < body.length) : lit body k ∈ body := List.mem_of_getElem? (lit_at h)
theorem ints_at {l : List Nat} {k y : Nat} (h : l[k]? = some y) : (ints l)[k]? = some (y : Int) := by simp [ints, h]
theorem ints_len (l : List Nat) : (ints l).length = l.length := by simp [ints]

theorem idxP_ints (p : Nat → Bool) : ∀ (l : List Nat) (i : Nat), idxP (fun x : Int => p x.toNat) (ints l) i = idxP p l i
  | [], _ => rfl
  | x :: l, i => by show idxP _ ((x : Int) :: ints l) i = _; simp only [idxP, Int.toNat_natCast, idxP_ints p l (i + 1)]

theorem test_pred (w0 w : World) (B Bp : Nat) (A0 : Option Addr) (c0 : Nat) (body : List Liter) (s : Plan) (vl vb vo : Value) (hP : Pl w0 w B A0 c0 body s vl vb vo) (hF : Fine body s) (hbody : Kd.C k47 w0 A0 body.length body)
    (h0 : w.cell? ⟨Bp, 0, none⟩ = some (.pointer (some ⟨B, 0, none⟩))) :
    PredK Try.prog 58 #[.pointer (some ⟨Bp, 0, none⟩)] (Value.int .i64) (fun x => asks s.bound (lit body x.toNat)) w (ints s.left) := by
  intro W x hx hb
  obtain ⟨k, hk, rfl⟩ := List.mem_map.1 hx
  have hlt := hF.left k hk
  obtain ⟨Ab, cb, rfl, hlb, hCb⟩ := Kd.R_reads hP.bound
  have hP2 := hP.then hb
  exact test1 W Bp B _ _ A0 c0 body Ab cb s.bound k (lit body k) (lit_at hlt) hlt (Below.old hb h0) hP2.blk (Kd.C_below hbody hP2.below) (Kd.C_below hCb hb) (by have := hF.args _ (lit_mem hlt); omega)

section
variable {w0 w : World} {B : Nat} {A0 : Option Addr} {c0 : Nat} {body : List Liter} {s : Plan} {vl vb vo : Value}
theorem Pl.cell0 (h : Pl w0 w B A0 c0 body s vl vb vo) : w.cell? ⟨B, 0, none⟩ = some (.slice A0 body.length c0) := (blk_cell h.blk 0).trans rfl
theorem Pl.cell1 (h : Pl w0 w B A0 c0 body s vl vb vo) : w.cell? ⟨B, 1, none⟩ = some vl := (blk_cell h.blk 1).trans rfl
theorem Pl.cell2 (h : Pl w0 w B A0 c0 body s vl vb vo) : w.cell? ⟨B, 2, none⟩ = some vb := (blk_cell h.blk 2).trans rfl
theorem Pl.cell3 (h : Pl w0 w B A0 c0 body s vl vb vo) : w.cell? ⟨B, 3, none⟩ = some vo := (blk_cell h.blk 3).trans rfl
theorem Pl.fz (h : Pl w0 w B A0 c0 body s vl vb vo) (j : Nat) : w.frozen? ⟨B, j, none⟩ = false := blk_frozen h.blk j
end
theorem find_none {l : List Nat} {p : Nat → Bool} (h : ∀ x ∈ l, p x = false) : l.find? p = none := List.find?_eq_none.2 (fun x hx => by simp [h x hx])
theorem find_some {l : List Nat} {p : Nat → Bool} {k y : Nat} (hy : l[k]? = some y) (hp : p y = true) (h : ∀ x ∈ l.take k, p x = false) : l.find? p = some y := by
  have h1 : l = l.take k ++ y :: l.drop (k + 1) := by rw [← drop_cons hy, List.take_append_drop]
  rw [h1, List.find?_append, find_none h]
  simp [hp]

set_option maxHeartbeats 4000000 in
theorem planner_test (w0 w : World) (B : Nat) (A0 : Option Addr) (c0 : Nat) (body : List Liter) (s : Plan) (vl vb vo : Value) (hP : Pl w0 w B A0 c0 body s vl vb vo) (hF : Fine body s) (hbody : Kd.C k47 w0 A0 body.length body) :
    Calls Try.prog 42 #[.pointer (some ⟨B, 0, none⟩)] w fun e w' => e = .returned (.int .i64 (optInt (testOf body s))) ∧ Below w.heap.size w w' := by
  have HP := Aside0.mk hP
  have eg := enters_of Try.func58 (by kernel_rfl) rfl
  obtain ⟨Al, cl, rfl, hll, hCl⟩ := Kd.R_reads hP.left
  have hlen := hCl.2.1
  have HC := Aside0.mk hCl
  have hb1 := hP.cell1
  have hBs := blk_lt hP.blk
  have hF' := Aside0.mk hF
  have HBd := Aside0.mk hbody
  rcases idxP_cases (fun k => asks s.bound (lit body k)) s.left 0 with ⟨e1, hall⟩ | ⟨k0, y0, e1, hy0, ht, hall⟩
  · have E2 := Aside0.mk ((idxP_ints (fun k => asks s.bound (lit body k)) s.left 0).trans e1)
    have HT := Aside0.mk (show optInt (testOf body s) = -1 by rw [testOf, find_none hall]; rfl)
    clear e1 hall hP hCl hF hbody
    go_enter Try.func42, Try.ntmps42
    go_wp2_with (go_at_call 57; go_must (refine (IndexFuncInt 58 #[.pointer (some ⟨w.heap.size, 0, none⟩)] eg _ _ _ _ _ (Kd.C_alloc HC.out _) (test_pred w0 _ B w.heap.size A0 c0 body s _ _ _ (HP.out.then (below_alloc (Below.refl _ _) _)) hF'.out HBd.out (by go_simp))).mono ?_); rintro e w1 ⟨rfl, hb⟩; rw [E2.out]; have HB := Aside0.mk (Below.then (below_alloc (Below.refl _ _) _) hb); clear hb)
    go_ret
    exact ⟨by rw [HT.out]; rfl, HB.out⟩
  · rw [Nat.zero_add] at e1
    have E2 := Aside0.mk ((idxP_ints (fun k => asks s.bound (lit body k)) s.left 0).trans e1)
    have HT := Aside0.mk (show optInt (testOf body s) = (y0 : Int) by rw [testOf, find_some hy0 ht hall]; rfl)
    have hk0 : k0 < (ints s.left).length := by rw [ints_len]; exact (List.getElem?_eq_some_iff.1 hy0).1
    have hk1 : (k0 : Int) < ((ints s.left).length : Int) := by omega
    obtain ⟨ad, e3, hx⟩ := at_int hCl (ints_at hy0)
    cases e3
    clear e1 hall hP hCl hF hbody hy0 ht
    go_enter Try.func42, Try.ntmps42
    go_wp2_with (go_at_call 57; go_must (refine (IndexFuncInt 58 #[.pointer (some ⟨w.heap.size, 0, none⟩)] eg _ _ _ _ _ (Kd.C_alloc HC.out _) (test_pred w0 _ B w.heap.size A0 c0 body s _ _ _ (HP.out.then (below_alloc (Below.refl _ _) _)) hF'.out HBd.out (by go_simp))).mono ?_); rintro e w1 ⟨rfl, hb⟩; rw [E2.out]; have hc0 := Below.old hb (a := ⟨w.heap.size, 0, none⟩) (v := .pointer (some ⟨B, 0, none⟩)) (by go_simp); have HB := Aside0.mk (Below.then (below_alloc (Below.refl _ _) _) hb); clear hb; have hc1 := Below.old HB.out hb1; have hc2 := Below.old HB.out hx)
    go_ret
    exact ⟨by rw [HT.out]; rfl, HB.out⟩
end Go.Proofs.Ythpejcnldecmoaa.H
namespace Go.Proofs.Ythpejcnldecmoaa.H
open Go.RowKit Go.Proofs.YthpejcnldecmoaaW.PrintWords Go.Proofs.YthpejcnldecmoaaW.PrintLast Go.Proofs.YthpejcnldecmoaaW.PrintMore
set_option linter.unusedVariables false

abbrev SeesB (w : World) (B : Nat) (ad : Addr) (k : Nat) (A0 : Option Addr) (n c0 : Nat) (vb : Value) (y : Liter) (A2 : Option Addr) (c2 : Nat) (w' : World) : Prop :=
  Below w.heap.size w w' ∧ w'.cell? ⟨B, 0, none⟩ = some (.slice A0 n c0) ∧ w'.cell? ⟨B, 2, none⟩ = some vb ∧ w'.cell? ⟨(ad.add (k * 14)).block, (ad.add (k * 14)).off + 1, none⟩ = some (.string y.atom.pred) ∧ w'.cell? ⟨(ad.add (k * 14)).block, (ad.add (k * 14)).off + 2, none⟩ = some (.slice A2 y.atom.args.length c2)

set_option maxHeartbeats 8000000 in
set_option maxRecDepth 100000 in
theorem planner_best (w0 w : World) (B : Nat) (A0 : Option Addr) (c0 : Nat) (body : List Liter) (s : Plan) (vl vb vo : Value) (hP : Pl w0 w B A0 c0 body s vl vb vo) (hF : Fine body s) (hbody : Kd.C k47 w0 A0 body.length body) :
    Calls Try.prog 43 #[.pointer (some ⟨B, 0, none⟩)] w fun e w' => e = .returned (.int .i64 (optInt (bestOf body s))) ∧ Below w.heap.size w w' := by
  have HP := Aside0.mk hP
  have hu := Try.underlying45
  have hu2 := Try.underlying24
  have hu3 := Try.underlying47
  obtain ⟨Al, cl, rfl, hll, hCl⟩ := Kd.R_reads hP.left
  obtain ⟨Ab, cb, rfl, hlb, hCb⟩ := Kd.R_reads hP.bound
  have hlen := hCl.2.1
  have HC := Aside0.mk hCl
  have HCb := Aside0.mk hCb
  have hb1 := hP.cell1
  have hBs := blk_lt hP.blk
  have HF := Aside0.mk hF
  have HBd := Aside0.mk hbody
  clear hP hCl hCb hF hbody
  go_enter Try.func43, Try.ntmps43
  go_wp2
  go_loopg [3, 4, 6, 7, 13] (ints s.left).length (fun gg s3 s4 _ _ s13 wr => ∃ (kk : Nat) (b : Option Nat) (m : Int), kk ≤ s.left.length ∧ (ints s.left).length - kk ≤ gg ∧ s3 = .int .i64 (optInt b) ∧ s4 = .int .i64 m ∧ s13 = .int .i64 kk ∧ Aside0 (Below w.heap.size w wr) ∧ Aside0 (bestOf body s = (bestGo body s.bound (s.left.drop kk) (b, m)).1))
  case atStart => exact ⟨0, none, -1, Nat.zero_le _, by omega, rfl, rfl, rfl, ⟨Below.refl _ w⟩, ⟨rfl⟩⟩
  case round =>
    obtain ⟨kk, b, m, hkk, hgg, rfl, rfl, rfl, BW, A⟩ := hrel
    by_cases hlt : kk < s.left.length
    · have hltz : (kk : Int) < ((ints s.left).length : Int) := by rw [ints_len]; omega
      obtain ⟨k, hk⟩ := at_some hlt
      obtain ⟨ad1, e1, hx⟩ := at_int HC.out (ints_at hk)
      cases e1
      replace hx := Below.old BW.out hx
      have hkl := HF.out.left k (List.mem_of_getElem? hk)
      have hklz : (k : Int) < (body.length : Int) := by omega
      have HP2 := Aside0.mk (HP.out.then BW.out)
      have hc0 := HP2.out.cell0
      have hc2 := HP2.out.cell2
      have hbel := HP2.out.below
      have hargs := HF.out.args _ (lit_mem hkl)
      obtain ⟨yad, yA2, yc2, ye1, yhx0, yhx1, yhx2, yhx3, yhx4, yhx5, yhx6, yhx7, yhx8, yhx9, yhx10, yhx11, yhx12, yhx13, yl2, yg2⟩ := at_Liter HBd.out (lit_at hkl)
      cases ye1
      have HA := Aside0.mk (A.out.trans (by rw [drop_cons hk]))
      clear A hk
      have hx0 := Below.old hbel yhx0
      have hx1 := Below.old hbel yhx1
      have hx2 := Below.old hbel yhx2
      have HG := Aside0.mk (Kd.C_below yg2 hbel)
      have HCB := Aside0.mk (Kd.C_below HCb.out BW.out)
      clear yhx0 yhx1 yhx2 yhx3 yhx4 yhx5 yhx6 yhx7 yhx8 yhx9 yhx10 yhx11 yhx12 yhx13 yg2 yl2 hbel
      by_cases hk1 : (lit body k).kind = 1
      · have hq : ((lit body k).kind != 1) = false := bne_eq_false_iff_eq.2 hk1
        have HK := Aside0.mk hk1
        clear hk1
        have hbd : Below wr.heap.size wr wr.drew := below_drew (Below.refl _ _)
        have KS : Aside0 (∀ w', Below wr.heap.size wr w' → SeesB wr B yad k (some yad) body.length c0 (.slice Ab s.bound.length cb) (lit body k) yA2 yc2 w') := ⟨fun w' hb => ⟨hb, Below.old hb hc0, Below.old hb hc2, Below.old hb hx1, Below.old hb hx2⟩⟩
        go_wp2
        go_region_held3 (fun w' => SeesB wr B yad k (some yad) body.length c0 (.slice Ab s.bound.length cb) (lit body k) yA2 yc2 w') (first | exact KS.out _ (below_drew (Below.refl _ _)) | exact KS.out _ (Below.then (by assumption) (by assumption))) ((go_at_call 20; go_must (refine (plan_Cols _ _ _ _ _ _ _ _ (Kd.C_below HG.out (by assumption)) (Kd.C_below HCB.out (by assumption)) (by omega)).mono ?_); rintro e w2 ⟨v, rfl, hr, hb⟩; obtain ⟨Av, cv, rfl, hlv, hCv⟩ := Kd.R_reads hr; have hlv2 := hCv.2.1; clear hr hCv))
        have HB := Aside0.mk (Below.then BW.out (Below.then hbd hb))
        clear hb hbd KS
        have hnl : (cols s.bound (lit body k).atom.args).length ≤ 1000 := by have := colsGo_len s.bound (lit body k).atom.args 0; unfold cols; omega
        have HA2 := HA.out
        simp only [bestGo, HK.out, true_and] at HA2
        generalize hnn : (cols s.bound (lit body k).atom.args).length = n at *
        clear hnn
        by_cases hgt : m < (n : Int)
        · rw [if_pos hgt] at HA2
          have HA := Aside0.mk HA2
          clear HA2
          go_wp2
          go_roundg ((ints s.left).length - (kk + 1))
          case measure => omega
          case rel => exact ⟨kk + 1, some k, n, by omega, by omega, rfl, rfl, by go_num, HB, HA⟩
        · rw [if_neg hgt] at HA2
          have HA := Aside0.mk HA2
          clear HA2
          go_wp2
          go_roundg ((ints s.left).length - (kk + 1))
          case measure => omega
          case rel => exact ⟨kk + 1, b, m, by omega, by omega, rfl, rfl, by go_num, HB, HA⟩
      · have hq : ((lit body k).kind != 1) = true := bne_iff_ne.2 hk1
        have HK := Aside0.mk hk1
        clear hk1
        go_wp2
        go_roundg ((ints s.left).length - (kk + 1))
        case measure => omega
        case rel => exact ⟨kk + 1, b, m, by omega, by omega, rfl, rfl, by go_num, BW, ⟨by rw [HA.out]; simp only [bestGo, HK.out, false_and, if_false]⟩⟩
    · have hltz : ¬ (kk : Int) < ((ints s.left).length : Int) := by rw [ints_len]; omega
      obtain rfl : kk = s.left.length := by omega
      go_wp2
      go_ret
      exact ⟨by rw [A.out, drop_all]; rfl, BW.out⟩
end Go.Proofs.Ythpejcnldecmoaa.H
namespace Go.Proofs.Ythpejcnldecmoaa.H
open Go.RowKit Go.Proofs.YthpejcnldecmoaaW.PrintWords Go.Proofs.YthpejcnldecmoaaW.PrintLast Go.Proofs.YthpejcnldecmoaaW.PrintMore
set_option linter.unusedVariables false

theorem cell_farH {w : World} {a b : Addr} {u : Value} (h : w.cell? b = some u) (hne : a.block ≠ b.block) (v : Value) : (w.setCell a v).cell? b = some u :=
  (World.cell?_setCell_other w a b v (fun e => hne (by rw [e]))).trans h
theorem take1 (w : World) (row : Option Nat) (Bi i : Nat) (l : List Nat) (h0 : w.cell? ⟨Bi, 0, none⟩ = some (.int .i64 i)) (hne : some Bi ≠ row) :
    PredG Try.prog 56 #[.pointer (some ⟨Bi, 0, none⟩)] (Value.int .i64) (fun x => x == (i : Int)) w row (ints l) := by
  intro W x hx hg
  have e1 := hg.cell h0 hne
  go_enter Try.func56, Try.ntmps56
  go_wp2
  go_ret
  exact ⟨rfl, Below.refl _ _⟩

section
variable {w0 W w1 : World} {B : Nat} {A0 : Option Addr} {c0 : Nat} {body : List Liter} {s : Plan} {vl vb vo v1 : Value}
theorem Pl.push (h : Pl w0 W B A0 c0 body s vl vb vo) {i : Nat} (hr : Kd.R (Kd.int .i64) 3 w1 w0.heap.size (fun k => k ≠ B ∧ some k ≠ vl.ownBlock) v1 (ints s.order ++ [(i : Int)])) (hb : Below w0.heap.size w0 w1) (hg : W.grownBy w1 vo.ownBlock)
    (hat : v1.ownBlock = vo.ownBlock ∨ ∃ b, v1.ownBlock = some b ∧ W.heap.size ≤ b) : Pl w0 (w1.setCell ⟨B, 3, none⟩ v1) B A0 c0 body { s with order := s.order ++ [i] } vl vb v1 := by
  have hB : some B ≠ vo.ownBlock := fun e => (h.order.1 B e.symm).1 rfl
  have hblk : w1.heap[B]? = some (.cells #[.slice A0 body.length c0, vl, vb, vo] 78 (0, 0)) := blk_grown h.blk hg hB
  refine ⟨blk_put hblk 3 v1 rfl, h.ge, below_set hb h.ge, ?_, ?_, ?_⟩
  · exact Kd.R_far (p := ⟨B, 3, none⟩) (Kd.R_after h.left hg hat) (fun k hk => hk.1) _
  · exact Kd.R_far (p := ⟨B, 3, none⟩) (Kd.R_over h.bound h.order (by decide) hg) (fun k hk => hk) _
  · have : ints (s.order ++ [i]) = ints s.order ++ [(i : Int)] := by simp [ints]
    rw [this]
    exact Kd.R_far (p := ⟨B, 3, none⟩) hr (fun k hk => hk.1) _
theorem Pl.cut (h : Pl w0 W B A0 c0 body s vl vb vo) {l : List Nat} (hr : Kd.R (Kd.int .i64) 3 w1 w0.heap.size (fun k => k ≠ B ∧ some k ≠ vo.ownBlock) v1 (ints l)) (hg : W.grownBy w1 vl.ownBlock)
    (hat : v1.ownBlock = vl.ownBlock) : Pl w0 (w1.setCell ⟨B, 1, none⟩ v1) B A0 c0 body { s with left := l } v1 vb vo := by
  have hB : some B ≠ vl.ownBlock := fun e => (h.left.1 B e.symm).1 rfl
  have hblk : w1.heap[B]? = some (.cells #[.slice A0 body.length c0, vl, vb, vo] 78 (0, 0)) := blk_grown h.blk hg hB
  have hb : Below w0.heap.size w0 w1 := pw_below_grown h.below _ h.below.size hg (fun k hk => Kd.R_base h.left k hk)
  refine ⟨blk_put hblk 1 v1 rfl, h.ge, below_set hb h.ge, ?_, ?_, ?_⟩
  · exact Kd.R_far (p := ⟨B, 1, none⟩) hr (fun k hk => hk.1) _
  · exact Kd.R_far (p := ⟨B, 1, none⟩) (Kd.R_over h.bound h.left (by decide) hg) (fun k hk => hk) _
  · rw [hat]
    exact Kd.R_far (p := ⟨B, 1, none⟩) (Kd.R_grown h.order hg (fun k hk => hk.2)) (fun k hk => hk.1) _
theorem Pl.bind (h : Pl w0 W B A0 c0 body s vl vb vo) {l : List ByteArray} (hr : Kd.R Kd.string 9 w1 w0.heap.size (fun k => k ≠ B) v1 l) (hb : Below w0.heap.size w0 w1) (hg : W.grownBy w1 vb.ownBlock) :
    Pl w0 (w1.setCell ⟨B, 2, none⟩ v1) B A0 c0 body { s with bound := l } vl v1 vo := by
  have hB : some B ≠ vb.ownBlock := fun e => (h.bound.1 B e.symm) rfl
  have hblk : w1.heap[B]? = some (.cells #[.slice A0 body.length c0, vl, vb, vo] 78 (0, 0)) := blk_grown h.blk hg hB
  refine ⟨blk_put hblk 2 v1 rfl, h.ge, below_set hb h.ge, ?_, ?_, ?_⟩
  · exact Kd.R_far (p := ⟨B, 2, none⟩) (Kd.R_over h.left h.bound (by decide) hg) (fun k hk => hk.1) _
  · exact Kd.R_far (p := ⟨B, 2, none⟩) hr (fun k hk => hk) _
  · exact Kd.R_far (p := ⟨B, 2, none⟩) (Kd.R_over h.order h.bound (by decide) hg) (fun k hk => hk.1) _
end

theorem filter_ints (l : List Nat) (i : Nat) : ((ints l).filter fun x => !(x == (i : Int))) = ints (l.filter fun k => !decide (k = i)) := by
  unfold ints
  rw [List.filter_map]
  congr 1
  apply List.filter_congr
  intro k _
  by_cases h : k = i
  · subst h; simp
  · have : ¬ ((k : Int) = (i : Int)) := by omega
    simp [h, this]

set_option maxHeartbeats 8000000 in
set_option maxRecDepth 100000 in
theorem planner_take (w0 w : World) (B i : Nat) (A0 : Option Addr) (c0 : Nat) (body : List Liter) (s : Plan) (vl vb vo : Value) (hP : Pl w0 w B A0 c0 body s vl vb vo) (hF : Fine body s) (hi : i < body.length) (hbody : Kd.C k47 w0 A0 body.length body)
    (hlo : s.order.length ≤ 1000) (hlb : s.bound.length ≤ 1000000000) :
    Calls Try.prog 41 #[.pointer (some ⟨B, 0, none⟩), .int .i64 i] w fun e w' => e = .returned (.tuple #[]) ∧ ∃ vl' vb' vo', Pl w0 w' B A0 c0 body (takeOf body s i) vl' vb' vo' := by
  have hu := Try.underlying45
  have hu2 := Try.underlying24
  have hu3 := Try.underlying47
  have eg := enters_of Try.func56 (by kernel_rfl) rfl
  have hiz : (i : Int) < (body.length : Int) := by omega
  have hP1 := hP.then (below_alloc (Below.refl w.heap.size w) (.cells #[.int .i64 i] 3))
  have HP := Aside0.mk hP1
  have hbs := blk_lt hP.blk
  have hc3 := hP.cell3
  have hfz3 := hP.fz 3
  have hsz := hP.below.size
  have HF := Aside0.mk hF
  have hord := hP.order
  have hlef := hP.left
  have HBd := Aside0.mk hbody
  clear hP hP1 hF hbody
  go_enter Try.func41, Try.ntmps41
  go_upto_region 1 with (fail)
  have hcB : (w.alloc (.cells #[.int .i64 i] 3)).cell? ⟨B, 3, none⟩ = some vo := HP.out.cell3
  have hci : (w.alloc (.cells #[.int .i64 i] 3)).cell? ⟨w.heap.size, 0, none⟩ = some (.int .i64 i) := (blk_cell (blk_new w _) 0).trans rfl
  have hws : (w.alloc (.cells #[.int .i64 i] 3)).heap.size = w.heap.size + 1 := by simp
  have hbi : (w.alloc (.cells #[.int .i64 i] 3)).heap[w.heap.size]? = some (.cells #[.int .i64 i] 3 (0, 0)) := blk_new w _
  have hdl0 : vl.ownBlock ≠ some w.heap.size := fun e => by have := Kd.R_lt hlef _ e; omega
  have hdi0 : vo.ownBlock ≠ some w.heap.size := fun e => by have := Kd.R_lt hord _ e; omega
  clear hord hlef
  generalize w.alloc (.cells #[.int .i64 i] 3) = W1 at *
  have hW1 : B < W1.heap.size := by omega
  have HD := Aside0.mk (HP.out.then (below_drew (Below.refl _ _)))
  have hdi : Aside0 (vo.ownBlock ≠ some w.heap.size) := ⟨hdi0⟩
  have hfr : Aside0 (∀ k, W1.drew.heap.size ≤ k → (k ≠ B ∧ some k ≠ vl.ownBlock)) := ⟨fun k hk => ⟨by simp at hk; omega, fun e => by have := Kd.R_lt HP.out.left k e.symm; simp at hk; omega⟩⟩
  have hle : Aside0 (w0.heap.size ≤ W1.drew.heap.size) := ⟨by simp; omega⟩
  have hll : Aside0 (((ints s.order).length + 1) * 8 ≤ 140737488355328) := ⟨by rw [ints_len]; omega⟩
  have hdl : Aside0 (vl.ownBlock ≠ some w.heap.size) := ⟨hdl0⟩
  go_cut [] (fun wc => ∃ (A1 : Option Addr) (c1 : Nat), Aside0 (Pl w0 wc B A0 c0 body { s with order := s.order ++ [i] } vl vb (.slice A1 (s.order.length + 1) c1)) ∧ Aside0 (wc.cell? ⟨w.heap.size, 0, none⟩ = some (.int .i64 i)) ∧ Aside0 (vl.ownBlock ≠ some w.heap.size))
  case first =>
    go_region_law (refine Kd.R_append_step (Kd.int .i64) (w0 := w0) (W := W1.drew) w0.heap.size (by rfl) (.tmp 8) (.tmp 10) 31 3 (.int .i64 0) 8 (by rfl) Try.underlying31 infoInt rfl (by decide) (by omega) vo (ints s.order) (i : Int) [.int .i64 i] (fun k => k ≠ B ∧ some k ≠ vl.ownBlock) (fun _ => False) (by simp [Act.eval]) (by simp [Act.eval, hws]) rfl (fun _ h => h.elim) hfr.out (Kd.R_drew HP.out.order) (below_drew HP.out.below) hle.out hll.out ?_; intro v1 w1 ho1 hb1 hg1 hat1; obtain ⟨Ao1, co1, rfl, -, -⟩ := Kd.R_reads ho1; have HP1 := Aside0.mk (HD.out.push ho1 hb1 hg1 hat1); have hc3' := hg1.cell HD.out.cell3 (fun e => (HD.out.order.1 B e.symm).1 rfl); have hfz3' := blk_frozen (blk_grown HD.out.blk hg1 (fun e => (HD.out.order.1 B e.symm).1 rfl)) 3; have hci1 := hg1.cell (a := ⟨w.heap.size, 0, none⟩) (v := .int .i64 i) hci (fun e => hdi.out e.symm); clear ho1 hb1 hg1 hat1)
    all_goals
      go_wp2
      go_meet
      exact ⟨Ao1, co1, by simpa [ints_len] using HP1, ⟨cell_farH hci1 (by show B ≠ w.heap.size; omega) _⟩, hdl⟩
  case rest =>
    obtain ⟨A1, c1, HP1, HC1, HV1⟩ := hcut
    clear HP HD hdi hfr hle hll hcB hci hbi
    have hc1 := HP1.out.cell1
    have hcs := World.block_lt_of_cell? wc _ HC1.out
    have hBc := blk_lt HP1.out.blk
    obtain ⟨Al1, cl1, rfl, -, -⟩ := Kd.R_reads HP1.out.left
    go_upto_region 3 with (go_at_call 55; go_must (refine (DeleteFuncInt 56 #[.pointer (some ⟨w.heap.size, 0, none⟩)] eg (fun x => x == (i : Int)) _ _ _ _ _ HP1.out.left (take1 _ _ _ _ _ HC1.out (fun e => HV1.out e.symm))).mono ?_); rintro e w2 ⟨v', rfl, hr, hg, hat⟩; simp only [filter_ints] at hr; obtain ⟨Al2, cl2, rfl, -, -⟩ := Kd.R_reads hr; have HP2 := Aside0.mk (HP1.out.cut hr hg hat); have hne2 : some B ≠ (Value.slice Al1 (ints s.left).length cl1).ownBlock := fun e => (HP1.out.left.1 B e.symm).1 rfl; have hb1 := hg.cell (a := ⟨B, 1, none⟩) hc1 hne2; have hfz1 := blk_frozen (blk_grown HP1.out.blk hg hne2) 1; have hci2 := hg.cell HC1.out (fun e => HV1.out e.symm); have hgs := hg.size; clear hr hg hat hne2)
    have hci3 := cell_farH (a := ⟨B, 1, none⟩) hci2 (by show B ≠ w.heap.size; omega) (Value.slice Al2 (ints (s.left.filter fun k => !decide (k = i))).length cl2)
    have hB2 := blk_lt HP2.out.blk
    clear hci2 hb1 hfz1 hc1 HP1 HC1 HV1
    generalize w2.setCell ⟨B, 1, none⟩ (Value.slice Al2 (ints (s.left.filter fun k => !decide (k = i))).length cl2) = w3 at *
    have hc0 := HP2.out.cell0
    have hbel := HP2.out.below
    obtain ⟨yad, yA2, yc2, ye1, yhx0, yhx1, yhx2, yhx3, yhx4, yhx5, yhx6, yhx7, yhx8, yhx9, yhx10, yhx11, yhx12, yhx13, yl2, yg2⟩ := at_Liter HBd.out (lit_at hi)
    cases ye1
    have hx0 := Below.old hbel yhx0
    have hx1 := Below.old hbel yhx1
    have hx2 := Below.old hbel yhx2
    have HG := Aside0.mk (Kd.C_below yg2 hbel)
    have hargs := HF.out.args _ (lit_mem hi)
    clear yhx0 yhx1 yhx2 yhx3 yhx4 yhx5 yhx6 yhx7 yhx8 yhx9 yhx10 yhx11 yhx12 yhx13 yg2 yl2 hbel
    by_cases hk1 : (lit body i).kind = 1
    · have hq : ((lit body i).kind == 1) = true := beq_iff_eq.2 hk1
      have HK := Aside0.mk hk1
      clear hk1
      go_quiet (fail)
      rename_i nq
      go_upto_region 4 with (fail)
      have HP3 := Aside0.mk (HP2.out.then (W := w3.drewN nq) (pw_below_drewN (Below.refl _ _) nq))
      have hci4 : (w3.drewN nq).cell? ⟨w.heap.size, 0, none⟩ = some (.int .i64 i) := hci3
      have HG3 := Aside0.mk (Kd.C_drewN HG.out nq)
      have hx1' : (w3.drewN nq).cell? _ = _ := hx1
      have hx2' : (w3.drewN nq).cell? _ = _ := hx2
      clear HP2 hci3 HG hx0 hx1 hx2 hc0
      generalize w3.drewN nq = w4 at *
      have hnl : Aside0 ((s.bound.length + (names (lit body i).atom.args).length) * 16 ≤ 140737488355328) := ⟨by have := names_len (lit body i).atom.args; omega⟩
      have hc02 := HP3.out.cell0
      have hc22 := HP3.out.cell2
      have h84 : (lit body i).atom.args.length ≤ 8796093022207 := by omega
      have hbd : Aside0 (Below w4.heap.size w4 w4.drew) := ⟨below_drew (Below.refl _ _)⟩
      go_region_law (first
        | (refine goes_ (N := some 45) Try.func31 (by kernel_rfl) rfl #[.agg #[.string (lit body i).atom.pred, .slice yA2 (lit body i).atom.args.length yc2]] (by rfl) (by rfl) (by rfl) (by simp [Act.eval]) ((safe_Vars _ _ _ _ _ (Kd.C_drew HG3.out) h84).mono ?_); rintro e w5 ⟨v5, rfl, hr5, hb5⟩; refine ⟨_, rfl, ?_⟩; obtain ⟨A5, c5, rfl, -, hC5⟩ := Kd.R_reads hr5; have HC5 := Aside0.mk hC5; have HP5 := Aside0.mk (HP3.out.then (Below.then hbd.out hb5)); have hc25 := HP5.out.cell2; have hfz25 := HP5.out.fz 2; clear hr5 hC5 hb5)
        | (refine Kd.R_append_rows_step Kd.string (Rr := Kd.string.K w5) (w0 := w0) (W := w5) w0.heap.size (by rfl) (.tmp 36) (.tmp 45) 28 9 (.string ⟨#[]⟩) 16 (by rfl) Try.underlying28 infoStr rfl (by decide) (by omega) vb s.bound (names (lit body i).atom.args) A5 (names (lit body i).atom.args).length c5 (fun k => k ≠ B) (fun _ => False) (by simp [Act.eval]) (by simp [Act.eval]) HP5.out.bound HC5.out (fun _ _ h => h) (fun _ h => h.elim) (fun k hk => by have := blk_lt HP5.out.blk; omega) HP5.out.below HP5.out.below.size hnl.out ?_; intro v6 w6 hr6 hb6 hg6 hat6; obtain ⟨A6, c6, rfl, -, -⟩ := Kd.R_reads hr6; have HP6 := Aside0.mk (HP5.out.bind hr6 hb6 hg6); have hne6 : some B ≠ vb.ownBlock := (fun e => (HP5.out.bound.1 B e.symm) rfl); have hc26 := hg6.cell hc25 hne6; have hfz26 := blk_frozen (blk_grown HP5.out.blk hg6 hne6) 2; clear hr6 hb6 hg6 hat6 hne6))
      all_goals
        go_wp2
        go_end0
        exact ⟨rfl, _, _, _, by have h6 := HP6.out; rw [List.length_append] at h6; rw [takeOf, if_pos HK.out]; exact h6⟩
    · have hq : ((lit body i).kind == 1) = false := beq_eq_false_iff_ne.2 hk1
      have HK := Aside0.mk hk1
      clear hk1
      go_quiet (fail)
      go_wp2
      go_end0
      exact ⟨rfl, _, _, _, by rw [takeOf, if_neg HK.out]; exact HP2.out.then (pw_below_drewN (Below.refl _ _) _)⟩
end Go.Proofs.Ythpejcnldecmoaa.H
namespace Go.Proofs.Ythpejcnldecmoaa.H
open Go.RowKit Go.Proofs.YthpejcnldecmoaaW.PrintWords Go.Proofs.YthpejcnldecmoaaW.PrintLast Go.Proofs.YthpejcnldecmoaaW.PrintMore
set_option linter.unusedVariables false

theorem order1 (w : World) (l : List Liter) : PredA Try.prog 39 #[] k47 odd w l := by
  intro W y cs hm hb hK
  obtain ⟨A2, c2, rfl, l2, g2⟩ := k47_open hK
  have hu := Try.underlying47
  clear hm hK g2 l2
  by_cases h1 : y.kind < 1
  · have HQ := Aside0.mk (show odd y = true by simp [odd, h1])
    go_enter Try.func39, Try.ntmps39
    go_wp2
    go_ret
    exact ⟨by rw [HQ.out]; rfl, below_alloc (Below.refl _ _) _⟩
  · have HQ := Aside0.mk (show odd y = decide (3 < y.kind) by simp [odd, h1])
    go_enter Try.func39, Try.ntmps39
    go_wp2
    go_ret
    exact ⟨by rw [HQ.out]; rfl, below_alloc (Below.refl _ _) _⟩

section
variable {w0 W w1 : World} {B : Nat} {A0 : Option Addr} {c0 : Nat} {body : List Liter} {s : Plan} {vl vb vo v1 : Value}
theorem Pl.grow (h : Pl w0 W B A0 c0 body s vl vb vo) {i : Nat} (hr : Kd.R (Kd.int .i64) 3 w1 w0.heap.size (fun k => k ≠ B ∧ some k ≠ vo.ownBlock) v1 (ints s.left ++ [(i : Int)])) (hb : Below w0.heap.size w0 w1) (hg : W.grownBy w1 vl.ownBlock)
    (hat : v1.ownBlock = vl.ownBlock ∨ ∃ b, v1.ownBlock = some b ∧ W.heap.size ≤ b) : Pl w0 (w1.setCell ⟨B, 1, none⟩ v1) B A0 c0 body { s with left := s.left ++ [i] } v1 vb vo := by
  have hB : some B ≠ vl.ownBlock := fun e => (h.left.1 B e.symm).1 rfl
  have hblk : w1.heap[B]? = some (.cells #[.slice A0 body.length c0, vl, vb, vo] 78 (0, 0)) := blk_grown h.blk hg hB
  refine ⟨blk_put hblk 1 v1 rfl, h.ge, below_set hb h.ge, ?_, ?_, ?_⟩
  · have : ints (s.left ++ [i]) = ints s.left ++ [(i : Int)] := by simp [ints]
    rw [this]
    exact Kd.R_far (p := ⟨B, 1, none⟩) hr (fun k hk => hk.1) _
  · exact Kd.R_far (p := ⟨B, 1, none⟩) (Kd.R_over h.bound h.left (by decide) hg) (fun k hk => hk) _
  · exact Kd.R_far (p := ⟨B, 1, none⟩) (Kd.R_after h.order hg hat) (fun k hk => hk.1) _
end
theorem planner_new (w W : World) (A0 : Option Addr) (c0 : Nat) (body : List Liter) (hb : Below w.heap.size w W) :
    Pl w (W.alloc (.cells #[.slice A0 body.length c0, .slice none 0 0, .slice none 0 0, .slice none 0 0] 78)) W.heap.size A0 c0 body ⟨[], [], []⟩ (.slice none 0 0) (.slice none 0 0) (.slice none 0 0) :=
  ⟨blk_new W _, hb.size, below_alloc hb _, Kd.R_nil _ _ _ _ _, Kd.R_nil _ _ _ _ _, Kd.R_nil _ _ _ _ _⟩

def OrderPost (w : World) (body : List Liter) (first : Int) (e : Ending) (w' : World) : Prop :=
  ∃ v, e = .returned (.tuple #[v, .int .i64 (orderOf body first).2]) ∧ Kd.R (Kd.int .i64) 3 w' w.heap.size (fun _ => True) v (ints (orderOf body first).1) ∧ Below w.heap.size w w'

set_option maxHeartbeats 8000000 in
set_option maxRecDepth 100000 in
theorem plan_Order_bad (w : World) (p : ByteArray) (Ah : Option Addr) (nh ch : Nat) (A0 : Option Addr) (c0 : Nat) (body : List Liter) (first : Int) (hbody : Kd.C k47 w A0 body.length body) (hbad : badFirst body first = true) :
    Calls Try.prog 17 #[.agg #[.string p, .slice Ah nh ch, .slice A0 body.length c0], .int .i64 first] w (OrderPost w body first) := by
  have hu := Try.underlying27
  have hu2 := Try.underlying47
  have hlen := hbody.2.1
  have HBd := Aside0.mk hbody
  have eg := enters_of Try.func39 (by kernel_rfl) rfl
  have HO : Aside0 (orderOf body first = ([], 1)) := ⟨by rw [orderOf, if_pos hbad]⟩
  have fin : Aside0 (∀ w', Below w.heap.size w w' → OrderPost w body first (.returned (.tuple #[.slice none 0 0, .int .i64 1])) w') := ⟨fun w' hb => ⟨_, by rw [HO.out], by rw [HO.out]; exact Kd.R_nil _ _ _ _ _, hb⟩⟩
  cases h1 : body.any odd with
  | true =>
    have H1 := Aside0.mk h1
    clear h1 hbody hbad
    go_enter Try.func17, Try.ntmps17
    go_wp2_with (go_at_call 40; go_must (refine (ContainsFuncLiter 39 #[] eg odd _ _ _ _ (Kd.C_alloc HBd.out _) (order1 _ _)).mono ?_); rintro e w1 ⟨rfl, hb⟩; rw [H1.out]; have HB := Aside0.mk (Below.then (below_alloc (Below.refl _ _) _) hb); clear hb)
    go_ret2
    exact fin.out _ HB.out
  | false =>
    have H1 := Aside0.mk h1
    by_cases h2 : first < -1
    · clear h1 hbody hbad
      go_enter Try.func17, Try.ntmps17
      go_wp2_with (go_at_call 40; go_must (refine (ContainsFuncLiter 39 #[] eg odd _ _ _ _ (Kd.C_alloc HBd.out _) (order1 _ _)).mono ?_); rintro e w1 ⟨rfl, hb⟩; rw [H1.out]; have HB := Aside0.mk (Below.then (below_alloc (Below.refl _ _) _) hb); have hr2 := Below.old hb (a := ⟨w.heap.size, 2, none⟩) (v := .slice A0 body.length c0) (by go_simp); clear hb)
      go_ret2
      exact fin.out _ HB.out
    · by_cases h3 : (body.length : Int) ≤ first
      · clear h1 hbody hbad
        go_enter Try.func17, Try.ntmps17
        go_wp2_with (go_at_call 40; go_must (refine (ContainsFuncLiter 39 #[] eg odd _ _ _ _ (Kd.C_alloc HBd.out _) (order1 _ _)).mono ?_); rintro e w1 ⟨rfl, hb⟩; rw [H1.out]; have HB := Aside0.mk (Below.then (below_alloc (Below.refl _ _) _) hb); have hr2 := Below.old hb (a := ⟨w.heap.size, 2, none⟩) (v := .slice A0 body.length c0) (by go_simp); clear hb)
        go_ret2
        exact fin.out _ HB.out
      · have h4 : 0 ≤ first ∧ (lit body first.toNat).kind ≠ 1 := by
          simp only [badFirst, h1, Bool.false_or, Bool.or_eq_true, Bool.and_eq_true, decide_eq_true_eq] at hbad
          rcases hbad with (hbad | hbad) | hbad
          · omega
          · omega
          · exact hbad
        obtain ⟨h4, h5⟩ := h4
        obtain ⟨k, rfl⟩ := Int.eq_ofNat_of_zero_le h4
        rw [Int.toNat_natCast] at h5
        have hk : k < body.length := by omega
        have hq : ((lit body k).kind != 1) = true := bne_iff_ne.2 h5
        obtain ⟨yad, yA2, yc2, ye1, yhx0, yhx1, yhx2, yhx3, yhx4, yhx5, yhx6, yhx7, yhx8, yhx9, yhx10, yhx11, yhx12, yhx13, yl2, yg2⟩ := at_Liter hbody (lit_at hk)
        cases ye1
        clear h1 hbody hbad h5 yhx1 yhx2 yhx3 yhx4 yhx5 yhx6 yhx7 yhx8 yhx9 yhx10 yhx11 yhx12 yhx13 yg2 yl2
        go_enter Try.func17, Try.ntmps17
        go_wp2_with (go_at_call 40; go_must (refine (ContainsFuncLiter 39 #[] eg odd _ _ _ _ (Kd.C_alloc HBd.out _) (order1 _ _)).mono ?_); rintro e w1 ⟨rfl, hb⟩; rw [H1.out]; have HB := Aside0.mk (Below.then (below_alloc (Below.refl _ _) _) hb); have hr2 := Below.old hb (a := ⟨w.heap.size, 2, none⟩) (v := .slice (some yad) body.length c0) (by go_simp); clear hb; have hx0 := Below.old HB.out yhx0)
        go_ret2
        exact fin.out _ HB.out
end Go.Proofs.Ythpejcnldecmoaa.H
namespace Go.Proofs.Ythpejcnldecmoaa.H
open Go.RowKit Go.Proofs.YthpejcnldecmoaaW.PrintWords Go.Proofs.YthpejcnldecmoaaW.PrintLast Go.Proofs.YthpejcnldecmoaaW.PrintMore
set_option linter.unusedVariables false

/-- what holds of a rule that is gone through -/
structure Going (body : List Liter) (s : Plan) : Prop where
  fine : Fine body s
  sum : s.order.length + s.left.length ≤ 1000
  bound : s.bound.length ≤ 1000 * s.order.length
theorem Going.take {body : List Liter} {s : Plan} {k : Nat} (h : Going body s) (hk : k ∈ s.left) : Going body (takeOf body s k) := by
  have h1 := takeOf_len (body := body) hk
  have h2 := h.fine.left k hk
  have h3 := h.fine.args _ (lit_mem h2)
  have h4 := names_len (lit body k).atom.args
  have h5 := h.sum
  have h6 := h.bound
  refine ⟨⟨h.fine.len, h.fine.args, fun x hx => h.fine.left x ((List.mem_filter.1 hx).1)⟩, ?_, ?_⟩
  · show (s.order ++ [k]).length + _ ≤ _
    simp only [List.length_append, List.length_singleton]
    omega
  · show (if _ then _ else _ : List ByteArray).length ≤ 1000 * (s.order ++ [k]).length
    simp only [List.length_append, List.length_singleton]
    split
    · rw [List.length_append]; omega
    · omega

set_option maxHeartbeats 16000000 in
set_option maxRecDepth 100000 in
theorem plan_Order_good (w : World) (p : ByteArray) (Ah : Option Addr) (nh ch : Nat) (A0 : Option Addr) (c0 : Nat) (body : List Liter) (first : Int) (hbody : Kd.C k47 w A0 body.length body) (hgood : badFirst body first = false)
    (hlen : body.length ≤ 1000) (hargs : ∀ l ∈ body, l.atom.args.length ≤ 1000) :
    Calls Try.prog 17 #[.agg #[.string p, .slice Ah nh ch, .slice A0 body.length c0], .int .i64 first] w (OrderPost w body first) := by
  have hu := Try.underlying27
  have hu2 := Try.underlying47
  have hu3 := Try.underlying78
  have HBd := Aside0.mk hbody
  have HAr := Aside0.mk hargs
  have eg := enters_of Try.func39 (by kernel_rfl) rfl
  have hg := hgood
  simp only [badFirst, Bool.or_eq_false_iff, decide_eq_false_iff_not] at hg
  obtain ⟨⟨⟨h1, h2⟩, h3⟩, h4⟩ := hg
  have H1 := Aside0.mk h1
  have hst : (0 ≤ first ∧ first.toNat < body.length ∧ (lit body first.toNat).kind = 1) ∨ first = -1 := by
    by_cases h0 : 0 ≤ first
    · refine .inl ⟨h0, by omega, ?_⟩
      simpa [h0] using h4
    · exact .inr (by omega)
  have HG := Aside0.mk hgood
  clear h1 h4 hgood hargs
  go_enter Try.func17, Try.ntmps17
  go_upto_region 2 with (fail)
  go_cut [37] (fun v37 wc => v37 = .bool false ∧ Aside0 (Below w.heap.size w wc) ∧ Aside0 (wc.cell? ⟨w.heap.size, 2, none⟩ = some (.slice A0 body.length c0)) ∧ Aside0 (w.heap.size < wc.heap.size))
  case first =>
    rcases hst with ⟨h0, hk, h5⟩ | rfl
    · obtain ⟨k, rfl⟩ := Int.eq_ofNat_of_zero_le h0
      rw [Int.toNat_natCast] at hk h5
      have hq : ((lit body k).kind != 1) = false := bne_eq_false_iff_eq.2 h5
      have hk2 : ¬ body.length ≤ k := by omega
      have hk3 : decide (body.length ≤ k) = false := decide_eq_false hk2
      have hk4 : decide ((k : Int) < -1) = false := decide_eq_false (by omega)
      obtain ⟨yad, yA2, yc2, ye1, yhx0, yhx1, yhx2, yhx3, yhx4, yhx5, yhx6, yhx7, yhx8, yhx9, yhx10, yhx11, yhx12, yhx13, yl2, yg2⟩ := at_Liter hbody (lit_at hk)
      cases ye1
      clear hbody h5 yhx1 yhx2 yhx3 yhx4 yhx5 yhx6 yhx7 yhx8 yhx9 yhx10 yhx11 yhx12 yhx13 yg2 yl2
      go_wp2_with (go_at_call 40; go_must (refine (ContainsFuncLiter 39 #[] eg odd _ _ _ _ (Kd.C_alloc HBd.out _) (order1 _ _)).mono ?_); rintro e w1 ⟨rfl, hb⟩; rw [H1.out]; have HB := Aside0.mk (Below.then (below_alloc (Below.refl _ _) _) hb); have hr2 := Below.old hb (a := ⟨w.heap.size, 2, none⟩) (v := .slice (some yad) body.length c0) (by go_simp); clear hb; have hx0 := Below.old HB.out yhx0)
      go_meet
      exact ⟨by first | rfl | simp [hk3, hk4], HB, ⟨hr2⟩, ⟨World.block_lt_of_cell? _ _ hr2⟩⟩
    · clear hbody
      go_wp2_with (go_at_call 40; go_must (refine (ContainsFuncLiter 39 #[] eg odd _ _ _ _ (Kd.C_alloc HBd.out _) (order1 _ _)).mono ?_); rintro e w1 ⟨rfl, hb⟩; rw [H1.out]; have HB := Aside0.mk (Below.then (below_alloc (Below.refl _ _) _) hb); have hr2 := Below.old hb (a := ⟨w.heap.size, 2, none⟩) (v := .slice A0 body.length c0) (by go_simp); clear hb)
      go_meet
      exact ⟨by first | rfl | (simp; omega), HB, ⟨hr2⟩, ⟨World.block_lt_of_cell? _ _ hr2⟩⟩
  case rest =>
    obtain ⟨rfl, HB, HR2, HZ⟩ := hcut
    have hr2 := HR2.out
    have hz := HZ.out
    clear hbody
    go_wp2
    have HP0 := Aside0.mk (planner_new w wc A0 c0 body HB.out)
    have hBz : wc.heap.size < (wc.alloc (.cells #[.slice A0 body.length c0, .slice none 0 0, .slice none 0 0, .slice none 0 0] 78)).heap.size := by simp
    clear hr2 hz HB HR2 HZ
    generalize wc.alloc (.cells #[.slice A0 body.length c0, .slice none 0 0, .slice none 0 0, .slice none 0 0] 78) = w2 at *
    generalize wc.heap.size = B at *
    go_loopg [8, 45] body.length (fun gg _ s45 wr => ∃ (kk : Nat) (vl : Value), kk ≤ body.length ∧ body.length - kk ≤ gg ∧ s45 = .int .i64 kk ∧ Aside0 (Pl w wr B A0 c0 body ⟨List.range kk, [], []⟩ vl (.slice none 0 0) (.slice none 0 0)))
    case atStart => exact ⟨0, _, Nat.zero_le _, by omega, rfl, HP0⟩
    case round =>
      obtain ⟨kk, vl, hkk, hgg, rfl, HP⟩ := hrel
      clear HP0 hBz
      by_cases hlt : kk < body.length
      · have hltz : (kk : Int) < (body.length : Int) := by omega
        have hc1 := HP.out.cell1
        have hBs := blk_lt HP.out.blk
        have hwz := HP.out.below.size
        have hfr : Aside0 (∀ k, wr.heap.size ≤ k → (k ≠ B ∧ some k ≠ (Value.slice none 0 0).ownBlock)) := ⟨fun k hk => ⟨by omega, by simp [Value.ownBlock]⟩⟩
        obtain ⟨Al, cl, rfl, -, -⟩ := Kd.R_reads HP.out.left
        have hll : Aside0 (((ints (List.range kk)).length + 1) * 8 ≤ 140737488355328) := ⟨by rw [ints_len, List.length_range]; omega⟩
        go_wp2_with (at_builtin; go_must (refine Kd.R_append (Kd.int .i64) (w0 := w) (W := wr) w.heap.size rfl (.tmp 52) (.tmp 54) 31 3 (.int .i64 0) 8 rfl Try.underlying31 infoInt rfl (by decide) (by omega) (.slice Al (ints (List.range kk)).length cl) (ints (List.range kk)) (kk : Int) [.int .i64 (kk : Int)] (fun k => k ≠ B ∧ some k ≠ (Value.slice none 0 0).ownBlock) (fun _ => False) rfl (by go_simp) rfl (fun _ h => h.elim) hfr.out HP.out.left HP.out.below hwz hll.out ?_); intro v1 w1 ho1 hb1 hg1 hat1; obtain ⟨Ao1, co1, rfl, -, -⟩ := Kd.R_reads ho1; have HP1 := Aside0.mk (HP.out.grow ho1 hb1 hg1 hat1); have hne : some B ≠ (Value.slice Al (ints (List.range kk)).length cl).ownBlock := fun e => (HP.out.left.1 B e.symm).1 rfl; have hc1' := hg1.cell hc1 hne; have hfz1' := blk_frozen (blk_grown HP.out.blk hg1 hne) 1; clear ho1 hb1 hg1 hat1 hne)
        go_roundg (body.length - (kk + 1))
        case measure => omega
        case rel => exact ⟨kk + 1, _, by omega, by omega, by go_num, by rw [List.range_succ]; simpa using HP1⟩
      · have hltz : ¬ (kk : Int) < (body.length : Int) := by omega
        obtain rfl : kk = body.length := by omega
        have HS0 : Aside0 (Going body (planStart body)) := ⟨⟨⟨hlen, HAr.out, fun x hx => List.mem_range.1 hx⟩, by simp [planStart]; omega, by simp [planStart]⟩⟩
        go_upto_if 60 with (fail)
        go_cut [] (fun wc => ∃ (s : Plan) (vl vb vo : Value), Aside0 (Pl w wc B A0 c0 body s vl vb vo) ∧ Aside0 (Going body s) ∧ Aside0 (s = (if 0 ≤ first then takeOf body (planStart body) first.toNat else planStart body)))
        case first =>
          rcases hst with ⟨h0, hk, h5⟩ | rfl
          · obtain ⟨k, rfl⟩ := Int.eq_ofNat_of_zero_le h0
            rw [Int.toNat_natCast] at hk h5
            have hkm : k ∈ (planStart body).left := List.mem_range.2 hk
            have HKm := Aside0.mk hkm
            clear h5 hkm
            go_wp2_with (go_at_call 41; go_must (refine (planner_take w _ B k A0 c0 body (planStart body) _ _ _ HP.out HS0.out.fine hk HBd.out (by simp [planStart]) (by simp [planStart])).mono ?_); rintro e w1 ⟨rfl, vl', vb', vo', hP'⟩; have HP' := Aside0.mk hP'; clear hP')
            go_meet
            exact ⟨_, vl', vb', vo', HP', ⟨HS0.out.take HKm.out⟩, ⟨by rw [if_pos h0]; rfl⟩⟩
          · go_wp2
            go_meet
            exact ⟨_, _, _, _, HP, HS0, ⟨by rw [if_neg (by omega)]; rfl⟩⟩
        case rest =>
          obtain ⟨s0, vl0, vb0, vo0, HP1, HS1, HE1⟩ := hcut
          clear HP HS0 hst
          have HT : Aside0 (orderOf body first = match runOf body body.length s0 with | some l => (l, 0) | none => ([], 6)) := ⟨by rw [HE1.out, orderOf, if_neg (by rw [HG.out]; decide)]; rfl⟩
          have hl0 : s0.left.length ≤ body.length := by
            rw [HE1.out]
            split
            · exact Nat.le_trans (List.length_filter_le _ _) (by simp [planStart])
            · simp [planStart]
          clear HE1
          go_wp2_with fail
          go_loopg [9] s0.left.length (fun gg _ wr => ∃ (s : Plan) (vl vb vo : Value), s.left.length ≤ gg ∧ Aside0 (Pl w wr B A0 c0 body s vl vb vo) ∧ Aside0 (Going body s) ∧ Aside0 (runOf body s.left.length s = runOf body body.length s0))
          case atStart => exact ⟨s0, vl0, vb0, vo0, Nat.le_refl _, HP1, HS1, ⟨runOf_any (Nat.le_refl _) hl0⟩⟩
          case round =>
            clear HP1 HS1 hl0
            obtain ⟨s, vl, vb, vo, hgg, HP, HS, HR⟩ := hrel
            obtain ⟨Al, cl, rfl, -, -⟩ := Kd.R_reads HP.out.left
            obtain ⟨Ao, co, rfl, -, -⟩ := Kd.R_reads HP.out.order
            have hc1 := HP.out.cell1
            have hc3 := HP.out.cell3
            have hso : s.order.length ≤ 1000 := by have := HS.out.sum; omega
            have hsb : s.bound.length ≤ 1000000000 := by have := HS.out.bound; omega
            by_cases hle : s.left = []
            · have hz : ¬ 0 < (ints s.left).length := by rw [hle]; simp [ints]
              have HQ : Aside0 (orderOf body first = (s.order, 0)) := ⟨by
                rw [HT.out, ← HR.out, runOf_step (Nat.le_refl _), if_pos hle]⟩
              clear hle
              go_wp2
              go_ret2
              exact ⟨_, by rw [HQ.out]; rfl, by rw [HQ.out]; exact Kd.R_mono HP.out.order (fun _ _ => trivial), HP.out.below⟩
            · have hz : 0 < (ints s.left).length := by rw [ints_len]; exact List.length_pos_iff.2 hle
              have HLe := Aside0.mk hle
              clear hle
              cases hT : testOf body s with
              | some k =>
                have ET : Aside0 (optInt (testOf body s) = (k : Int)) := ⟨by rw [hT]; rfl⟩
                have hn : nextOf body s = some k := by rw [nextOf, hT]
                have hkm := nextOf_mem hn
                have hkl := HS.out.fine.left k hkm
                have hlt := takeOf_len (body := body) hkm
                have HSt := Aside0.mk (HS.out.take hkm)
                have HRt : Aside0 (runOf body (takeOf body s k).left.length (takeOf body s k) = runOf body body.length s0) := ⟨by
                  rw [← HR.out, runOf_step (n := s.left.length) (Nat.le_refl _), if_neg HLe.out, hn]
                  exact runOf_any (Nat.le_refl _) (by omega)⟩
                clear hT hn hkm
                go_wp2_with (first
                  | (go_at_call 42; go_must (refine (planner_test w _ B A0 c0 body s _ _ _ HP.out HS.out.fine HBd.out).mono ?_); rintro e w1 ⟨rfl, hb⟩; rw [ET.out]; have HP1 := Aside0.mk (HP.out.then hb); clear hb)
                  | (go_at_call 41; go_must (refine (planner_take w _ B k A0 c0 body s _ _ _ HP1.out HS.out.fine hkl HBd.out hso hsb).mono ?_); rintro e w3 ⟨rfl, vl', vb', vo', hP'⟩; have HP3 := Aside0.mk hP'; clear hP'))
                go_roundg (takeOf body s k).left.length
                case measure => omega
                case rel => exact ⟨_, vl', vb', vo', Nat.le_refl _, HP3, HSt, HRt⟩
              | none =>
                have ET : Aside0 (optInt (testOf body s) = -1) := ⟨by rw [hT]; rfl⟩
                cases hB : bestOf body s with
                | some k =>
                  have EB : Aside0 (optInt (bestOf body s) = (k : Int)) := ⟨by rw [hB]; rfl⟩
                  have hn : nextOf body s = some k := by rw [nextOf, hT]; exact hB
                  have hkm := nextOf_mem hn
                  have hkl := HS.out.fine.left k hkm
                  have hlt := takeOf_len (body := body) hkm
                  have HSt := Aside0.mk (HS.out.take hkm)
                  have HRt : Aside0 (runOf body (takeOf body s k).left.length (takeOf body s k) = runOf body body.length s0) := ⟨by
                    rw [← HR.out, runOf_step (n := s.left.length) (Nat.le_refl _), if_neg HLe.out, hn]
                    exact runOf_any (Nat.le_refl _) (by omega)⟩
                  clear hT hB hn hkm
                  go_wp2_with (first
                    | (go_at_call 42; go_must (refine (planner_test w _ B A0 c0 body s _ _ _ HP.out HS.out.fine HBd.out).mono ?_); rintro e w1 ⟨rfl, hb⟩; rw [ET.out]; have HP1 := Aside0.mk (HP.out.then hb); clear hb)
                    | (go_at_call 43; go_must (refine (planner_best w _ B A0 c0 body s _ _ _ HP1.out HS.out.fine HBd.out).mono ?_); rintro e w2 ⟨rfl, hb⟩; rw [EB.out]; have HP2 := Aside0.mk (HP1.out.then hb); clear hb)
                    | (go_at_call 41; go_must (refine (planner_take w _ B k A0 c0 body s _ _ _ HP2.out HS.out.fine hkl HBd.out hso hsb).mono ?_); rintro e w3 ⟨rfl, vl', vb', vo', hP'⟩; have HP3 := Aside0.mk hP'; clear hP'))
                  go_roundg (takeOf body s k).left.length
                  case measure => omega
                  case rel => exact ⟨_, vl', vb', vo', Nat.le_refl _, HP3, HSt, HRt⟩
                | none =>
                  have EB : Aside0 (optInt (bestOf body s) = -1) := ⟨by rw [hB]; rfl⟩
                  have HQ : Aside0 (orderOf body first = ([], 6)) := ⟨by
                    rw [HT.out, ← HR.out, runOf_step (Nat.le_refl _), if_neg HLe.out, show nextOf body s = none by rw [nextOf, hT]; exact hB]⟩
                  clear hT hB
                  go_wp2_with (first
                    | (go_at_call 42; go_must (refine (planner_test w _ B A0 c0 body s _ _ _ HP.out HS.out.fine HBd.out).mono ?_); rintro e w1 ⟨rfl, hb⟩; rw [ET.out]; have HP1 := Aside0.mk (HP.out.then hb); clear hb)
                    | (go_at_call 43; go_must (refine (planner_best w _ B A0 c0 body s _ _ _ HP1.out HS.out.fine HBd.out).mono ?_); rintro e w2 ⟨rfl, hb⟩; rw [EB.out]; have HP2 := Aside0.mk (HP1.out.then hb); clear hb))
                  go_ret2
                  exact ⟨_, by rw [HQ.out]; rfl, by rw [HQ.out]; exact Kd.R_nil _ _ _ _ _, HP2.out.below⟩

theorem plan_Order (w : World) (p : ByteArray) (Ah : Option Addr) (nh ch : Nat) (A0 : Option Addr) (c0 : Nat) (body : List Liter) (first : Int) (hbody : Kd.C k47 w A0 body.length body)
    (hlen : body.length ≤ 1000) (hargs : ∀ l ∈ body, l.atom.args.length ≤ 1000) :
    Calls Try.prog 17 #[.agg #[.string p, .slice Ah nh ch, .slice A0 body.length c0], .int .i64 first] w (OrderPost w body first) := by
  cases h : badFirst body first with
  | true => exact plan_Order_bad w p Ah nh ch A0 c0 body first hbody h
  | false => exact plan_Order_good w p Ah nh ch A0 c0 body first hbody h hlen hargs
end Go.Proofs.Ythpejcnldecmoaa.H
namespace Go.Proofs.Ythpejcnldecmoaa.H
open Go.RowKit Go.Proofs.YthpejcnldecmoaaW.PrintWords Go.Proofs.YthpejcnldecmoaaW.PrintLast Go.Proofs.YthpejcnldecmoaaW.PrintMore
/-- plan.Order, as the printed texts call it -/
def plan_Order.f (_ : ByteArray) (_ : List Term) (l : List Liter) (first : Int) : Option (List Int × Int) :=
  if l.length ≤ 1000 ∧ ∀ y ∈ l, y.atom.args.length ≤ 1000 then some (ints (orderOf l first).1, (orderOf l first).2) else none
theorem plan_Order.calls (a0_0 : ByteArray) (A0_1 : Option Addr) (c0_1 : Nat) (l0_1 : List Term) (A0_2 : Option Addr) (c0_2 : Nat) (l0_2 : List Liter) (a1 : Int) (r1 : List Int) (r2 : Int) (w : World)
    (_ : Kd.C k45 w A0_1 l0_1.length l0_1) (_ : l0_1.length ≤ c0_1) (hr : Kd.C k47 w A0_2 l0_2.length l0_2) (_ : l0_2.length ≤ c0_2) (h : plan_Order.f a0_0 l0_1 l0_2 a1 = some (r1, r2)) :
    Calls Try.prog 17 #[.agg #[.string a0_0, .slice A0_1 l0_1.length c0_1, .slice A0_2 l0_2.length c0_2], .int .i64 a1] w fun e w' => ∃ v0_ : Value, e = .returned (.tuple #[v0_, .int .i64 r2]) ∧ Kd.R (Kd.int .i64) 3 w' w.heap.size (fun _ => True) v0_ r1 ∧ Below w.heap.size w w' := by
  unfold plan_Order.f at h
  split at h
  · rename_i hc
    cases h
    exact plan_Order w a0_0 A0_1 _ c0_1 A0_2 c0_2 l0_2 a1 hr hc.1 hc.2
  · cases h
end Go.Proofs.Ythpejcnldecmoaa.H
