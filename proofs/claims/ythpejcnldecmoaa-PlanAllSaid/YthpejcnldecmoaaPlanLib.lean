import Derived.Test.YthpejcnldecmoaaCols
import Derived.Test.YthpejcnldecmoaaRowLib
namespace Go.Proofs.Ythpejcnldecmoaa.H
open Go.RowKit Go.Proofs.YthpejcnldecmoaaW.PrintWords Go.Proofs.YthpejcnldecmoaaW.PrintLast Go.Proofs.YthpejcnldecmoaaW.PrintMore
set_option linter.unusedVariables false
set_option maxHeartbeats 1000000 in
/-- slices.IndexFunc at string -/
theorem IndexFuncString (g : Nat) (lb : Array Value) (eg : ∀ args w, (callFunc g args).run Try.prog w = .ok (.enter g args) w) (p : ByteArray → Bool)
    (A0 : Option Addr) (c0 : Nat) (l0 : List ByteArray) (w : World) (hr0 : Kd.C Kd.string w A0 l0.length l0) (hp : PredK Try.prog g lb Value.string p w l0) :
    Calls Try.prog 48 #[.slice A0 l0.length c0, .func (.func g) #[] lb] w fun e w' => e = .returned (.int .i64 (idxP p l0 0)) ∧ Below w.heap.size w w' := by
  have HR := Aside0.mk hr0
  have HP := Aside0.mk hp
  have hl : l0.length ≤ 9223372036854775807 := hr0.2.1
  clear hr0 hp
  go_enter Try.func48, Try.ntmps48
  go_wp2
  go_loopg [5, 8] l0.length (fun gg _ s8 wr => ∃ kk : Nat, kk ≤ l0.length ∧ l0.length - kk ≤ gg ∧ s8 = .int .i64 kk ∧ Aside0 (Below w.heap.size w wr) ∧ Aside0 (idxP p l0 0 = idxP p (l0.drop kk) kk))
  case atStart => exact ⟨0, Nat.zero_le _, by omega, rfl, ⟨Below.refl _ w⟩, ⟨rfl⟩⟩
  case round =>
    obtain ⟨kk, hkk, hg, rfl, BW, A⟩ := hrel
    by_cases hlt : kk < l0.length
    · have hltz : (kk : Int) < (l0.length : Int) := by omega
      obtain ⟨y, hy⟩ := at_some hlt
      obtain ⟨ad, e1, hx⟩ := at_str HR.out hy
      cases e1
      replace hx := Below.old BW.out hx
      have hcall := HP.out wr y (List.mem_of_getElem? hy) BW.out
      have HA := Aside0.mk (A.out.trans (by rw [drop_cons hy]))
      clear A hy
      cases hq : p y with
      | true =>
        rw [hq] at hcall
        go_wp2_with (go_at_fn g; refine hcall.mono ?_; rintro e w' ⟨rfl, hb'⟩)
        go_ret
        exact ⟨by rw [HA.out, idxP, if_pos hq]; rfl, Below.then BW.out hb'⟩
      | false =>
        rw [hq] at hcall
        go_wp2_with (go_at_fn g; refine hcall.mono ?_; rintro e w' ⟨rfl, hb'⟩)
        go_roundg (l0.length - (kk + 1))
        case measure => omega
        case rel => exact ⟨kk + 1, by omega, by omega, by go_num, ⟨Below.then BW.out hb'⟩, ⟨by rw [HA.out, idxP, if_neg (by rw [hq]; decide)]⟩⟩
    · have hltz : ¬ (kk : Int) < (l0.length : Int) := by omega
      obtain rfl : kk = l0.length := by omega
      go_wp2
      go_ret
      exact ⟨by rw [A.out]; simp [idxP], BW.out⟩
set_option maxHeartbeats 1000000 in
/-- slices.IndexFunc at int -/
theorem IndexFuncInt (g : Nat) (lb : Array Value) (eg : ∀ args w, (callFunc g args).run Try.prog w = .ok (.enter g args) w) (p : Int → Bool)
    (A0 : Option Addr) (c0 : Nat) (l0 : List Int) (w : World) (hr0 : Kd.C (Kd.int .i64) w A0 l0.length l0) (hp : PredK Try.prog g lb (Value.int .i64) p w l0) :
    Calls Try.prog 57 #[.slice A0 l0.length c0, .func (.func g) #[] lb] w fun e w' => e = .returned (.int .i64 (idxP p l0 0)) ∧ Below w.heap.size w w' := by
  have HR := Aside0.mk hr0
  have HP := Aside0.mk hp
  have hl : l0.length ≤ 9223372036854775807 := hr0.2.1
  clear hr0 hp
  go_enter Try.func57, Try.ntmps57
  go_wp2
  go_loopg [5, 8] l0.length (fun gg _ s8 wr => ∃ kk : Nat, kk ≤ l0.length ∧ l0.length - kk ≤ gg ∧ s8 = .int .i64 kk ∧ Aside0 (Below w.heap.size w wr) ∧ Aside0 (idxP p l0 0 = idxP p (l0.drop kk) kk))
  case atStart => exact ⟨0, Nat.zero_le _, by omega, rfl, ⟨Below.refl _ w⟩, ⟨rfl⟩⟩
  case round =>
    obtain ⟨kk, hkk, hg, rfl, BW, A⟩ := hrel
    by_cases hlt : kk < l0.length
    · have hltz : (kk : Int) < (l0.length : Int) := by omega
      obtain ⟨y, hy⟩ := at_some hlt
      obtain ⟨ad, e1, hx⟩ := at_int HR.out hy
      cases e1
      replace hx := Below.old BW.out hx
      have hcall := HP.out wr y (List.mem_of_getElem? hy) BW.out
      have HA := Aside0.mk (A.out.trans (by rw [drop_cons hy]))
      clear A hy
      cases hq : p y with
      | true =>
        rw [hq] at hcall
        go_wp2_with (go_at_fn g; refine hcall.mono ?_; rintro e w' ⟨rfl, hb'⟩)
        go_ret
        exact ⟨by rw [HA.out, idxP, if_pos hq]; rfl, Below.then BW.out hb'⟩
      | false =>
        rw [hq] at hcall
        go_wp2_with (go_at_fn g; refine hcall.mono ?_; rintro e w' ⟨rfl, hb'⟩)
        go_roundg (l0.length - (kk + 1))
        case measure => omega
        case rel => exact ⟨kk + 1, by omega, by omega, by go_num, ⟨Below.then BW.out hb'⟩, ⟨by rw [HA.out, idxP, if_neg (by rw [hq]; decide)]⟩⟩
    · have hltz : ¬ (kk : Int) < (l0.length : Int) := by omega
      obtain rfl : kk = l0.length := by omega
      go_wp2
      go_ret
      exact ⟨by rw [A.out]; simp [idxP], BW.out⟩
/-- slices.ContainsFunc at string -/
theorem ContainsFuncString (g : Nat) (lb : Array Value) (eg : ∀ args w, (callFunc g args).run Try.prog w = .ok (.enter g args) w) (p : ByteArray → Bool)
    (A0 : Option Addr) (c0 : Nat) (l0 : List ByteArray) (w : World) (hr0 : Kd.C Kd.string w A0 l0.length l0) (hp : PredK Try.prog g lb Value.string p w l0) :
    Calls Try.prog 63 #[.slice A0 l0.length c0, .func (.func g) #[] lb] w fun e w' => e = .returned (.bool (l0.any p)) ∧ Below w.heap.size w w' := by
  have HR := Aside0.mk hr0
  have HP := Aside0.mk hp
  clear hr0 hp
  go_enter Try.func63, Try.ntmps63
  go_wp2_with (go_at_call 48; go_must (refine (IndexFuncString g lb eg p _ _ _ _ HR.out HP.out).mono ?_); rintro e w' ⟨rfl, hb⟩)
  go_ret
  exact ⟨by rw [← idxP_any]; rfl, hb⟩
set_option maxHeartbeats 4000000 in
set_option maxRecDepth 100000 in
/-- slices.DeleteFunc at int: elements of one cell -/
theorem DeleteFuncInt (g : Nat) (lb : Array Value) (eg : ∀ args w, (callFunc g args).run Try.prog w = .ok (.enter g args) w) (p : Int → Bool) (base : Nat) (ok : Nat → Prop)
    (v : Value) (l : List Int) (w : World) (ho : Kd.R (Kd.int .i64) 3 w base ok v l) (hp : PredG Try.prog g lb (Value.int .i64) p w v.ownBlock l) :
    Calls Try.prog 55 #[v, .func (.func g) #[] lb] w fun e w' => ∃ v', e = .returned v' ∧ Kd.R (Kd.int .i64) 3 w' base ok v' (l.filter fun x => !p x) ∧ w.grownBy w' v.ownBlock ∧ v'.ownBlock = v.ownBlock := by
  obtain ⟨A, c, rfl, hlc, hC⟩ := Kd.R_reads ho
  have hl : l.length ≤ 9223372036854775807 := hC.2.1
  have hIF := IndexFuncInt g lb eg p A c l w hC hp.k
  rcases idxP_cases p l 0 with ⟨e1, hall⟩ | ⟨k0, y0, e1, hy0, ht, hall⟩
  · rw [e1] at hIF
    have hf : (l.filter fun x => !p x) = l := List.filter_eq_self.2 (fun x hx => by simp [hall x hx])
    have HO := Aside0.mk ho
    have HF := Aside0.mk hf
    clear ho hp hC hf hall e1
    go_enter Try.func55, Try.ntmps55
    go_wp2_with (go_at_call 57; refine hIF.mono ?_; rintro e w' ⟨rfl, hb⟩)
    go_ret
    exact ⟨_, rfl, by rw [HF.out]; exact Kd.R_below HO.out hb, grown_of_below hb _, rfl⟩
  · rw [e1, Nat.zero_add] at hIF
    have hk0 : k0 < l.length := (List.getElem?_eq_some_iff.1 hy0).1
    obtain ⟨b, cap, e2, hbb, hbl, cells0, hcells0⟩ := Kd.R_form ho (by omega)
    cases e2
    have hne1 : ((k0 : Int) == -1) = false := beq_eq_false_iff_ne.2 (by omega)
    have HI0 := Aside0.mk (KeptIv.start (q := fun x => !p x) (fun x hx => by simp [hall x hx]) hy0 (by simp [ht]))
    have HO := Aside0.mk ho
    have HP := Aside0.mk hp
    clear ho hp hC hall e1 hy0 ht hcells0
    go_enter Try.func55, Try.ntmps55
    go_wp2_with (go_at_call 57; refine hIF.mono ?_; rintro e w0 ⟨rfl, hb0⟩; have HB0 := Aside0.mk hb0; clear hb0)
    go_loopg [5, 6, 7] l.length (fun gg s5 s6 _ wr => ∃ (i j : Nat) (dk : List Int), s5 = .int .i64 i ∧ s6 = .int .i64 j ∧ j ≤ l.length ∧ i < j ∧ l.length - j ≤ gg ∧ Aside0 (KeptIv (fun x => !p x) l j i dk) ∧ Aside0 (Kd.R (Kd.int .i64) 3 wr base ok (.slice (some ⟨b, 0, none⟩) l.length c) dk) ∧ Aside0 (w.grownBy wr (some b)))
    case atStart => exact ⟨k0, k0 + 1, l, rfl, by go_num, by omega, by omega, by omega, HI0, ⟨Kd.R_below HO.out HB0.out⟩, ⟨grown_of_below HB0.out _⟩⟩
    case round =>
      clear HI0 HO
      obtain ⟨i, j, dk, rfl, rfl, hjl, hij, hgg, HI, HO, HG⟩ := hrel
      have hdl := HI.out.len
      by_cases hlt : j < l.length
      · have hltz : (j : Int) < (l.length : Int) := by omega
        obtain ⟨y, hy⟩ := at_some hlt
        have hyd : dk[j]? = some y := by
          have := congrArg (fun z => z[0]?) HI.out.high
          simpa [hy] using this
        obtain ⟨-, -, hC⟩ := Kd.R_reads' HO.out
        obtain ⟨ad, e1, hx⟩ := at_int hC hyd
        cases e1
        rw [add_plain] at hx
        have hcall := HP.out wr y (List.mem_of_getElem? hy) HG.out
        have HY := Aside0.mk hy
        clear hy hyd hC
        cases hq : p y with
        | true =>
          rw [hq] at hcall
          go_wp2_with (go_at_fn g; refine hcall.mono ?_; rintro e w' ⟨rfl, hb'⟩; have HB' := Aside0.mk hb'; clear hb')
          go_roundg (l.length - (j + 1))
          case measure => omega
          case rel => exact ⟨i, j + 1, dk, rfl, by go_num, by omega, by omega, by omega, ⟨HI.out.skip HY.out (by simp [hq])⟩, ⟨Kd.R_below HO.out HB'.out⟩, ⟨grown_trans HG.out (grown_of_below HB'.out _)⟩⟩
        | false =>
          rw [hq] at hcall
          obtain ⟨yi, hyi⟩ : ∃ yi, dk[i]? = some yi := at_some (by omega)
          obtain ⟨-, -, hC⟩ := Kd.R_reads' HO.out
          obtain ⟨ad, e1, hxi⟩ := at_int hC hyi
          cases e1
          rw [add_plain] at hxi
          clear hyi hC
          go_wp2_with (go_at_fn g; refine hcall.mono ?_; rintro e w' ⟨rfl, hb'⟩; have HO1 := Aside0.mk (Kd.R_below HO.out hb'); have hxi1 := Below.old hb' hxi; obtain ⟨cells, hcells⟩ := R_blk HO1.out; have hfz := blk_frozen hcells i; have HB' := Aside0.mk hb'; clear hb' hcells)
          obtain ⟨hp1, hp2⟩ := R_put1 HO1.out i y
          go_roundg (l.length - (j + 1))
          case measure => omega
          case rel => exact ⟨i + 1, j + 1, dk.set i y, by go_num, by go_num, by omega, by omega, by omega, ⟨HI.out.keep HY.out (by simp [hq])⟩, ⟨hp1⟩, ⟨grown_trans HG.out (grown_trans (grown_of_below HB'.out _) hp2)⟩⟩
      · have hltz : ¬ (j : Int) < (l.length : Int) := by omega
        obtain rfl : j = l.length := by omega
        obtain ⟨cells, hcells⟩ := R_blk HO.out
        have hsz := R_size HO.out hcells
        obtain ⟨vs, hclr⟩ := run_clear_row (P := Try.prog) wr 31 3 0 (.int .i64 0) Try.underlying31 Try.zeroValue3 (by intro v hv; simp [Value.cells] at hv; subst hv; rfl) b i (l.length - i) (c - i) cells hcells (by have h1 := hsz.1; have h2 := hsz.2; have h3 : (Kd.int .i64).sz = 1 := rfl; rw [h3] at h1; simp [Value.cells]; omega)
        obtain ⟨cur', h1, h2, h3, h4⟩ := setCells_row vs i wr cells hcells
        have HR := Aside0.mk (R_cut HO.out (by omega : i ≤ dk.length) h4 hcells h1 h2 (fun j hj => h3 j (by have h3 : (Kd.int .i64).sz = 1 := rfl; rw [h3] at hj; omega)))
        have HG4 := Aside0.mk h4
        clear h1 h2 h3 h4 hsz hcells
        have HL := Aside0.mk hdl
        clear hdl
        go_wp2
        go_ret
        exact ⟨_, rfl, by
          have := HI.out.low
          rw [List.take_length] at this
          rw [← this]; exact HR.out, grown_trans HG.out HG4.out, rfl⟩
end Go.Proofs.Ythpejcnldecmoaa.H
