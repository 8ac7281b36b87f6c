import Derived.Test.YthpejcnldecmoaaPlanRows
import Derived.Deep.RegionHeld3
namespace Go.Proofs.Ythpejcnldecmoaa.H
open Go.RowKit Go.Proofs.YthpejcnldecmoaaW.PrintWords Go.Proofs.YthpejcnldecmoaaW.PrintLast Go.Proofs.YthpejcnldecmoaaW.PrintMore
set_option linter.unusedVariables false
theorem infoBool : (Try.prog.info? 4).map (fun i => (i.zero, i.size, i.bytes)) = some (some (.bool false), 1, 1) := by kernel_rfl
theorem few_len {l : List Liter} (h : few l = true) : l.length ≤ 20 ∧ ∀ y ∈ l, y.atom.args.length ≤ 20 := by
  simpa [few] using h

theorem take_snoc {l : List Nat} {i k : Nat} (h : l[i]? = some k) : l.take (i + 1) = l.take i ++ [k] := by rw [List.take_add_one, h]; rfl
abbrev SeesL (w6 : World) (b0 : Nat) (ad : Addr) (n cn : Nat) (adl : Addr) (kk k : Nat) (y : Liter) (A2 : Option Addr) (c2 : Nat) (w' : World) : Prop :=
  Below w6.heap.size w6 w' ∧ w'.cell? ⟨b0, 2, none⟩ = some (.slice (some ad) n cn) ∧ w'.cell? (adl.add kk) = some (.int .i64 k) ∧ w'.cell? (ad.add (k * 14)) = some (.int .i64 y.kind) ∧ w'.cell? ⟨(ad.add (k * 14)).block, (ad.add (k * 14)).off + 1, none⟩ = some (.string y.atom.pred) ∧ w'.cell? ⟨(ad.add (k * 14)).block, (ad.add (k * 14)).off + 2, none⟩ = some (.slice A2 y.atom.args.length c2) ∧ w'.cell? ⟨(ad.add (k * 14)).block, (ad.add (k * 14)).off + 3, none⟩ = some (.string y.op) ∧ w'.cell? ⟨(ad.add (k * 14)).block, (ad.add (k * 14)).off + 4, none⟩ = some (.bool y.l.isVar) ∧ w'.cell? ⟨(ad.add (k * 14)).block, (ad.add (k * 14)).off + 5, none⟩ = some (.string y.l.name) ∧ w'.cell? ⟨(ad.add (k * 14)).block, (ad.add (k * 14)).off + 6, none⟩ = some (.bool y.l.val.isSym) ∧ w'.cell? ⟨(ad.add (k * 14)).block, (ad.add (k * 14)).off + 7, none⟩ = some (.string y.l.val.sym) ∧ w'.cell? ⟨(ad.add (k * 14)).block, (ad.add (k * 14)).off + 8, none⟩ = some (.int .i64 y.l.val.n) ∧ w'.cell? ⟨(ad.add (k * 14)).block, (ad.add (k * 14)).off + 9, none⟩ = some (.bool y.r.isVar) ∧ w'.cell? ⟨(ad.add (k * 14)).block, (ad.add (k * 14)).off + 10, none⟩ = some (.string y.r.name) ∧ w'.cell? ⟨(ad.add (k * 14)).block, (ad.add (k * 14)).off + 11, none⟩ = some (.bool y.r.val.isSym) ∧ w'.cell? ⟨(ad.add (k * 14)).block, (ad.add (k * 14)).off + 12, none⟩ = some (.string y.r.val.sym) ∧ w'.cell? ⟨(ad.add (k * 14)).block, (ad.add (k * 14)).off + 13, none⟩ = some (.int .i64 y.r.val.n)
set_option maxHeartbeats 16000000 in
set_option maxRecDepth 100000 in
theorem PlanAll_walk (w : World) (x : Rule) (A1 : Option Addr) (c1 : Nat) (l1 : x.head.args.length ≤ c1) (g1 : Kd.C kTerm w A1 x.head.args.length x.head.args) (A2 : Option Addr) (c2 : Nat) (l2 : x.body.length ≤ c2) (g2 : Kd.C kLiter w A2 x.body.length x.body) (first : Int) (hf : (Lit.int .i64 first).wf = true) :
    Calls Try.prog 4 #[.agg #[.string x.head.pred, .slice A1 x.head.args.length c1, .slice A2 x.body.length c2], .int .i64 first] w fun e w' => e = .returned (.bool true) ∧ Below w.heap.size w w' := by
  have hu := Try.underlying45
  have hu2 := Try.underlying24
  have hu3 := Try.underlying47
  have hu4 := Try.underlying27
  have G2 := Aside0.mk g2
  clear g1 g2 l1 l2 hf
  go_enter Try.func4, Try.ntmps4
  go_upto_region 1 with (fail)
  have hx0 : (w.alloc (.cells #[.string x.head.pred, .slice A1 x.head.args.length c1, .slice A2 x.body.length c2] 27)).cell? ⟨w.heap.size, 0, none⟩ = some (.string x.head.pred) := by go_simp
  have hx1 : (w.alloc (.cells #[.string x.head.pred, .slice A1 x.head.args.length c1, .slice A2 x.body.length c2] 27)).cell? ⟨w.heap.size, 1, none⟩ = some (.slice A1 x.head.args.length c1) := by go_simp
  have hx2 : (w.alloc (.cells #[.string x.head.pred, .slice A1 x.head.args.length c1, .slice A2 x.body.length c2] 27)).cell? ⟨w.heap.size, 2, none⟩ = some (.slice A2 x.body.length c2) := by go_simp
  have HB0 := Aside0.mk (below_alloc (Below.refl w.heap.size w) (.cells #[.string x.head.pred, .slice A1 x.head.args.length c1, .slice A2 x.body.length c2] 27))
  replace G2 := Aside0.mk (Kd.C_alloc G2.out (.cells #[.string x.head.pred, .slice A1 x.head.args.length c1, .slice A2 x.body.length c2] 27))
  have hz0 : w.heap.size < (w.alloc (.cells #[.string x.head.pred, .slice A1 x.head.args.length c1, .slice A2 x.body.length c2] 27)).heap.size := by simp
  generalize w.alloc (.cells #[.string x.head.pred, .slice A1 x.head.args.length c1, .slice A2 x.body.length c2] 27) = w1 at *
  cases hfew : few x.body with
  | false =>
    have HF := Aside0.mk hfew
    clear hfew
    go_wp2_with (first
      | (go_at_call 15; go_must (refine (law13_shown _).mono ?_); rintro e w2 ⟨rfl, hb2⟩; have HB2 := Aside0.mk hb2; have hx02 := Below.old hb2 hx0; have hx12 := Below.old hb2 hx1; have hx22 := Below.old hb2 hx2; clear hb2)
      | (go_at_call 16; go_must (refine (law13_few _ _ _ _ _ _ _ x.body (Kd.C_below G2.out HB2.out)).mono ?_); rintro e w3 ⟨rfl, hb3⟩; rw [HF.out]; have HB3 := Aside0.mk (Below.then HB2.out hb3); clear hb3))
    go_ret
    exact ⟨rfl, Below.then HB0.out HB3.out⟩
  | true =>
    have HF := Aside0.mk hfew
    obtain ⟨hlen, hargs⟩ := few_len hfew
    have HAr := Aside0.mk hargs
    clear hfew hargs
    rcases order_code x.body first with ⟨hc, T⟩ | ⟨hc, hnil⟩
    · have HC := Aside0.mk hc
      have HT := Aside0.mk T
      clear hc T
      generalize hl : (orderOf x.body first).1 = l at HT
      have HL := Aside0.mk hl
      clear hl
      go_upto_region 8 with (first
        | (go_at_call 15; go_must (refine (law13_shown _).mono ?_); rintro e w2 ⟨rfl, hb2⟩; have HB2 := Aside0.mk hb2; have hx02 := Below.old hb2 hx0; have hx12 := Below.old hb2 hx1; have hx22 := Below.old hb2 hx2; clear hb2)
        | (go_at_call 16; go_must (refine (law13_few _ _ _ _ _ _ _ x.body (Kd.C_below G2.out HB2.out)).mono ?_); rintro e w3 ⟨rfl, hb3⟩; rw [HF.out]; have HB3 := Aside0.mk (Below.then HB2.out hb3); have hx03 := Below.old HB3.out hx0; have hx13 := Below.old HB3.out hx1; have hx23 := Below.old HB3.out hx2; clear hb3)
        | (go_at_call 17; go_must (refine (plan_Order _ _ _ _ _ _ _ x.body first (Kd.C_below G2.out HB3.out) (by omega) (fun y hy => by have := HAr.out y hy; omega)).mono ?_); rintro e w4 ⟨v6, rfl, hr4, hb4⟩; rw [HC.out]; rw [HL.out] at hr4; have HR4 := Aside0.mk (Kd.R_lower hr4 HB3.out.size); have HB4 := Aside0.mk (Below.then HB3.out hb4); have hx04 := Below.old HB4.out hx0; have hx14 := Below.old HB4.out hx1; have hx24 := Below.old HB4.out hx2; clear hb4 hr4)
        | (refine Kd.R_make Kd.bool (w0 := w1) w1.heap.size 4 rfl (N := 34) rfl 41 (.tmp 33) (.tmp 33) rfl (x.body.length : Int) (by go_simp) (by go_simp) Try.underlying41 (.bool false) 1 infoBool rfl (by decide) (by omega) false (ok := fun _ => True) (okp := fun _ => False) rfl (fun _ h => h.elim) trivial (by omega) (by simp; omega) HB4.out HB4.out.size ?_; intro v8 w5 hr5 hb5 hg5 hat5; have HR5 := Aside0.mk hr5; have HB5 := Aside0.mk hb5; have HG5 := Aside0.mk hg5; have HA5 := Aside0.mk hat5; clear hr5 hb5 hg5 hat5))
      have hr5 := HR5.out
      rw [Int.toNat_natCast] at hr5
      obtain ⟨g, hv8, hg8⟩ := HA5.out
      obtain ⟨⟨c8, rfl⟩, hS⟩ := seen_made hr5 hv8
      have hgS : g < w5.heap.size := by obtain ⟨cs, h1, _⟩ := hS; exact blk_lt h1
      have hg1 : w1.heap.size ≤ g := Nat.le_trans HB4.out.size hg8
      have hP : PR w1 w5.heap.size g w5 v6 (.slice none 0 0) l [] :=
        ⟨HB5.out, Nat.le_refl _, hgS, Kd.R_mono (Kd.R_grown (Kd.R_bound HR4.out) HG5.out (fun _ _ e => by cases e)) (fun k hk => ⟨by have := hk.2.2.1; omega, by have := hk.2.2.1; have := HG5.out.size; omega⟩), Kd.R_nil _ _ _ _ _⟩
      obtain ⟨A6, c6, rfl, -, -⟩ := Kd.R_reads hP.lrow
      have HP := Aside0.mk hP
      have HS := Aside0.mk hS
      have hx05 := Below.old HB5.out hx0
      have hx15 := Below.old HB5.out hx1
      have hx25 := Below.old HB5.out hx2
      have hll : Aside0 ((ints l).length = x.body.length) := ⟨by rw [ints_len, HT.out.len]⟩
      clear hr5 hv8 hg8 hS hP HR5 HA5 HG5 HR4 HB4 HB3 HB2 hx02 hx12 hx22 hx03 hx13 hx23 hx04 hx14 hx24 HC HL HF
      go_wp2_with fail
      generalize hSz : w5.heap.size = S at *
      go_loopg [9, 10] l.length (fun gg v9 s10 wr => ∃ kk : Nat, kk ≤ l.length ∧ l.length - kk ≤ gg ∧ s10 = .int .i64 kk ∧ Aside0 (PR w1 S g wr (.slice A6 (ints l).length c6) v9 l (boundOf x.body (l.take kk))) ∧ Aside0 (SeenAt wr g x.body.length (l.take kk)) ∧ Aside0 ((boundOf x.body (l.take kk)).length ≤ 20 * kk))
      case atStart => exact ⟨0, Nat.zero_le _, by omega, rfl, HP, HS, ⟨by simp [boundOf]⟩⟩
      case round =>
        obtain ⟨kk, hkk, hgg, rfl, HP2, HS2, HBn⟩ := hrel
        clear HP HS hx05 hx15 hx25
        have hbl := HP2.out.below
        have hx05 := Below.old hbl hx0
        have hx15 := Below.old hbl hx1
        have hx25 := Below.old hbl hx2
        by_cases hlt : kk < l.length
        · have hltz : (kk : Int) < ((ints l).length : Int) := by rw [ints_len]; omega
          obtain ⟨k, hk⟩ := at_some hlt
          have hkf := HT.out.fresh hk
          obtain ⟨A9, c9, rfl, -, -⟩ := Kd.R_reads HP2.out.brow
          obtain ⟨A6', c6', e6, -, hC6⟩ := Kd.R_reads HP2.out.lrow
          obtain ⟨rfl, -, rfl⟩ := (by simpa using e6 : A6 = A6' ∧ True ∧ c6 = c6')
          obtain ⟨ad, e1, hxl⟩ := at_int hC6 (ints_at hk)
          cases e1
          have hkn := hkf.1
          obtain ⟨yad, yA2, yc2, ye1, yhx0, yhx1, yhx2, yhx3, yhx4, yhx5, yhx6, yhx7, yhx8, yhx9, yhx10, yhx11, yhx12, yhx13, yl2, yg2⟩ := at_Liter (Kd.C_below G2.out HP2.out.below) (lit_at hkn)
          cases ye1
          have hsn := HS2.out.cell hkn
          rw [decide_eq_false hkf.2] at hsn
          have hsf := HS2.out.fz k
          have hk0 : ¬ (k : Int) < 0 := by omega
          have hkz : (k : Int) < (x.body.length : Int) := by omega
          have hkz2 : ¬ x.body.length ≤ k := by omega
          have HKn := Aside0.mk (HT.out.known hk)
          have HK := Aside0.mk hk
          have HKf := Aside0.mk hkf
          clear hk hkf hbl hC6
          go_upto_region 12 with (fail)
          go_quiet (fail)
          rename_i nq
          go_upto_region 15 with (fail)
          have HP3 := Aside0.mk ((HP2.out.then (W := wr.drewN nq) (pw_below_drewN (Below.refl _ _) nq)).put hg1 k (.bool true))
          have HS3 := Aside0.mk ((HS2.out.then (W := wr.drewN nq) (pw_below_drewN (Below.refl _ _) nq)).put hkn)
          clear HP2 HS2 hx05 hx15 hx25 hxl yhx0 yhx1 yhx2 yhx3 yhx4 yhx5 yhx6 yhx7 yhx8 yhx9 yhx10 yhx11 yhx12 yhx13 yg2 yl2 hsn hsf
          generalize (wr.drewN nq).setCell ⟨g, k, none⟩ (.bool true) = w6 at *
          have hx06 := Below.old HP3.out.below hx0
          have hx16 := Below.old HP3.out.below hx1
          have hx26 := Below.old HP3.out.below hx2
          have hxl : w6.cell? (ad.add kk) = some (.int .i64 k) := by
            obtain ⟨A6', c6', e6, -, hC6⟩ := Kd.R_reads HP3.out.lrow
            obtain ⟨ad', e1, hxl⟩ := at_int hC6 (ints_at HK.out)
            cases e1
            obtain ⟨rfl, -⟩ := (by simpa using e6 : ad = ad' ∧ c6 = c6')
            exact hxl
          obtain ⟨yad, yA2, yc2, ye1, yhx0, yhx1, yhx2, yhx3, yhx4, yhx5, yhx6, yhx7, yhx8, yhx9, yhx10, yhx11, yhx12, yhx13, yl2, yg2⟩ := at_Liter (Kd.C_below G2.out HP3.out.below) (lit_at hkn)
          cases ye1
          have KS : Aside0 (∀ w', Below w6.heap.size w6 w' → SeesL w6 w.heap.size yad x.body.length c2 ad kk k (lit x.body k) yA2 yc2 w') := ⟨fun w' hb => ⟨hb, Below.old hb hx26, Below.old hb hxl, Below.old hb yhx0, Below.old hb yhx1, Below.old hb yhx2, Below.old hb yhx3, Below.old hb yhx4, Below.old hb yhx5, Below.old hb yhx6, Below.old hb yhx7, Below.old hb yhx8, Below.old hb yhx9, Below.old hb yhx10, Below.old hb yhx11, Below.old hb yhx12, Below.old hb yhx13⟩⟩
          go_cut [11] (fun v11 wc => ∃ B, v11 = .pointer (some ⟨B, 0, none⟩) ∧ Aside0 (w6.heap.size ≤ B) ∧ Aside0 (wc.heap[B]? = some (.cells (have y := lit x.body k; have A2 := yA2; have c2 := yc2; #[.int .i64 y.kind, .string y.atom.pred, .slice A2 y.atom.args.length c2, .string y.op, .bool y.l.isVar, .string y.l.name, .bool y.l.val.isSym, .string y.l.val.sym, .int .i64 y.l.val.n, .bool y.r.isVar, .string y.r.name, .bool y.r.val.isSym, .string y.r.val.sym, .int .i64 y.r.val.n]) 47 (0, 0))) ∧ Aside0 (Below w6.heap.size w6 wc))
          case first =>
            clear hx0 hx1 hx2 hx06 hx16
            go_region_held3 (fun w' => SeesL w6 w.heap.size yad x.body.length c2 ad kk k (lit x.body k) yA2 yc2 w') (exact KS.out _ (by repeat (first | assumption | exact Below.refl _ _ | refine below_drew ?_ | refine below_alloc ?_ _))) (fail)
            all_goals
              go_wp2
              go_meet
              refine ⟨_, rfl, ⟨?_⟩, ⟨?_⟩, ⟨?_⟩⟩
              · exact Nat.le_refl _
              · exact blk_drew (blk_new _ _)
              · repeat (first | assumption | (with_reducible exact Below.refl _ _) | refine below_alloc ?_ _ | refine below_drew ?_ | refine pw_below_drewN ?_ _)
          case rest =>
            obtain ⟨B, rfl, HBs, HBk, HB7⟩ := hcut
            have HP7 := Aside0.mk (HP3.out.then HB7.out)
            have HS7 := Aside0.mk (HS3.out.then HB7.out)
            have HG7 := Aside0.mk (Kd.C_below yg2 HB7.out)
            have hbk := HBk.out
            have hc0 := (blk_cell hbk 0).trans rfl
            have hc1 := (blk_cell hbk 1).trans rfl
            have hc2 := (blk_cell hbk 2).trans rfl
            have hc3 := (blk_cell hbk 3).trans rfl
            have hc4 := (blk_cell hbk 4).trans rfl
            have hc5 := (blk_cell hbk 5).trans rfl
            have hc6 := (blk_cell hbk 6).trans rfl
            have hc7 := (blk_cell hbk 7).trans rfl
            have hc8 := (blk_cell hbk 8).trans rfl
            have hc9 := (blk_cell hbk 9).trans rfl
            have hc10 := (blk_cell hbk 10).trans rfl
            have hc11 := (blk_cell hbk 11).trans rfl
            have hc12 := (blk_cell hbk 12).trans rfl
            have hc13 := (blk_cell hbk 13).trans rfl
            have hargk : (lit x.body k).atom.args.length ≤ 20 := HAr.out _ (lit_mem hkn)
            have hk20 : kk < 20 := by have := HT.out.len; omega
            have htk : l.take (kk + 1) = l.take kk ++ [k] := take_snoc HK.out
            have HTk := Aside0.mk htk
            clear hbk HBk HP3 HS3 HB7 KS yhx0 yhx1 yhx2 yhx3 yhx4 yhx5 yhx6 yhx7 yhx8 yhx9 yhx10 yhx11 yhx12 yhx13 yg2 hx06 hx16 hx26 hxl htk
            by_cases hk1 : (lit x.body k).kind = 1
            · have hk1z : ((lit x.body k).kind == 1) = true := beq_iff_eq.2 hk1
              have HK1 := Aside0.mk hk1
              clear hk1
              go_wp2_with (first
                | (go_at_call 22; go_must (refine (ref09_Vars _ _ _ _ _ HG7.out (by omega)).mono ?_); rintro e w8 ⟨v8, rfl, hr8, hb8⟩; obtain ⟨A8, c8', rfl, -, hC8⟩ := Kd.R_reads hr8; have HC8 := Aside0.mk hC8; have HP8 := Aside0.mk (HP7.out.then hb8); have HS8 := Aside0.mk (HS7.out.then hb8); clear hr8 hb8 hC8)
                | (at_builtin; go_must (refine Kd.R_append_rows Kd.string (Rr := Kd.string.K w8) (w0 := w1) (W := w8) w1.heap.size rfl (.tmp 82) (.tmp 85) 28 9 (.string ⟨#[]⟩) 16 rfl Try.underlying28 infoStr rfl (by decide) (by omega) (.slice A9 (boundOf x.body (l.take kk)).length c9) (boundOf x.body (l.take kk)) (names (lit x.body k).atom.args) A8 (names (lit x.body k).atom.args).length c8' (fun q => q ≠ g ∧ S ≤ q) (fun _ => False) (by go_simp) (by go_simp) HP8.out.brow HC8.out (fun _ _ h => h) (fun _ h => h.elim) HP8.out.fresh HP8.out.below HP8.out.below.size (by have := names_len (lit x.body k).atom.args; have := HBn.out; omega) ?_); intro v9 w9 hr9 hb9 hg9 hat9; have HP9 := Aside0.mk (HP8.out.bind hr9 hb9 hg9); have HS9 := Aside0.mk (HS8.out.grown hg9 HP8.out.ne); clear hr9 hb9 hg9 hat9))
              go_roundg (l.length - (kk + 1))
              case measure => omega
              case rel =>
                refine ⟨kk + 1, by omega, by omega, by go_num, ?_, ?_, ?_⟩
                · rw [HTk.out, boundOf_snoc, if_pos HK1.out]
                  exact HP9
                · rw [HTk.out]
                  exact HS9
                · refine ⟨?_⟩
                  rw [HTk.out, boundOf_snoc, if_pos HK1.out, List.length_append]
                  have := names_len (lit x.body k).atom.args
                  have := HBn.out
                  omega
            · have hk1z : ((lit x.body k).kind == 1) = false := beq_eq_false_iff_ne.2 hk1
              have HK1 := Aside0.mk hk1
              have hkn2 : Aside0 (allKnown (boundOf x.body (l.take kk)) (litTerms (lit x.body k)) = true) := ⟨HKn.out.resolve_left hk1⟩
              clear hk1
              go_wp2_with (first
                | (go_at_call 24; go_must (refine (ref13_Terms _ (lit x.body k) _ _ yl2 HG7.out).mono ?_); rintro e w8 ⟨A8, c8', rfl, hC8, hb8⟩; have HC8 := Aside0.mk hC8; have HP8 := Aside0.mk (HP7.out.then hb8); have HS8 := Aside0.mk (HS7.out.then hb8); have HR8 : Aside0 (Kd.C Kd.string w8 A9 (boundOf x.body (l.take kk)).length (boundOf x.body (l.take kk))) := ⟨by obtain ⟨A', c', e', -, hC'⟩ := Kd.R_reads HP8.out.brow; obtain ⟨rfl, -⟩ := (by simpa using e' : A9 = A' ∧ c9 = c'); exact hC'⟩; clear hb8 hC8)
                | (go_at_call 23; go_must (refine (ref13_Known _ _ _ _ _ _ _ HC8.out HR8.out).mono ?_); rintro e w9 ⟨rfl, rfl⟩; rw [hkn2.out]))
              go_roundg (l.length - (kk + 1))
              case measure => omega
              case rel =>
                refine ⟨kk + 1, by omega, by omega, by go_num, ?_, ?_, ?_⟩
                · rw [HTk.out, boundOf_snoc, if_neg HK1.out]
                  exact HP8
                · rw [HTk.out]
                  exact HS8
                · refine ⟨?_⟩
                  rw [HTk.out, boundOf_snoc, if_neg HK1.out]
                  have := HBn.out
                  omega
        · have hltz : ¬ (kk : Int) < ((ints l).length : Int) := by rw [ints_len]; omega
          have hleq : (((ints l).length : Int) == (x.body.length : Int)) = true := by rw [hll.out]; exact beq_self_eq_true _
          obtain ⟨A6', c6', e6, -, hC6⟩ := Kd.R_reads HP2.out.lrow
          obtain ⟨rfl, -, rfl⟩ := (by simpa using e6 : A6 = A6' ∧ True ∧ c6 = c6')
          have HB2 := Aside0.mk (Below.then HB0.out HP2.out.below)
          by_cases hf0 : first < 0
          · clear hx0 hx1 hx2 HP2 HS2 hC6
            go_wp2
            go_ret
            exact ⟨rfl, HB2.out⟩
          · have hh := HT.out.head (by omega)
            obtain ⟨m, rfl⟩ := Int.eq_ofNat_of_zero_le (show 0 ≤ first by omega)
            rw [Int.toNat_natCast] at hh
            obtain ⟨ad, e1, hxl⟩ := at_int hC6 (ints_at hh)
            cases e1
            have hxl' : wr.cell? ad = some (.int .i64 m) := by simpa [Addr.add] using hxl
            have h0l : (0 : Int) < ((ints l).length : Int) := by
              have := (List.getElem?_eq_some_iff.1 hh).1
              rw [ints_len]; omega
            clear hx0 hx1 hx2 HP2 HS2 hC6 hh
            go_wp2
            go_ret
            exact ⟨rfl, HB2.out⟩
    · have HC : Aside0 (((orderOf x.body first).2 != 0) = true) := ⟨bne_iff_ne.2 hc⟩
      have hcz := HC.out
      have HN := Aside0.mk hnil
      clear hc hnil
      go_wp2_with (first
        | (go_at_call 15; go_must (refine (law13_shown _).mono ?_); rintro e w2 ⟨rfl, hb2⟩; have HB2 := Aside0.mk hb2; have hx02 := Below.old hb2 hx0; have hx12 := Below.old hb2 hx1; have hx22 := Below.old hb2 hx2; clear hb2)
        | (go_at_call 16; go_must (refine (law13_few _ _ _ _ _ _ _ x.body (Kd.C_below G2.out HB2.out)).mono ?_); rintro e w3 ⟨rfl, hb3⟩; rw [HF.out]; have HB3 := Aside0.mk (Below.then HB2.out hb3); have hx03 := Below.old HB3.out hx0; have hx13 := Below.old HB3.out hx1; have hx23 := Below.old HB3.out hx2; clear hb3)
        | (go_at_call 17; go_must (refine (plan_Order _ _ _ _ _ _ _ x.body first (Kd.C_below G2.out HB3.out) (by omega) (fun y hy => by have := HAr.out y hy; omega)).mono ?_); rintro e w4 ⟨v6, rfl, hr4, hb4⟩; rw [HN.out] at hr4; obtain ⟨A6, c6, rfl, -, -⟩ := Kd.R_reads hr4; have HB4 := Aside0.mk (Below.then HB3.out hb4); clear hb4 hr4))
      go_ret
      exact ⟨rfl, Below.then HB0.out HB4.out⟩
end Go.Proofs.Ythpejcnldecmoaa.H
