import Derived.Test.YthpejcnldecmoaaPlanner6
namespace Go.Proofs.Ythpejcnldecmoaa.H
open Go.RowKit Go.Proofs.YthpejcnldecmoaaW.PrintWords Go.Proofs.YthpejcnldecmoaaW.PrintLast Go.Proofs.YthpejcnldecmoaaW.PrintMore
set_option linter.unusedVariables false

/-- what holds of a rule that is gone through -/
structure Going (body : List Liter) (s : Plan) : Prop where
  fine : Fine body s
  sum : s.order.length + s.left.length ≤ 1000
  bound : s.bound.length ≤ 1000 * s.order.length
theorem Going.take {body : List Liter} {s : Plan} {k : Nat} (h : Going body s) (hk : k ∈ s.left) : Going body (takeOf body s k) := by
  have h1 := takeOf_len (body := body) hk
  have h2 := h.fine.left k hk
  have h3 := h.fine.args _ (lit_mem h2)
  have h4 := names_len (lit body k).atom.args
  have h5 := h.sum
  have h6 := h.bound
  refine ⟨⟨h.fine.len, h.fine.args, fun x hx => h.fine.left x ((List.mem_filter.1 hx).1)⟩, ?_, ?_⟩
  · show (s.order ++ [k]).length + _ ≤ _
    simp only [List.length_append, List.length_singleton]
    omega
  · show (if _ then _ else _ : List ByteArray).length ≤ 1000 * (s.order ++ [k]).length
    simp only [List.length_append, List.length_singleton]
    split
    · rw [List.length_append]; omega
    · omega

set_option maxHeartbeats 16000000 in
set_option maxRecDepth 100000 in
theorem plan_Order_good (w : World) (p : ByteArray) (Ah : Option Addr) (nh ch : Nat) (A0 : Option Addr) (c0 : Nat) (body : List Liter) (first : Int) (hbody : Kd.C kLiter w A0 body.length body) (hgood : badFirst body first = false)
    (hlen : body.length ≤ 1000) (hargs : ∀ l ∈ body, l.atom.args.length ≤ 1000) :
    Calls Try.prog 17 #[.agg #[.string p, .slice Ah nh ch, .slice A0 body.length c0], .int .i64 first] w (OrderPost w body first) := by
  have hu := Try.underlying27
  have hu2 := Try.underlying47
  have hu3 := Try.underlying78
  have HBd := Aside0.mk hbody
  have HAr := Aside0.mk hargs
  have eg := enters_of Try.func39 (by kernel_rfl) rfl
  have hg := hgood
  simp only [badFirst, Bool.or_eq_false_iff, decide_eq_false_iff_not] at hg
  obtain ⟨⟨⟨h1, h2⟩, h3⟩, h4⟩ := hg
  have H1 := Aside0.mk h1
  have hst : (0 ≤ first ∧ first.toNat < body.length ∧ (lit body first.toNat).kind = 1) ∨ first = -1 := by
    by_cases h0 : 0 ≤ first
    · refine .inl ⟨h0, by omega, ?_⟩
      simpa [h0] using h4
    · exact .inr (by omega)
  have HG := Aside0.mk hgood
  clear h1 h4 hgood hargs
  go_enter Try.func17, Try.ntmps17
  go_upto_region 2 with (fail)
  go_cut [37] (fun v37 wc => v37 = .bool false ∧ Aside0 (Below w.heap.size w wc) ∧ Aside0 (wc.cell? ⟨w.heap.size, 2, none⟩ = some (.slice A0 body.length c0)) ∧ Aside0 (w.heap.size < wc.heap.size))
  case first =>
    rcases hst with ⟨h0, hk, h5⟩ | rfl
    · obtain ⟨k, rfl⟩ := Int.eq_ofNat_of_zero_le h0
      rw [Int.toNat_natCast] at hk h5
      have hq : ((lit body k).kind != 1) = false := bne_eq_false_iff_eq.2 h5
      have hk2 : ¬ body.length ≤ k := by omega
      have hk3 : decide (body.length ≤ k) = false := decide_eq_false hk2
      have hk4 : decide ((k : Int) < -1) = false := decide_eq_false (by omega)
      obtain ⟨yad, yA2, yc2, ye1, yhx0, yhx1, yhx2, yhx3, yhx4, yhx5, yhx6, yhx7, yhx8, yhx9, yhx10, yhx11, yhx12, yhx13, yl2, yg2⟩ := at_Liter hbody (lit_at hk)
      cases ye1
      clear hbody h5 yhx1 yhx2 yhx3 yhx4 yhx5 yhx6 yhx7 yhx8 yhx9 yhx10 yhx11 yhx12 yhx13 yg2 yl2
      go_wp2_with (go_at_call 40; go_must (refine (ContainsFuncLiter 39 #[] eg odd _ _ _ _ (Kd.C_alloc HBd.out _) (order1 _ _)).mono ?_); rintro e w1 ⟨rfl, hb⟩; rw [H1.out]; have HB := Aside0.mk (Below.then (below_alloc (Below.refl _ _) _) hb); have hr2 := Below.old hb (a := ⟨w.heap.size, 2, none⟩) (v := .slice (some yad) body.length c0) (by go_simp); clear hb; have hx0 := Below.old HB.out yhx0)
      go_meet
      exact ⟨by first | rfl | simp [hk3, hk4], HB, ⟨hr2⟩, ⟨World.block_lt_of_cell? _ _ hr2⟩⟩
    · clear hbody
      go_wp2_with (go_at_call 40; go_must (refine (ContainsFuncLiter 39 #[] eg odd _ _ _ _ (Kd.C_alloc HBd.out _) (order1 _ _)).mono ?_); rintro e w1 ⟨rfl, hb⟩; rw [H1.out]; have HB := Aside0.mk (Below.then (below_alloc (Below.refl _ _) _) hb); have hr2 := Below.old hb (a := ⟨w.heap.size, 2, none⟩) (v := .slice A0 body.length c0) (by go_simp); clear hb)
      go_meet
      exact ⟨by first | rfl | (simp; omega), HB, ⟨hr2⟩, ⟨World.block_lt_of_cell? _ _ hr2⟩⟩
  case rest =>
    obtain ⟨rfl, HB, HR2, HZ⟩ := hcut
    have hr2 := HR2.out
    have hz := HZ.out
    clear hbody
    go_wp2
    have HP0 := Aside0.mk (planner_new w wc A0 c0 body HB.out)
    have hBz : wc.heap.size < (wc.alloc (.cells #[.slice A0 body.length c0, .slice none 0 0, .slice none 0 0, .slice none 0 0] 78)).heap.size := by simp
    clear hr2 hz HB HR2 HZ
    generalize wc.alloc (.cells #[.slice A0 body.length c0, .slice none 0 0, .slice none 0 0, .slice none 0 0] 78) = w2 at *
    generalize wc.heap.size = B at *
    go_loopg [8, 45] body.length (fun gg _ s45 wr => ∃ (kk : Nat) (vl : Value), kk ≤ body.length ∧ body.length - kk ≤ gg ∧ s45 = .int .i64 kk ∧ Aside0 (Pl w wr B A0 c0 body ⟨List.range kk, [], []⟩ vl (.slice none 0 0) (.slice none 0 0)))
    case atStart => exact ⟨0, _, Nat.zero_le _, by omega, rfl, HP0⟩
    case round =>
      obtain ⟨kk, vl, hkk, hgg, rfl, HP⟩ := hrel
      clear HP0 hBz
      by_cases hlt : kk < body.length
      · have hltz : (kk : Int) < (body.length : Int) := by omega
        have hc1 := HP.out.cell1
        have hBs := blk_lt HP.out.blk
        have hwz := HP.out.below.size
        have hfr : Aside0 (∀ k, wr.heap.size ≤ k → (k ≠ B ∧ some k ≠ (Value.slice none 0 0).ownBlock)) := ⟨fun k hk => ⟨by omega, by simp [Value.ownBlock]⟩⟩
        obtain ⟨Al, cl, rfl, -, -⟩ := Kd.R_reads HP.out.left
        have hll : Aside0 (((ints (List.range kk)).length + 1) * 8 ≤ 140737488355328) := ⟨by rw [ints_len, List.length_range]; omega⟩
        go_wp2_with (at_builtin; go_must (refine Kd.R_append (Kd.int .i64) (w0 := w) (W := wr) w.heap.size rfl (.tmp 52) (.tmp 54) 31 3 (.int .i64 0) 8 rfl Try.underlying31 infoInt rfl (by decide) (by omega) (.slice Al (ints (List.range kk)).length cl) (ints (List.range kk)) (kk : Int) [.int .i64 (kk : Int)] (fun k => k ≠ B ∧ some k ≠ (Value.slice none 0 0).ownBlock) (fun _ => False) rfl (by go_simp) rfl (fun _ h => h.elim) hfr.out HP.out.left HP.out.below hwz hll.out ?_); intro v1 w1 ho1 hb1 hg1 hat1; obtain ⟨Ao1, co1, rfl, -, -⟩ := Kd.R_reads ho1; have HP1 := Aside0.mk (HP.out.grow ho1 hb1 hg1 hat1); have hne : some B ≠ (Value.slice Al (ints (List.range kk)).length cl).ownBlock := fun e => (HP.out.left.1 B e.symm).1 rfl; have hc1' := hg1.cell hc1 hne; have hfz1' := blk_frozen (blk_grown HP.out.blk hg1 hne) 1; clear ho1 hb1 hg1 hat1 hne)
        go_roundg (body.length - (kk + 1))
        case measure => omega
        case rel => exact ⟨kk + 1, _, by omega, by omega, by go_num, by rw [List.range_succ]; simpa using HP1⟩
      · have hltz : ¬ (kk : Int) < (body.length : Int) := by omega
        obtain rfl : kk = body.length := by omega
        have HS0 : Aside0 (Going body (planStart body)) := ⟨⟨⟨hlen, HAr.out, fun x hx => List.mem_range.1 hx⟩, by simp [planStart]; omega, by simp [planStart]⟩⟩
        go_upto_if 60 with (fail)
        go_cut [] (fun wc => ∃ (s : Plan) (vl vb vo : Value), Aside0 (Pl w wc B A0 c0 body s vl vb vo) ∧ Aside0 (Going body s) ∧ Aside0 (s = (if 0 ≤ first then takeOf body (planStart body) first.toNat else planStart body)))
        case first =>
          rcases hst with ⟨h0, hk, h5⟩ | rfl
          · obtain ⟨k, rfl⟩ := Int.eq_ofNat_of_zero_le h0
            rw [Int.toNat_natCast] at hk h5
            have hkm : k ∈ (planStart body).left := List.mem_range.2 hk
            have HKm := Aside0.mk hkm
            clear h5 hkm
            go_wp2_with (go_at_call 41; go_must (refine (planner_take w _ B k A0 c0 body (planStart body) _ _ _ HP.out HS0.out.fine hk HBd.out (by simp [planStart]) (by simp [planStart])).mono ?_); rintro e w1 ⟨rfl, vl', vb', vo', hP'⟩; have HP' := Aside0.mk hP'; clear hP')
            go_meet
            exact ⟨_, vl', vb', vo', HP', ⟨HS0.out.take HKm.out⟩, ⟨by rw [if_pos h0]; rfl⟩⟩
          · go_wp2
            go_meet
            exact ⟨_, _, _, _, HP, HS0, ⟨by rw [if_neg (by omega)]; rfl⟩⟩
        case rest =>
          obtain ⟨s0, vl0, vb0, vo0, HP1, HS1, HE1⟩ := hcut
          clear HP HS0 hst
          have HT : Aside0 (orderOf body first = match runOf body body.length s0 with | some l => (l, 0) | none => ([], 6)) := ⟨by rw [HE1.out, orderOf, if_neg (by rw [HG.out]; decide)]; rfl⟩
          have hl0 : s0.left.length ≤ body.length := by
            rw [HE1.out]
            split
            · exact Nat.le_trans (List.length_filter_le _ _) (by simp [planStart])
            · simp [planStart]
          clear HE1
          go_wp2_with fail
          go_loopg [9] s0.left.length (fun gg _ wr => ∃ (s : Plan) (vl vb vo : Value), s.left.length ≤ gg ∧ Aside0 (Pl w wr B A0 c0 body s vl vb vo) ∧ Aside0 (Going body s) ∧ Aside0 (runOf body s.left.length s = runOf body body.length s0))
          case atStart => exact ⟨s0, vl0, vb0, vo0, Nat.le_refl _, HP1, HS1, ⟨runOf_any (Nat.le_refl _) hl0⟩⟩
          case round =>
            clear HP1 HS1 hl0
            obtain ⟨s, vl, vb, vo, hgg, HP, HS, HR⟩ := hrel
            obtain ⟨Al, cl, rfl, -, -⟩ := Kd.R_reads HP.out.left
            obtain ⟨Ao, co, rfl, -, -⟩ := Kd.R_reads HP.out.order
            have hc1 := HP.out.cell1
            have hc3 := HP.out.cell3
            have hso : s.order.length ≤ 1000 := by have := HS.out.sum; omega
            have hsb : s.bound.length ≤ 1000000000 := by have := HS.out.bound; omega
            by_cases hle : s.left = []
            · have hz : ¬ 0 < (ints s.left).length := by rw [hle]; simp [ints]
              have HQ : Aside0 (orderOf body first = (s.order, 0)) := ⟨by
                rw [HT.out, ← HR.out, runOf_step (Nat.le_refl _), if_pos hle]⟩
              clear hle
              go_wp2
              go_ret2
              exact ⟨_, by rw [HQ.out]; rfl, by rw [HQ.out]; exact Kd.R_mono HP.out.order (fun _ _ => trivial), HP.out.below⟩
            · have hz : 0 < (ints s.left).length := by rw [ints_len]; exact List.length_pos_iff.2 hle
              have HLe := Aside0.mk hle
              clear hle
              cases hT : testOf body s with
              | some k =>
                have ET : Aside0 (optInt (testOf body s) = (k : Int)) := ⟨by rw [hT]; rfl⟩
                have hn : nextOf body s = some k := by rw [nextOf, hT]
                have hkm := nextOf_mem hn
                have hkl := HS.out.fine.left k hkm
                have hlt := takeOf_len (body := body) hkm
                have HSt := Aside0.mk (HS.out.take hkm)
                have HRt : Aside0 (runOf body (takeOf body s k).left.length (takeOf body s k) = runOf body body.length s0) := ⟨by
                  rw [← HR.out, runOf_step (n := s.left.length) (Nat.le_refl _), if_neg HLe.out, hn]
                  exact runOf_any (Nat.le_refl _) (by omega)⟩
                clear hT hn hkm
                go_wp2_with (first
                  | (go_at_call 42; go_must (refine (planner_test w _ B A0 c0 body s _ _ _ HP.out HS.out.fine HBd.out).mono ?_); rintro e w1 ⟨rfl, hb⟩; rw [ET.out]; have HP1 := Aside0.mk (HP.out.then hb); clear hb)
                  | (go_at_call 41; go_must (refine (planner_take w _ B k A0 c0 body s _ _ _ HP1.out HS.out.fine hkl HBd.out hso hsb).mono ?_); rintro e w3 ⟨rfl, vl', vb', vo', hP'⟩; have HP3 := Aside0.mk hP'; clear hP'))
                go_roundg (takeOf body s k).left.length
                case measure => omega
                case rel => exact ⟨_, vl', vb', vo', Nat.le_refl _, HP3, HSt, HRt⟩
              | none =>
                have ET : Aside0 (optInt (testOf body s) = -1) := ⟨by rw [hT]; rfl⟩
                cases hB : bestOf body s with
                | some k =>
                  have EB : Aside0 (optInt (bestOf body s) = (k : Int)) := ⟨by rw [hB]; rfl⟩
                  have hn : nextOf body s = some k := by rw [nextOf, hT]; exact hB
                  have hkm := nextOf_mem hn
                  have hkl := HS.out.fine.left k hkm
                  have hlt := takeOf_len (body := body) hkm
                  have HSt := Aside0.mk (HS.out.take hkm)
                  have HRt : Aside0 (runOf body (takeOf body s k).left.length (takeOf body s k) = runOf body body.length s0) := ⟨by
                    rw [← HR.out, runOf_step (n := s.left.length) (Nat.le_refl _), if_neg HLe.out, hn]
                    exact runOf_any (Nat.le_refl _) (by omega)⟩
                  clear hT hB hn hkm
                  go_wp2_with (first
                    | (go_at_call 42; go_must (refine (planner_test w _ B A0 c0 body s _ _ _ HP.out HS.out.fine HBd.out).mono ?_); rintro e w1 ⟨rfl, hb⟩; rw [ET.out]; have HP1 := Aside0.mk (HP.out.then hb); clear hb)
                    | (go_at_call 43; go_must (refine (planner_best w _ B A0 c0 body s _ _ _ HP1.out HS.out.fine HBd.out).mono ?_); rintro e w2 ⟨rfl, hb⟩; rw [EB.out]; have HP2 := Aside0.mk (HP1.out.then hb); clear hb)
                    | (go_at_call 41; go_must (refine (planner_take w _ B k A0 c0 body s _ _ _ HP2.out HS.out.fine hkl HBd.out hso hsb).mono ?_); rintro e w3 ⟨rfl, vl', vb', vo', hP'⟩; have HP3 := Aside0.mk hP'; clear hP'))
                  go_roundg (takeOf body s k).left.length
                  case measure => omega
                  case rel => exact ⟨_, vl', vb', vo', Nat.le_refl _, HP3, HSt, HRt⟩
                | none =>
                  have EB : Aside0 (optInt (bestOf body s) = -1) := ⟨by rw [hB]; rfl⟩
                  have HQ : Aside0 (orderOf body first = ([], 6)) := ⟨by
                    rw [HT.out, ← HR.out, runOf_step (Nat.le_refl _), if_neg HLe.out, show nextOf body s = none by rw [nextOf, hT]; exact hB]⟩
                  clear hT hB
                  go_wp2_with (first
                    | (go_at_call 42; go_must (refine (planner_test w _ B A0 c0 body s _ _ _ HP.out HS.out.fine HBd.out).mono ?_); rintro e w1 ⟨rfl, hb⟩; rw [ET.out]; have HP1 := Aside0.mk (HP.out.then hb); clear hb)
                    | (go_at_call 43; go_must (refine (planner_best w _ B A0 c0 body s _ _ _ HP1.out HS.out.fine HBd.out).mono ?_); rintro e w2 ⟨rfl, hb⟩; rw [EB.out]; have HP2 := Aside0.mk (HP1.out.then hb); clear hb))
                  go_ret2
                  exact ⟨_, by rw [HQ.out]; rfl, by rw [HQ.out]; exact Kd.R_nil _ _ _ _ _, HP2.out.below⟩

theorem plan_Order (w : World) (p : ByteArray) (Ah : Option Addr) (nh ch : Nat) (A0 : Option Addr) (c0 : Nat) (body : List Liter) (first : Int) (hbody : Kd.C kLiter w A0 body.length body)
    (hlen : body.length ≤ 1000) (hargs : ∀ l ∈ body, l.atom.args.length ≤ 1000) :
    Calls Try.prog 17 #[.agg #[.string p, .slice Ah nh ch, .slice A0 body.length c0], .int .i64 first] w (OrderPost w body first) := by
  cases h : badFirst body first with
  | true => exact plan_Order_bad w p Ah nh ch A0 c0 body first hbody h
  | false => exact plan_Order_good w p Ah nh ch A0 c0 body first hbody h hlen hargs
end Go.Proofs.Ythpejcnldecmoaa.H
