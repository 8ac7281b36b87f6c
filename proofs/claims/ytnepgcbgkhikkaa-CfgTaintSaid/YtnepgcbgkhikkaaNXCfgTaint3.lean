/- RowCfgTaint of the seat's law CfgTaint: the law holds, under the statement's own conditions. -/
import Derived.Test.YtnepgcbgkhikkaaNXCfgTaint2
import Derived.Test.YtnepgcbgkhikkaaNXCfgTaint
import Derived.Deep.DeepMust
import Derived.Test.YtnepgcbgkhikkaaNXCfgTaint1
import Derived.Maps.Own
import Derived.Maps.Views
import Derived.OpenShut
import Derived.SizedLaws
import Derived.DataReads
import Derived.Test.YtnepgcbgkhikkaaRows
import Derived.Test.YtnepgcbgkhikkaaNW
import Derived.WalkKit
import Derived.ProofKit
import Derived.ShutString
import Derived.ChangeOld
import Derived.Below
import Derived.Carry
/- what is tainted on a trace is tainted as the steps tell -/
namespace Go.Proofs.Ytnepgcbgkhikkaa.H
open Go.RowKit Go.Proofs.YtnepgcbgkhikkaaW.PrintWords
set_option linter.unusedVariables false
set_option linter.unusedSimpArgs false
theorem idxP_mem {α : Type} (p : α → Bool) : ∀ (l : List α) (i : Nat), (∃ x ∈ l, p x = true) → 0 ≤ idxP p l i
  | [], i, h => by obtain ⟨x, hx, -⟩ := h; simp at hx
  | y :: l, i, h => by
    unfold idxP
    split
    · omega
    · rename_i c
      refine idxP_mem p l (i + 1) ?_
      obtain ⟨x, hx, hp⟩ := h
      rcases List.mem_cons.1 hx with rfl | hx
      · exact absurd hp c
      · exact ⟨x, hx, hp⟩
theorem idxP_not {α : Type} (p : α → Bool) : ∀ (l : List α) (i : Nat), (∀ x ∈ l, p x = false) → idxP p l i = -1
  | [], i, h => rfl
  | y :: l, i, h => by
    unfold idxP
    rw [if_neg (by rw [h y (by simp)]; simp)]
    exact idxP_not p l (i + 1) (fun x hx => h x (List.mem_cons_of_mem _ hx))
theorem idxS_mem {names : List ByteArray} {x : ByteArray} : 0 ≤ idxS names x ↔ x ∈ names := by
  constructor
  · intro h
    by_cases c : x ∈ names
    · exact c
    · have := idxP_not (fun y => decide (y = x)) names 0 (fun y hy => by simp; rintro rfl; exact c hy)
      unfold idxS at h
      omega
  · intro h
    exact idxP_mem _ _ _ ⟨x, h, by simp⟩
def TaintP (s : List Stmt) (names : List ByteArray) (n : Int) (x : ByteArray) : Prop := Tnt (stepsP s names) (srcsP s names) (atP names n x)
theorem at_nat {s : List Stmt} {n : Int} (h0 : 0 ≤ n) : ((n.toNat : Nat) : Int) = n := by omega
theorem kept_step {s : List Stmt} {names : List ByteArray} {n m : Int} {y : ByteArray} (h0 : 0 ≤ n) (h1 : n < (s.length : Int)) (hm : m ∈ nxt s n) (hy : y ∈ names) (hd : defB (at_ s n) y = false) (h : TaintP s names n y) : TaintP s names m y := by
  refine .step h ?_
  unfold stepsP stepsAt
  refine List.mem_flatMap.2 ⟨n.toNat, List.mem_range.2 (by omega), ?_⟩
  rw [at_nat (s := s) h0]
  refine List.mem_flatMap.2 ⟨m, hm, ?_⟩
  unfold stF
  refine List.mem_append_left _ (List.mem_flatMap.2 ⟨y, hy, ?_⟩)
  unfold keptF
  rw [if_neg (by rw [hd]; simp)]
  simp
theorem used_step {s : List Stmt} {names : List ByteArray} {n m : Int} {y : ByteArray} (h0 : 0 ≤ n) (h1 : n < (s.length : Int)) (hm : m ∈ nxt s n) (hk : opK (at_ s n)) (hy : y ∈ usesS (at_ s n)) (h : TaintP s names n y) : TaintP s names m (defN (at_ s n)).1 := by
  refine .step h ?_
  unfold stepsP stepsAt
  refine List.mem_flatMap.2 ⟨n.toNat, List.mem_range.2 (by omega), ?_⟩
  rw [at_nat (s := s) h0]
  refine List.mem_flatMap.2 ⟨m, hm, ?_⟩
  unfold stF
  rw [if_pos hk]
  exact List.mem_append_right _ (List.mem_map.2 ⟨y, hy, rfl⟩)
theorem source_step {s : List Stmt} {names : List ByteArray} {n m : Int} (h0 : 0 ≤ n) (h1 : n < (s.length : Int)) (hm : m ∈ nxt s n) (hk : (at_ s n).kind = 4) : TaintP s names m (defN (at_ s n)).1 := by
  refine .base ?_
  unfold srcsP srcsAt
  refine List.mem_flatMap.2 ⟨n.toNat, List.mem_range.2 (by omega), ?_⟩
  rw [at_nat (s := s) h0]
  refine List.mem_flatMap.2 ⟨m, hm, ?_⟩
  unfold srcF
  rw [if_pos hk]
  simp
theorem getV_spec {vs : List Var} {x : ByteArray} (h : x ∈ vs.map Var.name) : ∃ (k : Nat) (v : Var), vs[k]? = some v ∧ getV vs x = v ∧ v.name = x := by
  obtain ⟨k, y, h1, h2, h3⟩ := getV_at vs 0 h
  refine ⟨k, y, h2, h3, ?_⟩
  rw [← h3]
  unfold getV
  cases hf : vs.find? (fun p => decide (p.name = x)) with
  | none =>
    rw [List.find?_eq_none] at hf
    obtain ⟨w, hw, ew⟩ := List.mem_map.1 h
    exact absurd ew (by simpa using hf w hw)
  | some w => simpa using List.find?_some hf
def okT (l : List Stmt) (n : Int) (v : Var) : Prop := v.taint = true → TaintP l (nmsV l) n v.name
theorem okT_next {l : List Stmt} {s : St} (h : inS l s) (h' : inS l (nextS l s)) (hn : s.vs.map Var.name = nmsV l) (ho : ∀ (i : Nat) v, s.vs[i]? = some v → okT l s.n v) : ∀ (i : Nat) v, (nextS l s).vs[i]? = some v → okT l (nextS l s).n v := by
  intro i v hv ht
  obtain ⟨st, e, hm, hx⟩ := inS_at h
  have hl := leads h h'
  have ha := stmt_at2 h e
  have hk := known_of (l := l) hm
  have hg : ∀ x, x ∈ nmsV l → (getV s.vs x).taint = true → TaintP l (nmsV l) s.n x := by
    intro x hx hq
    obtain ⟨k, w, h1, h2, h3⟩ := getV_spec (vs := s.vs) (x := x) (by rw [hn]; exact hx)
    rw [h2] at hq
    have := ho k w h1 hq
    rwa [h3] at this
  rcases vars_next h hn e hv with ⟨hd, hv⟩ | ⟨hkd, rfl⟩
  · have hvn : v.name ∈ nmsV l := by rw [← hn]; exact List.mem_map.2 ⟨v, List.mem_of_getElem? hv, rfl⟩
    exact kept_step h.1 h.2 hl hvn (by rw [← Bool.not_eq_true, defB_at h e]; exact hd) (ho i v hv ht)
  · have hdn : defN (at_ l s.n) = (st.x, true) := by
      rw [ha]; unfold defN; unfold defK at hkd; rw [if_pos hkd]
    rw [(madeV_name st s.n.toNat s.vs s.ins).1]
    have used : opK st → ∀ y, y ∈ usesS st → TaintP l (nmsV l) s.n y → TaintP l (nmsV l) (nextS l s).n st.x := by
      intro ho y hy hT
      have := used_step h.1 h.2 hl (by rw [ha]; exact ho) (by rw [ha]; exact hy) hT
      rwa [hdn] at this
    unfold madeV at ht
    by_cases k1 : st.kind = 1
    · rw [if_pos k1] at ht; cases ht
    rw [if_neg k1] at ht
    by_cases k2 : st.kind = 2
    · rw [if_pos k2] at ht
      have hu : ∀ y, y = st.y ∨ y = st.z → y ∈ usesS st := by
        intro y hy
        unfold usesS
        rw [if_pos k2]
        exact mem_setS.2 (by simpa using hy)
      replace ht : or (getV s.vs st.y).taint (getV s.vs st.z).taint = true := ht
      rcases Bool.or_eq_true_iff.1 ht with q | q
      · exact used (.inl k2) st.y (hu _ (.inl rfl)) (hg _ (hk.y (.inl k2)) q)
      · exact used (.inl k2) st.z (hu _ (.inr rfl)) (hg _ (hk.z k2) q)
    rw [if_neg k2] at ht
    by_cases k3 : st.kind = 3
    · rw [if_pos k3] at ht
      have hu : st.y ∈ usesS st := by
        unfold usesS
        rw [if_neg k2, if_pos (.inl k3)]
        simp
      exact used (.inr k3) st.y hu (hg _ (hk.y (.inr (.inl k3))) ht)
    rw [if_neg k3] at ht
    by_cases k4 : st.kind = 4
    · have := source_step h.1 h.2 (names := nmsV l) hl (by rw [ha]; exact k4)
      rwa [hdn] at this
    rw [if_neg k4] at ht
    cases ht
theorem okT_all {l : List Stmt} {s : St} (hn : s.vs.map Var.name = nmsV l) (ho : ∀ (i : Nat) v, s.vs[i]? = some v → okT l s.n v) : ∀ (m : Nat), (∀ i, i ≤ m → inS l (sN l s i)) → ∀ (i : Nat) v, (sN l s m).vs[i]? = some v → okT l (sN l s m).n v
  | 0, _ => ho
  | m + 1, h => okT_next (h m (by omega)) (h (m + 1) (by omega)) (names_sN hn m (fun i hi => h i (by omega))) (okT_all hn ho m (fun i hi => h i (by omega)))
theorem okT_s0 (l : List Stmt) (ins : List Int) (ora : List Bool) : ∀ (i : Nat) v, (s0 l ins ora).vs[i]? = some v → okT l (s0 l ins ora).n v := by
  intro i v hv ht
  have : ((nmsV l).map initV)[i]? = some v := hv
  rw [List.getElem?_map] at this
  obtain ⟨x, -, rfl⟩ := Option.map_eq_some_iff.1 this
  cases ht
end Go.Proofs.Ytnepgcbgkhikkaa.H
/- cfg.flows' closure: the place of a name ahead of a statement -/
namespace Go.Proofs.Ytnepgcbgkhikkaa.H
open Go.RowKit Go.Proofs.YtnepgcbgkhikkaaW.PrintWords Go.Proofs.YtnepgcbgkhikkaaW.PrintLast Go.Proofs.YtnepgcbgkhikkaaW.PrintMore
set_option linter.unusedVariables false
set_option maxRecDepth 100000 in
theorem flowAt_calls (g : Nat) (An : Option Addr) (cn : Nat) (names : List ByteArray) (n : Int) (x : ByteArray) (w : World) (hc : w.cell? ⟨g, 0, none⟩ = some (.slice An names.length cn)) (hn : Kd.C Kd.string w An names.length names) (hcn : names.length ≤ cn) (h0 : 0 ≤ n) (h1 : n ≤ 1000) (hl : names.length ≤ 3000) :
    Calls Try.prog 77 #[.int .i64 n, .string x, .pointer (some ⟨g, 0, none⟩)] w fun e w' => e = .returned (.int .i64 (atP names n x)) ∧ ∃ m, w' = w.drewN m := by
  obtain ⟨k, hk⟩ := Ev.rounds (Index_ev names x (by omega))
  have hi := idxS_range names x
  have hm0 : 0 ≤ n * (names.length : Int) := Int.mul_nonneg h0 (by omega)
  have hm1 : n * (names.length : Int) ≤ 1000 * 3000 := Int.mul_le_mul h1 (by omega) (by omega) (by omega)
  have e1 : IntKind.i64.wrap (n * (names.length : Int)) = n * (names.length : Int) := by rw [i64_w]; unfold wrap64; omega
  have e2 : IntKind.i64.wrap (n * (names.length : Int) + idxS names x) = n * (names.length : Int) + idxS names x := by rw [i64_w]; unfold wrap64; omega
  have HK := Aside0.mk hk
  have HN := Aside0.mk hn
  have HC := Aside0.mk hcn
  clear hk hn hcn
  go_enter Try.func77, Try.ntmps77
  go_wp2
  go_quiet ((go_at_call 59; exact Calls.quiet_of ((slices_Index_string_string.calls k _ _ names x _ _ (Kd.C_drewN HN.out _) HC.out HK.out).mono (fun e w' h => ⟨h.1, h.2.out⟩))))
  go_wp2
  go_ret
  exact ⟨rfl, nq, rfl⟩
end Go.Proofs.Ytnepgcbgkhikkaa.H
/- cfg.flows: the steps of taints, and the places that come of sources -/
namespace Go.Proofs.Ytnepgcbgkhikkaa.H
open Go.RowKit Go.Proofs.YtnepgcbgkhikkaaW.PrintWords Go.Proofs.YtnepgcbgkhikkaaW.PrintLast Go.Proofs.YtnepgcbgkhikkaaW.PrintMore
set_option linter.unusedVariables false
abbrev kP : Kd (Int × Int) := Kd.pair (Kd.int .i64) (Kd.int .i64)
theorem kP_mkM (w : World) (base : Nat) (ok : Nat → Prop) (a b : Int) : kP.M w base ok (a, b) [.int .i64 a, .int .i64 b] := ⟨[.int .i64 a], [.int .i64 b], rfl, rfl, rfl⟩
theorem infoP : (Try.prog.info? 84).map (fun i => (i.zero, i.size, i.bytes)) = some (some (.agg #[.int .i64 0, .int .i64 0]), 2, 16) := by kernel_rfl
theorem infoI : (Try.prog.info? 3).map (fun i => (i.zero, i.size, i.bytes)) = some (some (.int .i64 0), 1, 8) := by kernel_rfl
theorem at_stmt {l : List Stmt} {n : Nat} {st : Stmt} (e : l[n]? = some st) : at_ l (n : Int) = st := by
  unfold at_ rd_T30
  rw [Int.toNat_natCast, List.getD_eq_getElem?_getD, e]
  rfl
set_option maxRecDepth 100000 in
set_option maxHeartbeats 4000000 in
theorem flows_calls (A0 : Option Addr) (c0 : Nat) (l : List Stmt) (An : Option Addr) (cn : Nat) (names : List ByteArray) (w : World) (hr0 : Kd.C k30 w A0 l.length l) (hc0 : l.length ≤ c0) (hn : Kd.C Kd.string w An names.length names) (hcn : names.length ≤ cn) (hl : l.length ≤ 1000) (hnl : names.length ≤ 3000) :
    Calls Try.prog 60 #[.slice A0 l.length c0, .slice An names.length cn] w fun e w' => ∃ v1 v2 : Value, e = .returned (.tuple #[v1, v2]) ∧ Kd.R kP 84 w' w.heap.size (fun _ => True) v1 (stepsP l names) ∧ Kd.R (Kd.int .i64) 3 w' w.heap.size (fun _ => True) v2 (srcsP l names) ∧ Below w.heap.size w w' := by
  have HR0 := Aside0.mk hr0
  have HC0 := Aside0.mk hc0
  have HN := Aside0.mk hn
  have HCN := Aside0.mk hcn
  clear hr0 hc0 hn hcn
  have hus := Try.underlying30
  go_enter Try.func60, Try.ntmps60
  go_wp2
  go_loopg [7, 8, 22] l.length (fun gg s7 s8 s22 wr => ∃ (kk : Nat), kk ≤ l.length ∧ l.length - kk ≤ gg ∧ s22 = .int .i64 kk ∧ Aside0 (Below w.heap.size w wr) ∧ Aside0 (wr.heap[w.heap.size]? = some (.cells #[.slice An names.length cn] 32 (0, 0))) ∧ Aside0 (Kd.R kP 84 wr (w.heap.size + 1) (fun _ => True) s7 ((List.range kk).flatMap (stepsAt l names))) ∧ Aside0 (Kd.R (Kd.int .i64) 3 wr (w.heap.size + 1) (fun _ => True) s8 ((List.range kk).flatMap (srcsAt l names))))
  case atStart => exact ⟨0, Nat.zero_le _, by omega, rfl, ⟨below_alloc (Below.refl _ _) _⟩, ⟨blk_new w _⟩, ⟨Kd.R_nil _ _ _ _ _⟩, ⟨Kd.R_nil _ _ _ _ _⟩⟩
  case round =>
    obtain ⟨kk, hkk, hg, rfl, BW, GN, R7, R8⟩ := hrel
    by_cases hlt : kk < l.length
    · have hltz : (kk : Int) < (l.length : Int) := by omega
      obtain ⟨st, hst⟩ := at_some hlt
      have HL : Aside0 (Kd.C k30 wr A0 l.length l) := ⟨Kd.C_below HR0.out BW.out⟩
      obtain ⟨ad, e1, hx0, hx1, hx2, hx3, hx4, hx5, hx6, hx7⟩ := at_Stmt HL.out hst
      cases e1
      have HST := Aside0.mk hst
      obtain ⟨dx, dk, hd⟩ : ∃ dx dk, defN st = (dx, dk) := ⟨_, _, rfl⟩
      have HD := Aside0.mk hd
      have hkz : (0 : Int) ≤ (kk : Int) := by omega
      clear hst hd
      go_wp2_with (go_at_call 20; go_must (refine (cfg_Def.calls st.kind st.x st.y st.z st.op st.n st.a st.b dx dk _ (by rw [Def_eq, HD.out])).mono ?_); rintro e w2 ⟨rfl, hb2⟩; have B2 := Aside0.mk (Below.then (below_alloc BW.out _) hb2); have G2 := Aside0.mk (blk_below (blk_alloc GN.out _) hb2); have T2 := Aside0.mk (blk_below (blk_new wr _) hb2); have R72 := Aside0.mk (Kd.R_below (Kd.R_alloc R7.out _) hb2); have R82 := Aside0.mk (Kd.R_below (Kd.R_alloc R8.out _) hb2); have hs2 := hb2.size; simp at hs2; clear hb2)
      go_wp2_with (go_at_call 19; go_must (refine (cfg_Next.calls _ c0 l kk (nxt l kk) _ (Kd.C_below HR0.out B2.out) HC0.out (Next_eq l kk)).mono ?_); rintro e w3 ⟨v34, rfl, h34, hb3⟩; have B3 := Aside0.mk (Below.then B2.out hb3); have G3 := Aside0.mk (blk_below G2.out hb3); have T3 := Aside0.mk (blk_below T2.out hb3); have R73 := Aside0.mk (Kd.R_below R72.out hb3); have R83 := Aside0.mk (Kd.R_below R82.out hb3); have H34 := Aside0.mk (Kd.R_bound h34); have hs3 := hb3.size; clear h34 hb3; obtain ⟨A34, c34, e34⟩ := Kd.R_slice H34.out; subst e34)
      have hb7 := Kd.R_base R7.out
      have hl7 := Kd.R_lt R7.out
      have hb8 := Kd.R_base R8.out
      have hl8 := Kd.R_lt R8.out
      have hgn := blk_lt GN.out
      obtain ⟨S2, hS⟩ : ∃ S : Nat → Prop, ∀ k, S k ↔ (u7.ownBlock = some k ∨ u8.ownBlock = some k ∨ w3.heap.size ≤ k) := ⟨_, fun _ => Iff.rfl⟩
      have NF : Aside0 (∀ k, w3.heap.size ≤ k → S2 k) := ⟨fun k h => (hS k).2 (.inr (.inr h))⟩
      have NG : Aside0 (∀ k, k ≤ w.heap.size ∨ k = wr.heap.size ∨ (w2.heap.size ≤ k ∧ k < w3.heap.size) → ¬ S2 k) := ⟨fun k hk h => by
        rcases (hS k).1 h with h | h | h
        · have := hb7 k h; have := hl7 k h; omega
        · have := hb8 k h; have := hl8 k h; omega
        · omega⟩
      have NS : Aside0 (∀ k, S2 k → w.heap.size + 1 ≤ k) := ⟨fun k hk => by
        rcases (hS k).1 hk with h | h | h
        · exact hb7 k h
        · exact hb8 k h
        · omega⟩
      have R7S : Aside0 (Kd.R kP 84 w3 (w.heap.size + 1) S2 u7 ((List.range kk).flatMap (stepsAt l names))) := ⟨Kd.R_reok rfl R73.out (fun k h => (hS k).2 (.inl h))⟩
      have R8S : Aside0 (Kd.R (Kd.int .i64) 3 w3 (w.heap.size + 1) S2 u8 ((List.range kk).flatMap (srcsAt l names))) := ⟨Kd.R_reok rfl R83.out (fun k h => (hS k).2 (.inr (.inl h)))⟩
      clear hS hb7 hl7 hb8 hl8
      have hSl : ((List.range kk).flatMap (stepsAt l names)).length ≤ 6100000 := by
        have h1 := flatMap_len (stepsAt l names) _ (stepsAt_len l names) (List.range kk)
        rw [List.length_range] at h1
        have h2 : kk * (2 * (names.length + 2)) ≤ 1000 * (2 * 3002) := Nat.mul_le_mul (by omega) (by omega)
        omega
      have hRl : ((List.range kk).flatMap (srcsAt l names)).length ≤ 2000 := by
        have h1 := flatMap_len (srcsAt l names) _ (srcsAt_len l names) (List.range kk)
        rw [List.length_range] at h1
        omega
      obtain ⟨S1, hS1⟩ : ∃ S1, S1 = (List.range kk).flatMap (stepsAt l names) := ⟨_, rfl⟩
      obtain ⟨R1, hR1⟩ : ∃ R1, R1 = (List.range kk).flatMap (srcsAt l names) := ⟨_, rfl⟩
      rw [← hS1] at R7S hSl
      rw [← hR1] at R8S hRl
      have HS1 := Aside0.mk hS1
      have HR1 := Aside0.mk hR1
      clear hS1 hR1
      have hnx := nxt_len l kk
      go_loopg [7, 8, 36] (nxt l kk).length (fun gg s7 s8 s36 wx => ∃ (k2 : Nat), k2 ≤ (nxt l kk).length ∧ (nxt l kk).length - k2 ≤ gg ∧ s36 = .int .i64 k2 ∧ Aside0 (Below w.heap.size w wx) ∧ Aside0 (Kept w3 wx S2) ∧ Aside0 (Kd.R kP 84 wx (w.heap.size + 1) S2 s7 (S1 ++ ((nxt l kk).take k2).flatMap (stF names kk st))) ∧ Aside0 (Kd.R (Kd.int .i64) 3 wx (w.heap.size + 1) S2 s8 (R1 ++ ((nxt l kk).take k2).flatMap (srcF names st))))
      case atStart => exact ⟨0, Nat.zero_le _, by omega, rfl, B3, ⟨Kept.refl _ _⟩, ⟨by rw [List.take_zero, List.flatMap_nil, List.append_nil]; exact R7S.out⟩, ⟨by rw [List.take_zero, List.flatMap_nil, List.append_nil]; exact R8S.out⟩⟩
      case round =>
        obtain ⟨k2, hk2, hg2, rfl, B4, K4, R74, R84⟩ := hrel
        by_cases hlt2 : k2 < (nxt l kk).length
        · have hlt2z : (k2 : Int) < ((nxt l kk).length : Int) := by omega
          have hk2z : (0 : Int) ≤ (k2 : Int) := by omega
          obtain ⟨m, hm⟩ := at_some hlt2
          obtain ⟨hm0, hm1, -, -⟩ := nxt_within (List.mem_of_getElem? hm)
          have C34 := Kd.C_kept_own H34.out (S := S2) (fun k hk => NG.out k (.inr (.inr ⟨hk.2.1, hk.2.2.1⟩))) _ K4.out
          obtain ⟨ad34, e34, hx34⟩ := at_int C34 hm
          cases e34
          have HM := Aside0.mk hm
          have G4 := Aside0.mk (blk_kept G3.out K4.out (NG.out _ (.inl (Nat.le_refl _))))
          have T4 := Aside0.mk (blk_kept T3.out K4.out (NG.out _ (.inr (.inl rfl))))
          have hcN := (blk_cell G4.out 0).trans rfl
          clear hm C34
          have hkz2 : (kk : Int) ≤ 1000 := by omega
          have hm2 : m ≤ 1000 := by omega
          have hX7 : (S1 ++ ((nxt l kk).take k2).flatMap (stF names kk st)).length ≤ 6108000 := by
            have h1 := flatMap_len (stF names kk st) _ (stF_len names kk st) ((nxt l kk).take k2)
            rw [List.length_append]
            have h2 : ((nxt l kk).take k2).length * (names.length + 2) ≤ 2 * 3002 := Nat.mul_le_mul (by rw [List.length_take]; omega) (by omega)
            omega
          have hX8 : (R1 ++ ((nxt l kk).take k2).flatMap (srcF names st)).length ≤ 2002 := by
            have h1 := flatMap_len (srcF names st) _ (srcF_len names st) ((nxt l kk).take k2)
            rw [List.length_append]
            rw [List.length_take] at h1
            omega
          obtain ⟨X7, hX7e⟩ : ∃ X, X = S1 ++ ((nxt l kk).take k2).flatMap (stF names kk st) := ⟨_, rfl⟩
          obtain ⟨X8, hX8e⟩ : ∃ X, X = R1 ++ ((nxt l kk).take k2).flatMap (srcF names st) := ⟨_, rfl⟩
          rw [← hX7e] at R74 hX7
          rw [← hX8e] at R84 hX8
          have HX7 := Aside0.mk hX7e
          have HX8 := Aside0.mk hX8e
          clear hX7e hX8e
          go_wp2
          go_loopg [7, 42] names.length (fun gg s7 s42 wx => ∃ (k3 : Nat), k3 ≤ names.length ∧ names.length - k3 ≤ gg ∧ s42 = .int .i64 k3 ∧ Aside0 (Below w.heap.size w wx) ∧ Aside0 (Kept w3 wx S2) ∧ Aside0 (Kd.R kP 84 wx (w.heap.size + 1) S2 s7 (X7 ++ (names.take k3).flatMap (keptF names kk m st))) ∧ Aside0 (Kd.R (Kd.int .i64) 3 wx (w.heap.size + 1) S2 u8 X8))
          case atStart => exact ⟨0, Nat.zero_le _, by omega, rfl, B4, K4, ⟨by rw [List.take_zero, List.flatMap_nil, List.append_nil]; exact R74.out⟩, R84⟩
          case round =>
            obtain ⟨k3, hk3, hg3, rfl, B5, K5, R75, R85⟩ := hrel
            by_cases hlt3 : k3 < names.length
            · have hlt3z : (k3 : Int) < (names.length : Int) := by omega
              have hk3z : (0 : Int) ≤ (k3 : Int) := by omega
              obtain ⟨y, hy⟩ := at_some hlt3
              have HN5 := Aside0.mk (Kd.C_below HN.out B5.out)
              obtain ⟨adN, eN, hxN⟩ := at_str HN5.out hy
              cases eN
              have HY := Aside0.mk hy
              have G5 := Aside0.mk (blk_kept G3.out K5.out (NG.out _ (.inl (Nat.le_refl _))))
              have hcN := (blk_cell G5.out 0).trans rfl
              have hX5 : (X7 ++ (names.take k3).flatMap (keptF names kk m st)).length ≤ 6112000 := by
                have h1 := flatMap_len (keptF names kk m st) 1 (fun y => by unfold keptF; split <;> simp) (names.take k3)
                rw [List.length_append]
                rw [List.length_take] at h1
                omega
              clear hy
              by_cases hdy : dk = true ∧ dx = y
              · obtain ⟨rfl, rfl⟩ := hdy
                go_wp2
                go_roundg (names.length - (k3 + 1))
                case measure => omega
                case rel => exact ⟨k3 + 1, by omega, by omega, by go_num, B5, K5, ⟨by rw [flatMap_take _ HY.out, show keptF names kk m st _ = [] from if_pos (defB_iff.2 ⟨by rw [HD.out], by rw [HD.out]⟩), List.append_nil]; exact R75.out⟩, R85⟩
              · have e5 : Aside0 (keptF names kk m st y = [(atP names kk y, atP names m y)]) := ⟨if_neg (by rw [defB_iff, HD.out]; exact hdy)⟩
                have hq : dk = false ∨ (dk = true ∧ ¬ y = dx) := by
                  cases dk
                  · exact .inl rfl
                  · exact .inr ⟨rfl, fun h => hdy ⟨rfl, h.symm⟩⟩
                clear hdy
                rcases hq with rfl | ⟨rfl, hne⟩
                case' inr => obtain ⟨q1, q2⟩ := ba_bne hne; clear hne
                all_goals
                  go_wp2_with (first
                    | (go_at_call 77; go_must (refine (flowAt_calls w.heap.size _ cn names _ _ _ (by first | exact hcN | exact hcN.trans rfl) (by first | exact HN5.out | exact Kd.C_drewN HN5.out _ | exact Kd.C_drewN (Kd.C_drewN HN5.out _) _) HCN.out (by omega) (by omega) hnl).mono ?_); rintro e wq ⟨rfl, md, rfl⟩)
                    | (at_builtin; go_must (refine Kd.R_append kP (w.heap.size + 1) rfl (.tmp 53) (.tmp 63) 80 84 _ 16 rfl Try.underlying80 infoP rfl (by decide) (by omega) u7 (X7 ++ (names.take k3).flatMap (keptF names kk m st)) (atP names kk y, atP names m y) [.int .i64 _, .int .i64 _] S2 (fun _ => False) (by go_simp) (by go_simp) (kP_mkM _ _ _ _ _) (fun _ h => h.elim) (fun k hk => NF.out k (Nat.le_trans K5.out.1 hk)) (by first | exact R75.out | exact Kd.R_drewN R75.out _ | exact Kd.R_drewN (Kd.R_drewN R75.out _) _) (Below.refl _ _) (by have := blk_lt G5.out; simp; omega) (by omega) ?_); intro v1 w6 h1 hb1 hg1 hat1; have hgx : wr.grownBy w6 (u7).ownBlock := ⟨hg1.os, hg1.tape, hg1.output, hg1.size, hg1.block⟩; have HR6 := Aside0.mk h1; have HB6 := Aside0.mk (pw_below_grown B5.out _ B5.out.size hgx (fun k hk => by have := Kd.R_base R75.out k hk; omega)); have HK6 := Aside0.mk (Kept.of_grown hgx K5.out (fun k hk => .inl (R75.out.1 k hk))); have HO6 := Aside0.mk (Kd.R_over' R85.out (Kd.R_typed R75.out) (by decide) hgx); clear h1 hb1 hg1 hat1 hgx))
                  go_roundg (names.length - (k3 + 1))
                  case measure => omega
                  case rel => exact ⟨k3 + 1, by omega, by omega, by go_num, HB6, HK6, ⟨by rw [flatMap_take _ HY.out, e5.out, ← List.append_assoc]; exact HR6.out⟩, HO6⟩
            · have hlt3z : ¬ (k3 : Int) < (names.length : Int) := by omega
              obtain rfl : k3 = names.length := by omega
              have R7n : Aside0 (Kd.R kP 84 wr (w.heap.size + 1) S2 u7 (X7 ++ names.flatMap (keptF names kk m st))) := ⟨by have := R75.out; rwa [List.take_length] at this⟩
              have T5 := Aside0.mk (blk_kept T3.out K5.out (NG.out _ (.inr (.inl rfl))))
              have G5 := Aside0.mk (blk_kept G3.out K5.out (NG.out _ (.inl (Nat.le_refl _))))
              have hcN := (blk_cell G5.out 0).trans rfl
              have hk0 := (blk_cell T5.out 0).trans rfl
              have HN5 := Aside0.mk (Kd.C_below HN.out B5.out)
              have hX5 : (X7 ++ names.flatMap (keptF names kk m st)).length ≤ 6112000 := by
                have h1 := flatMap_len (keptF names kk m st) 1 (fun y => by unfold keptF; split <;> simp) names
                rw [List.length_append]
                omega
              clear R75
              have done7 : Aside0 (¬ opK st → S1 ++ ((nxt l kk).take (k2 + 1)).flatMap (stF names kk st) = X7 ++ names.flatMap (keptF names kk m st)) := ⟨fun h => by rw [flatMap_take _ HM.out, ← List.append_assoc, ← HX7.out]; unfold stF; rw [if_neg h, List.append_nil]⟩
              have done7o : Aside0 (opK st → S1 ++ ((nxt l kk).take (k2 + 1)).flatMap (stF names kk st) = (X7 ++ names.flatMap (keptF names kk m st)) ++ (usesS st).map (usedF names kk m st)) := ⟨fun h => by rw [flatMap_take _ HM.out, ← List.append_assoc, ← HX7.out]; unfold stF; rw [if_pos h, List.append_assoc]⟩
              have done8 : Aside0 (st.kind ≠ 4 → R1 ++ ((nxt l kk).take (k2 + 1)).flatMap (srcF names st) = X8) := ⟨fun h => by rw [flatMap_take _ HM.out, ← List.append_assoc, ← HX8.out]; unfold srcF; rw [if_neg h, List.append_nil]⟩
              have done8s : Aside0 (st.kind = 4 → R1 ++ ((nxt l kk).take (k2 + 1)).flatMap (srcF names st) = X8 ++ [atP names m dx]) := ⟨fun h => by rw [flatMap_take _ HM.out, ← List.append_assoc, ← HX8.out]; unfold srcF; rw [if_pos h, HD.out]⟩
              by_cases k4 : st.kind = 4
              · have KD := Aside0.mk k4
                rw [k4] at hk0
                clear k4
                go_wp2_with (first
                  | (go_at_call 77; go_must (refine (flowAt_calls w.heap.size _ cn names _ _ _ (by first | exact hcN | exact hcN.trans rfl) (by first | exact HN5.out | exact Kd.C_drewN HN5.out _ | exact Kd.C_drewN (Kd.C_drewN HN5.out _) _) HCN.out (by omega) (by omega) hnl).mono ?_); rintro e wq ⟨rfl, md, rfl⟩)
                  | (at_builtin; go_must (refine Kd.R_append (Kd.int .i64) (w.heap.size + 1) rfl (.tmp 69) (.tmp 74) 25 3 _ 8 rfl Try.underlying25 infoI rfl (by decide) (by omega) u8 (X8) (atP names m dx) [.int .i64 _] S2 (fun _ => False) (by go_simp) (by go_simp) rfl (fun _ h => h.elim) (fun k hk => NF.out k (Nat.le_trans K5.out.1 hk)) (by first | exact R85.out | exact Kd.R_drewN R85.out _ | exact Kd.R_drewN (Kd.R_drewN R85.out _) _) (Below.refl _ _) (by have := blk_lt G5.out; simp; omega) (by omega) ?_); intro v1 w6 h1 hb1 hg1 hat1; have hgx : wr.grownBy w6 (u8).ownBlock := ⟨hg1.os, hg1.tape, hg1.output, hg1.size, hg1.block⟩; have HR6 := Aside0.mk h1; have HB6 := Aside0.mk (pw_below_grown B5.out _ B5.out.size hgx (fun k hk => by have := Kd.R_base R85.out k hk; omega)); have HK6 := Aside0.mk (Kept.of_grown hgx K5.out (fun k hk => .inl (R85.out.1 k hk))); have HO6 := Aside0.mk (Kd.R_over' R7n.out (Kd.R_typed R85.out) (by decide) hgx); clear h1 hb1 hg1 hat1 hgx; have hk6 := (blk_cell (blk_kept T3.out HK6.out (NG.out _ (.inr (.inl rfl)))) 0).trans rfl; rw [KD.out] at hk6))
                go_roundg ((nxt l kk).length - (k2 + 1))
                case measure => omega
                case rel => exact ⟨k2 + 1, by omega, by omega, by go_num, HB6, HK6, ⟨by rw [done7.out (by unfold opK; rw [KD.out]; decide)]; exact HO6.out⟩, ⟨by rw [done8s.out KD.out]; exact HR6.out⟩⟩
              · by_cases ko : opK st
                · rcases ko with k | k
                  all_goals
                    have KO := Aside0.mk k
                    have hk1 := (blk_cell T5.out 1).trans rfl
                    have hk2c := (blk_cell T5.out 2).trans rfl
                    have hk3c := (blk_cell T5.out 3).trans rfl
                    have hk4c := (blk_cell T5.out 4).trans rfl
                    have hk5c := (blk_cell T5.out 5).trans rfl
                    have hk6c := (blk_cell T5.out 6).trans rfl
                    have hk7c := (blk_cell T5.out 7).trans rfl
                    rw [k] at hk0
                    have HU : Aside0 (cfg_Uses.f _ st.x st.y st.z st.op st.n st.a st.b = some (usesS st)) := ⟨k ▸ Uses_eq st⟩
                    have K4N := Aside0.mk k4
                    clear k k4
                    go_wp2_with (go_at_call 22; go_must (refine (cfg_Uses.calls _ _ _ _ _ _ _ _ (usesS st) _ HU.out).mono ?_); rintro e w7 ⟨v85, rfl, h85, hb7⟩; have B7 := Aside0.mk (Below.then B5.out hb7); have K7 := Aside0.mk (Kept.below K5.out hb7); have G7 := Aside0.mk (blk_below G5.out hb7); have R77 := Aside0.mk (Kd.R_below R7n.out hb7); have R87 := Aside0.mk (Kd.R_below R85.out hb7); have H85 := Aside0.mk (Kd.R_bound h85); have hs7 := hb7.size; clear h85 hb7; obtain ⟨A85, c85, e85⟩ := Kd.R_slice H85.out; subst e85)
                    have hb7u := Kd.R_base R7n.out
                    have hl7u := Kd.R_lt R7n.out
                    obtain ⟨S4, hS4⟩ : ∃ S : Nat → Prop, ∀ k, S k ↔ (u7.ownBlock = some k ∨ w7.heap.size ≤ k) := ⟨_, fun _ => Iff.rfl⟩
                    have NF4 : Aside0 (∀ k, w7.heap.size ≤ k → S4 k) := ⟨fun k h => (hS4 k).2 (.inr h)⟩
                    have hgn5 := blk_lt G5.out
                    have NG4 : Aside0 (∀ k, k ≤ w.heap.size ∨ (wr.heap.size ≤ k ∧ k < w7.heap.size) → ¬ S4 k) := ⟨fun k hk h => by
                      rcases (hS4 k).1 h with h | h
                      · have := hb7u k h; have := hl7u k h; omega
                      · omega⟩
                    have NS4 : Aside0 (∀ k, S4 k → S2 k) := ⟨fun k h => by
                      rcases (hS4 k).1 h with h | h
                      · exact R7n.out.1 k h
                      · exact NF.out k (Nat.le_trans K7.out.1 h)⟩
                    have R7S4 : Aside0 (Kd.R kP 84 w7 (w.heap.size + 1) S4 u7 (X7 ++ names.flatMap (keptF names kk m st))) := ⟨Kd.R_reok rfl R77.out (fun k h => (hS4 k).2 (.inl h))⟩
                    clear hS4 hb7u hl7u
                    have hul := usesS_len st
                    obtain ⟨Y7, hY7e⟩ : ∃ X, X = X7 ++ names.flatMap (keptF names kk m st) := ⟨_, rfl⟩
                    rw [← hY7e] at R7S4 hX5
                    have HY7 := Aside0.mk hY7e
                    clear hY7e
                    go_loopg [7, 87] (usesS st).length (fun gg s7 s87 wx => ∃ (k4 : Nat), k4 ≤ (usesS st).length ∧ (usesS st).length - k4 ≤ gg ∧ s87 = .int .i64 k4 ∧ Aside0 (Below w.heap.size w wx) ∧ Aside0 (Kept w7 wx S4) ∧ Aside0 (Kd.R kP 84 wx (w.heap.size + 1) S4 s7 (Y7 ++ ((usesS st).take k4).map (usedF names kk m st))) ∧ Aside0 (Kd.R (Kd.int .i64) 3 wx (w.heap.size + 1) S2 u8 X8))
                    case atStart => exact ⟨0, Nat.zero_le _, by omega, rfl, B7, ⟨Kept.refl _ _⟩, ⟨by rw [List.take_zero, List.map_nil, List.append_nil]; exact R7S4.out⟩, R87⟩
                    case round =>
                      obtain ⟨k4, hk4, hg4, rfl, B8, K8, R78, R88⟩ := hrel
                      by_cases hlt4 : k4 < (usesS st).length
                      · have hlt4z : (k4 : Int) < ((usesS st).length : Int) := by omega
                        have hk4z : (0 : Int) ≤ (k4 : Int) := by omega
                        obtain ⟨y, hy⟩ := at_some hlt4
                        have C85 := Kd.C_kept_own H85.out (S := S4) (fun k hk => NG4.out k (.inr ⟨hk.2.1, hk.2.2.1⟩)) _ K8.out
                        obtain ⟨ad85, e85, hx85⟩ := at_str C85 hy
                        cases e85
                        have HY := Aside0.mk hy
                        have HN8 := Aside0.mk (Kd.C_below HN.out B8.out)
                        have G8 := Aside0.mk (blk_kept G7.out K8.out (NG4.out _ (.inl (Nat.le_refl _))))
                        have hcN := (blk_cell G8.out 0).trans rfl
                        have hX9 : (Y7 ++ ((usesS st).take k4).map (usedF names kk m st)).length ≤ 6112002 := by
                          rw [List.length_append, List.length_map, List.length_take]
                          omega
                        clear hy C85
                        go_wp2_with (first
                          | (go_at_call 77; go_must (refine (flowAt_calls w.heap.size _ cn names _ _ _ (by first | exact hcN | exact hcN.trans rfl) (by first | exact HN8.out | exact Kd.C_drewN HN8.out _ | exact Kd.C_drewN (Kd.C_drewN HN8.out _) _) HCN.out (by omega) (by omega) hnl).mono ?_); rintro e wq ⟨rfl, md, rfl⟩)
                          | (at_builtin; go_must (refine Kd.R_append kP (w.heap.size + 1) rfl (.tmp 91) (.tmp 101) 80 84 _ 16 rfl Try.underlying80 infoP rfl (by decide) (by omega) u7 (Y7 ++ ((usesS st).take k4).map (usedF names kk m st)) (atP names kk y, atP names m dx) [.int .i64 _, .int .i64 _] S4 (fun _ => False) (by go_simp) (by go_simp) (kP_mkM _ _ _ _ _) (fun _ h => h.elim) (fun k hk => NF4.out k (Nat.le_trans K8.out.1 hk)) (by first | exact R78.out | exact Kd.R_drewN R78.out _ | exact Kd.R_drewN (Kd.R_drewN R78.out _) _) (Below.refl _ _) (by have := blk_lt G8.out; simp; omega) (by omega) ?_); intro v1 w6 h1 hb1 hg1 hat1; have hgx : wr.grownBy w6 (u7).ownBlock := ⟨hg1.os, hg1.tape, hg1.output, hg1.size, hg1.block⟩; have HR6 := Aside0.mk h1; have HB6 := Aside0.mk (pw_below_grown B8.out _ B8.out.size hgx (fun k hk => by have := Kd.R_base R78.out k hk; omega)); have HK6 := Aside0.mk (Kept.of_grown hgx K8.out (fun k hk => .inl (R78.out.1 k hk))); have HO6 := Aside0.mk (Kd.R_over' R88.out (Kd.R_typed R78.out) (by decide) hgx); clear h1 hb1 hg1 hat1 hgx))
                        go_roundg ((usesS st).length - (k4 + 1))
                        case measure => omega
                        case rel => exact ⟨k4 + 1, by omega, by omega, by go_num, HB6, HK6, ⟨by rw [List.take_add_one, HY.out, List.map_append, ← List.append_assoc, show (some y).toList.map (usedF names kk m st) = [(atP names kk y, atP names m dx)] from by simp [usedF, HD.out]]; exact HR6.out⟩, HO6⟩
                      · have hlt4z : ¬ (k4 : Int) < ((usesS st).length : Int) := by omega
                        obtain rfl : k4 = (usesS st).length := by omega
                        go_wp2
                        go_roundg ((nxt l kk).length - (k2 + 1))
                        case measure => omega
                        case rel => exact ⟨k2 + 1, by omega, by omega, by go_num, B8, ⟨Kept.then_ K7.out K8.out (fun k h => .inl (NS4.out k h))⟩, ⟨by rw [done7o.out (by unfold opK; have := KO.out; omega), ← HY7.out]; have := R78.out; rw [List.take_length] at this; exact Kd.R_mono this NS4.out⟩, ⟨by rw [done8.out K4N.out]; exact R88.out⟩⟩
                · have n2 : (st.kind != 2) = true := bne_iff_ne.2 (fun h => ko (.inl h))
                  have n3 : (st.kind != 3) = true := bne_iff_ne.2 (fun h => ko (.inr h))
                  have j4 : (st.kind == 4) = false := beq_eq_false_iff_ne.2 k4
                  have K4N := Aside0.mk k4
                  have KON := Aside0.mk ko
                  clear k4 ko
                  go_wp2
                  go_roundg ((nxt l kk).length - (k2 + 1))
                  case measure => omega
                  case rel => exact ⟨k2 + 1, by omega, by omega, by go_num, B5, K5, ⟨by rw [done7.out KON.out]; exact R7n.out⟩, ⟨by rw [done8.out K4N.out]; exact R85.out⟩⟩
        · have hlt2z : ¬ (k2 : Int) < ((nxt l kk).length : Int) := by omega
          obtain rfl : k2 = (nxt l kk).length := by omega
          have e7 : Aside0 ((List.range (kk + 1)).flatMap (stepsAt l names) = S1 ++ ((nxt l kk).take (nxt l kk).length).flatMap (stF names kk st)) := ⟨by rw [List.range_succ, List.flatMap_append, ← HS1.out, List.take_length]; simp only [List.flatMap_cons, List.flatMap_nil, List.append_nil, stepsAt, at_stmt HST.out]⟩
          have e8 : Aside0 ((List.range (kk + 1)).flatMap (srcsAt l names) = R1 ++ ((nxt l kk).take (nxt l kk).length).flatMap (srcF names st)) := ⟨by rw [List.range_succ, List.flatMap_append, ← HR1.out, List.take_length]; simp only [List.flatMap_cons, List.flatMap_nil, List.append_nil, srcsAt, at_stmt HST.out]⟩
          go_wp2
          go_roundg (l.length - (kk + 1))
          case measure => omega
          case rel => exact ⟨kk + 1, by omega, by omega, by go_num, B4, ⟨blk_kept G3.out K4.out (NG.out _ (.inl (Nat.le_refl _)))⟩, ⟨by rw [e7.out]; exact Kd.R_mono R74.out (fun _ _ => trivial)⟩, ⟨by rw [e8.out]; exact Kd.R_mono R84.out (fun _ _ => trivial)⟩⟩
    · have hltz : ¬ (kk : Int) < (l.length : Int) := by omega
      obtain rfl : kk = l.length := by omega
      go_wp2
      exact bodyPost_ret (v := .tuple #[u7, u8]) (by simp [results, Try.results60, go_sem]) rfl ⟨_, _, rfl, Kd.R_lower R7.out (Nat.le_succ _), Kd.R_lower R8.out (Nat.le_succ _), BW.out⟩
end Go.Proofs.Ytnepgcbgkhikkaa.H
/- a map of the call's own, by whole numbers, as a function to values -/
namespace Go.Proofs.Ytnepgcbgkhikkaa.H
open Go.RowKit Go.Proofs.YtnepgcbgkhikkaaW.PrintWords
set_option linter.unusedVariables false
def asHeld (v : Value) : Option (DataW Value × List MemPlace) := some (.held v, [])
/-- block b is a map of at most n entries: of the number x it has f x (z: what it has of a number that was never put) -/
def MapV (P : Program) (w : World) (k : TypeId) (z : Value) (b n : Nat) (f : Int → Value) : Prop :=
  ∃ D : DataW Value, w.ownsMap P k asHeld b n D ∧ Maps.IsMap D ∧ ∀ x : Int, D.atKey (.int .i64 x) (.held z) = .held (f x)
section
variable {P : Program} {w w' : World} {k t e : TypeId} {z : Value} {b n : Nat} {f : Int → Value}
theorem MapV.made (w : World) (P : Program) (k : TypeId) (z : Value) : MapV P (w.alloc (.map #[] 0)) k z w.heap.size 0 (fun _ => z) :=
  ⟨.map [], World.ownsMap_made w P k asHeld, Maps.isMap_empty, fun _ => rfl⟩
theorem MapV.lt (h : MapV P w k z b n f) : b < w.heap.size := by obtain ⟨D, h1, -⟩ := h; exact h1.lt
theorem MapV.kept {row : Option Nat} (h : MapV P w k z b n f) (hg : w.grownBy w' row) (hne : some b ≠ row) : MapV P w' k z b n f := by
  obtain ⟨D, h1, h2⟩ := h
  exact ⟨D, h1.kept hg hne, h2⟩
theorem MapV.below (h : MapV P w k z b n f) (hb : Below w.heap.size w w') : MapV P w' k z b n f := h.kept (grown_of_below hb none) (by simp)
theorem MapV.mono (h : MapV P w k z b n f) {m : Nat} (hm : n ≤ m) : MapV P w k z b m f := by
  obtain ⟨D, h1, h2⟩ := h
  exact ⟨D, h1.mono hm, h2⟩
theorem MapV.look (h : MapV P w k z b n f) (hk : P.underlying k = some (.int .i64)) (ht : P.underlying t = some (.map k e)) (hz : (zeroValue e).run P w = .ok z w) (x : Int) (hx : (Lit.int .i64 x).wf = true) :
    (Instr.lookup t (.map (some b)) (.int .i64 x) false).run P w = .ok (f x) w := by
  obtain ⟨D, h1, h2, h3⟩ := h
  obtain ⟨v, ps, hr, hv⟩ := h1.lookup (Maps.int_keyed hk) ht hz (show asHeld z = some (.held z, []) from rfl) (Maps.keyOf_int_mk hk hx)
  rw [h3 x] at hv
  have e1 : v = f x := by
    have := Option.some.inj hv
    injection this with q _
    injection q
  rw [hr, e1]
theorem MapV.put (h : MapV P w k z b n f) (hk : P.underlying k = some (.int .i64)) (ht : P.underlying t = some (.map k e)) (hn : n < maxLen) (x : Int) (hx : (Lit.int .i64 x).wf = true) (v : Value) :
    ∃ w', (Instr.mapUpdate t (.map (some b)) (.int .i64 x) v).run P w = .ok () w' ∧ MapV P w' k z b (n + 1) (fun y => if y = x then v else f y) ∧ w.grownBy w' (some b) := by
  obtain ⟨D, h1, h2, h3⟩ := h
  obtain ⟨w', hr, h4, h5⟩ := h1.update (Maps.int_keyed hk) ht hn (Maps.keyOf_int_mk hk hx) (show asHeld v = some (.held v, []) from rfl)
  refine ⟨w', hr, ⟨_, h4, h2.put _ _, fun y => ?_⟩, h5⟩
  show _ = DataW.held (if y = x then v else f y)
  by_cases c : y = x
  · subst c
    rw [if_pos rfl]
    exact Maps.atKey_put_same h2 (by trivial) _ _
  · rw [if_neg c, Maps.atKey_put_other (by intro q; injection q with _ q; exact c q)]
    exact h3 y
end
end Go.Proofs.Ytnepgcbgkhikkaa.H
/- the places among the steps of taints are small -/
namespace Go.Proofs.Ytnepgcbgkhikkaa.H
open Go.RowKit Go.Proofs.YtnepgcbgkhikkaaW.PrintWords
set_option linter.unusedVariables false
def smallP (p : Int) : Prop := -1 ≤ p ∧ p ≤ 4000000
theorem stepsP_small {l : List Stmt} {names : List ByteArray} (hl : l.length ≤ 1000) (hn : names.length ≤ 3000) : ∀ p ∈ stepsP l names, smallP p.1 ∧ smallP p.2 := by
  intro p hp
  unfold stepsP stepsAt at hp
  obtain ⟨n, hn', hp⟩ := List.mem_flatMap.1 hp
  obtain ⟨m, hm, hp⟩ := List.mem_flatMap.1 hp
  obtain ⟨hm0, hm1, -, -⟩ := nxt_within hm
  have hn2 := List.mem_range.1 hn'
  have A : ∀ x, smallP (atP names (n : Int) x) := fun x => atP_range (by omega) (by omega) hn
  have B : ∀ x, smallP (atP names m x) := fun x => atP_range (by omega) (by omega) hn
  unfold stF at hp
  rcases List.mem_append.1 hp with hp | hp
  · obtain ⟨y, hy, hp⟩ := List.mem_flatMap.1 hp
    unfold keptF at hp
    split at hp
    · simp at hp
    · obtain rfl := List.mem_singleton.1 hp
      exact ⟨A y, B y⟩
  · split at hp
    · obtain ⟨y, hy, rfl⟩ := List.mem_map.1 hp
      exact ⟨A y, B _⟩
    · simp at hp
theorem srcsP_small {l : List Stmt} {names : List ByteArray} (hl : l.length ≤ 1000) (hn : names.length ≤ 3000) : ∀ p ∈ srcsP l names, smallP p := by
  intro p hp
  unfold srcsP srcsAt at hp
  obtain ⟨n, hn', hp⟩ := List.mem_flatMap.1 hp
  obtain ⟨m, hm, hp⟩ := List.mem_flatMap.1 hp
  obtain ⟨hm0, hm1, -, -⟩ := nxt_within hm
  unfold srcF at hp
  split at hp
  · obtain rfl := List.mem_singleton.1 hp
    exact atP_range (by omega) (by omega) hn
  · simp at hp
theorem smallP_wf {p : Int} (h : smallP p) : (Lit.int .i64 p).wf = true := by
  obtain ⟨h0, h1⟩ := h
  have e1 : IntKind.i64.min = -9223372036854775808 := by decide
  have e2 : IntKind.i64.max = 9223372036854775807 := by decide
  simp only [Lit.wf, e1, e2, Bool.and_eq_true, decide_eq_true_eq]
  omega
theorem stepsP_len {l : List Stmt} {names : List ByteArray} (hl : l.length ≤ 1000) (hn : names.length ≤ 3000) : (stepsP l names).length ≤ 6100000 := by
  have h1 := flatMap_len (stepsAt l names) _ (stepsAt_len l names) (List.range l.length)
  rw [List.length_range] at h1
  have h2 : l.length * (2 * (names.length + 2)) ≤ 1000 * (2 * 3002) := Nat.mul_le_mul hl (by omega)
  unfold stepsP
  omega
theorem srcsP_len {l : List Stmt} {names : List ByteArray} (hl : l.length ≤ 1000) : (srcsP l names).length ≤ 2000 := by
  have h1 := flatMap_len (srcsAt l names) _ (srcsAt_len l names) (List.range l.length)
  rw [List.length_range] at h1
  unfold srcsP
  omega
theorem pot_skip (steps : List (Int × Int)) (seen : Int → Bool) (k : Int) (r : List Int) : potV steps seen r + 1 = potV steps seen (k :: r) := by
  unfold potV
  rw [List.length_cons]
  omega
theorem nextG_take (steps : List (Int × Int)) {n : Nat} {p : Int × Int} (h : steps[n]? = some p) (x : Int) : nextG (steps.take (n + 1)) x = nextG (steps.take n) x ++ (if p.1 = x then [p.2] else []) := by
  rw [List.take_add_one, h]
  exact nextG_snoc _ _ _
theorem nextG_mem_small {steps : List (Int × Int)} (h : ∀ p ∈ steps, smallP p.1 ∧ smallP p.2) (x : Int) : ∀ y ∈ nextG steps x, smallP y := by
  intro y hy
  exact (h _ (mem_nextG.1 hy)).2
theorem nextG_len (steps : List (Int × Int)) (x : Int) : (nextG steps x).length ≤ steps.length := by
  unfold nextG
  rw [List.length_map]
  exact List.length_filter_le _ _
end Go.Proofs.Ytnepgcbgkhikkaa.H
/- cfg.Taints, whole -/
namespace Go.Proofs.Ytnepgcbgkhikkaa.H
open Go.RowKit Go.Proofs.YtnepgcbgkhikkaaW.PrintWords Go.Proofs.YtnepgcbgkhikkaaW.PrintLast Go.Proofs.YtnepgcbgkhikkaaW.PrintMore
set_option linter.unusedVariables false
def cfg_Taints.f (k : Nat) (l : List Stmt) (n : Int) (x : ByteArray) : Option Bool :=
  if l.length ≤ 1000 then
    (if withinB l.length n = true ∧ 0 ≤ idxS (setS (l.flatMap namesOf)) x then (tntV (nextG (stepsP l (setS (l.flatMap namesOf)))) k (fun _ => false) (srcsP l (setS (l.flatMap namesOf)))).bind fun seen => some (seen (atP (setS (l.flatMap namesOf)) n x)) else some false)
  else none
theorem cfg_Taints.mono : ∀ a0 a1 a2 k, LeO (cfg_Taints.f k a0 a1 a2) (cfg_Taints.f (k + 1) a0 a1 a2) := by
  intro a0 a1 a2 k
  unfold cfg_Taints.f
  exact LeO.ite (LeO.ite (LeO.bind (tntV_more _ _ _ _) (fun _ => LeO.refl _)) (LeO.refl _)) (LeO.refl _)
section
variable (A0 : Option Addr) (c0 : Nat) (l0 : List Stmt) (a1 : Int) (a2 : ByteArray) (w : World) (hr0 : Kd.C k30 w A0 l0.length l0) (hc0 : l0.length ≤ c0) (hl : l0.length ≤ 1000)
include hr0 hc0 hl
set_option maxHeartbeats 4000000 in
set_option maxRecDepth 100000 in
theorem taints_no (hno : ¬ (withinB l0.length a1 = true ∧ 0 ≤ idxS (setS (l0.flatMap namesOf)) a2)) :
    Calls Try.prog 40 #[.slice A0 l0.length c0, .int .i64 a1, .string a2] w fun e w' => e = .returned (.bool false) ∧ Below w.heap.size w w' := by
  obtain ⟨K, hn⟩ := Ev.rounds (Names_ev l0 hl)
  have hnl := names_len l0
  generalize hN : setS (l0.flatMap namesOf) = names at hn hnl hno
  clear hN
  obtain ⟨K2, hi⟩ := Ev.rounds (Index_ev names a2 (by omega))
  have hb := within_eq l0 a1
  generalize withinB l0.length a1 = b at hb hno
  generalize idxS names a2 = i at hi hno
  have HN := Aside0.mk hn
  have HI := Aside0.mk hi
  have HW := Aside0.mk hb
  have HR0 := Aside0.mk hr0
  have HC0 := Aside0.mk hc0
  have hi0 : b = true → i < 0 := fun h => by
    rcases Int.lt_or_le i 0 with q | q
    · exact q
    · exact absurd ⟨h, q⟩ hno
  clear hn hi hb hr0 hc0 hno
  cases b
  case' true => have hi := hi0 rfl
  all_goals clear hi0
  all_goals go_enter Try.func40, Try.ntmps40
  all_goals go_wp2_with (first
    | (go_at_call 31; go_must (refine (cfg_Names.calls K _ _ l0 names _ HR0.out HC0.out HN.out).mono ?_); rintro e w1 ⟨v0, rfl, ho0, hb⟩; have HO := Aside0.mk ho0; have HB := Aside0.mk hb; clear ho0 hb; obtain ⟨Ao, co, eo⟩ := Kd.R_slice HO.out; subst eo)
    | (go_at_call 59; go_must (refine (slices_Index_string_string.calls K2 _ _ names a2 i _ (Kd.R_reads' HO.out).2.2 (Kd.R_reads' HO.out).2.1 HI.out).mono ?_); rintro e w2 ⟨rfl, nd, rfl⟩)
    | (go_at_call 42; go_must (refine (cfg_within.calls _ _ l0 a1 _ _ (Kd.C_drewN (Kd.C_below HR0.out HB.out) _) HC0.out HW.out).mono ?_); rintro e w3 ⟨rfl, ne, rfl⟩))
  all_goals (go_ret; exact ⟨rfl, pw_below_drewN HB.out _⟩)
end
theorem zeroRow (w : World) : (zeroValue 25).run Try.prog w = .ok (.slice none 0 0) w := by kernel_rfl
theorem zeroB (w : World) : (zeroValue 4).run Try.prog w = .ok (.bool false) w := by kernel_rfl
theorem at_P {w : World} {A : Option Addr} {n : Nat} {xs : List (Int × Int)} (h : Kd.C kP w A n xs) {i : Nat} {y : Int × Int} (hy : xs[i]? = some y) : ∃ ad, A = some ad ∧ w.cell? (ad.add (i * 2)) = some (.int .i64 y.1) ∧ w.cell? ⟨(ad.add (i * 2)).block, (ad.add (i * 2)).off + 1, none⟩ = some (.int .i64 y.2) := by
  obtain ⟨ad, c, e, -, ⟨c0, c1, rfl, h0, h1⟩, hc⟩ := Kd.C_nth h hy
  have e0 : c0 = [.int .i64 y.1] := h0
  have e1 : c1 = [.int .i64 y.2] := h1
  subst e0 e1
  exact ⟨ad, e, hc 0 _ rfl, by rw [← add_field _ _ 1 (by omega)]; exact hc 1 _ rfl⟩
/-- the rows of the map of steps, told apart by an owner -/
def RowsOf (w : World) (base : Nat) (own : Nat → Int) (f : Int → Value) (G : Int → List Int) : Prop :=
  ∀ x, Kd.R (Kd.int .i64) 3 w base (fun j => own j = x) (f x) (G x)
theorem RowsOf.start {w : World} {base : Nat} : RowsOf w base (fun _ => 0) (fun _ => .slice none 0 0) (nextG []) := fun x => Kd.R_nil _ _ _ _ _
theorem RowsOf.below {w w1 : World} {base : Nat} {own : Nat → Int} {f : Int → Value} {G : Int → List Int} (h : RowsOf w base own f G) (hb : Below w.heap.size w w1) : RowsOf w1 base own f G := fun x => Kd.R_below (h x) hb
theorem RowsOf.mine {w : World} {base : Nat} {own : Nat → Int} {f : Int → Value} {G : Int → List Int} (h : RowsOf w base own f G) (a : Int) : RowsOf w base (fun j => if w.heap.size ≤ j then a else own j) f G := fun x =>
  Kd.R_mono (Kd.R_bound (h x)) (fun k hk => by
    have h1 := hk.1
    have h2 := hk.2.2.1
    show (if w.heap.size ≤ k then a else own k) = x
    rw [if_neg (by omega)]
    exact h1)
theorem RowsOf.put {w w1 w2 : World} {base b : Nat} {own : Nat → Int} {f : Int → Value} {G : Int → List Int} {a : Int} {v : Value} {r : List Int} (h : RowsOf w base own f G) (hg : w.grownBy w1 (f a).ownBlock) (hv : Kd.R (Kd.int .i64) 3 w1 base (fun j => own j = a) v r) (hg2 : w1.grownBy w2 (some b)) (hb : b < base) :
    RowsOf w2 base own (fun y => if y = a then v else f y) (fun y => if y = a then r else G y) := by
  have far : ∀ {x : Int} {u : Value} {q : List Int}, Kd.R (Kd.int .i64) 3 w1 base (fun j => own j = x) u q → Kd.R (Kd.int .i64) 3 w2 base (fun j => own j = x) u q := fun hr =>
    Kd.R_mono (Kd.R_grown (Kd.R_bound hr) hg2 (fun k hk e => by have := hk.2.1; injection e with e; omega)) (fun _ hk => hk.1)
  intro x
  by_cases c : x = a
  · subst c
    simp only [if_true]
    exact far hv
  · simp only [if_neg c]
    refine far (Kd.R_grown (h x) hg (fun k hk e => c ?_))
    have h1 := (h a).1 k e.symm
    have h2 : own k = x := hk
    have h3 : own k = a := h1
    omega
theorem RowsOf.next {w : World} {base : Nat} {own : Nat → Int} {f : Int → Value} {steps : List (Int × Int)} {kk : Nat} {a b : Int} (hs : steps[kk]? = some (a, b)) (h : RowsOf w base own f (fun y => if y = a then nextG (steps.take kk) a ++ [b] else nextG (steps.take kk) y)) : RowsOf w base own f (nextG (steps.take (kk + 1))) := by
  intro x
  have := h x
  rw [nextG_take steps hs x]
  by_cases c : x = a
  · subst c
    simpa using this
  · simp only [if_neg c] at this
    have c' : ¬ a = x := fun e => c e.symm
    simpa [if_neg c'] using this
section
variable (A0 : Option Addr) (c0 : Nat) (l0 : List Stmt) (a1 : Int) (a2 : ByteArray) (w : World) (hr0 : Kd.C k30 w A0 l0.length l0) (hc0 : l0.length ≤ c0) (hl : l0.length ≤ 1000)
include hr0 hc0 hl
set_option maxHeartbeats 4000000 in
set_option maxRecDepth 100000 in
theorem taints_yes (hb : withinB l0.length a1 = true) (hi0 : 0 ≤ idxS (setS (l0.flatMap namesOf)) a2) (k : Nat) (seen : Int → Bool) (hs : tntV (nextG (stepsP l0 (setS (l0.flatMap namesOf)))) k (fun _ => false) (srcsP l0 (setS (l0.flatMap namesOf))) = some seen) :
    Calls Try.prog 40 #[.slice A0 l0.length c0, .int .i64 a1, .string a2] w fun e w' => e = .returned (.bool (seen (atP (setS (l0.flatMap namesOf)) a1 a2))) ∧ Below w.heap.size w w' := by
  obtain ⟨K, hn⟩ := Ev.rounds (Names_ev l0 hl)
  have hnl := names_len l0
  generalize hN : setS (l0.flatMap namesOf) = names at hn hnl hi0 hs ⊢
  clear hN
  obtain ⟨K2, hi⟩ := Ev.rounds (Index_ev names a2 (by omega))
  have hw := within_eq l0 a1
  rw [hb] at hw
  have hir := idxS_range names a2
  have HN := Aside0.mk hn
  have HI := Aside0.mk hi
  have HW := Aside0.mk hw
  have HR0 := Aside0.mk hr0
  have HC0 := Aside0.mk hc0
  obtain ⟨ST, hST⟩ : ∃ ST, stepsP l0 names = ST := ⟨_, rfl⟩
  obtain ⟨SR, hSR⟩ : ∃ SR, srcsP l0 names = SR := ⟨_, rfl⟩
  rw [hST, hSR] at hs
  have hST1 := stepsP_small hl (show names.length ≤ 3000 by omega)
  have hST2 := stepsP_len hl (show names.length ≤ 3000 by omega)
  have hSR1 := srcsP_small hl (show names.length ≤ 3000 by omega)
  have hSR2 := srcsP_len (names := names) hl
  rw [hST] at hST1 hST2
  rw [hSR] at hSR1 hSR2
  have HS := Aside0.mk hs
  have HST := Aside0.mk hST
  have HSR := Aside0.mk hSR
  have HST1 := Aside0.mk hST1
  have HSR1 := Aside0.mk hSR1
  clear hST hSR hST1 hSR1
  have hin : ¬ idxS names a2 < 0 := by omega
  have hat : smallP (atP names a1 a2) := by
    have h1 : 0 ≤ a1 ∧ a1 < (l0.length : Int) := by simpa [withinB] using hb
    exact atP_range h1.1 (by omega) (by omega)
  have ew1 : IntKind.i64.wrap (a1 * (names.length : Int)) = a1 * (names.length : Int) := by
    have h1 : 0 ≤ a1 ∧ a1 < (l0.length : Int) := by simpa [withinB] using hb
    have h2 : 0 ≤ a1 * (names.length : Int) := Int.mul_nonneg h1.1 (by omega)
    have h3 : a1 * (names.length : Int) ≤ 1000 * 3000 := Int.mul_le_mul (by omega) (by omega) (by omega) (by omega)
    rw [i64_w]; unfold wrap64; omega
  have ew2 : IntKind.i64.wrap (a1 * (names.length : Int) + idxS names a2) = a1 * (names.length : Int) + idxS names a2 := by
    have := hat
    unfold smallP atP at this
    rw [i64_w]; unfold wrap64; omega
  have hmm := @run_makeMap Try.prog
  clear hn hi hb hw hr0 hc0 hs
  go_enter Try.func40, Try.ntmps40
  go_wp2_with (first
    | (go_at_call 31; go_must (refine (cfg_Names.calls K _ _ l0 names _ HR0.out HC0.out HN.out).mono ?_); rintro e w1 ⟨v0, rfl, ho0, hb⟩; have HO := Aside0.mk ho0; have HB := Aside0.mk hb; clear ho0 hb; obtain ⟨Ao, co, eo⟩ := Kd.R_slice HO.out; subst eo)
    | (go_at_call 59; go_must (refine (slices_Index_string_string.calls K2 _ _ names a2 _ _ (Kd.R_reads' HO.out).2.2 (Kd.R_reads' HO.out).2.1 HI.out).mono ?_); rintro e w2 ⟨rfl, nd, rfl⟩)
    | (go_at_call 42; go_must (refine (cfg_within.calls _ _ l0 a1 _ _ (Kd.C_drewN (Kd.C_below HR0.out HB.out) _) HC0.out HW.out).mono ?_); rintro e w3 ⟨rfl, ne, rfl⟩)
    | (go_at_call 60; go_must (refine (flows_calls _ _ l0 _ _ names _ (by first | exact Kd.C_drewN (Kd.C_below HR0.out HB.out) _ | exact Kd.C_drewN (Kd.C_drewN (Kd.C_below HR0.out HB.out) _) _) HC0.out (by first | exact Kd.C_drewN (Kd.R_reads' HO.out).2.2 _ | exact Kd.C_drewN (Kd.C_drewN (Kd.R_reads' HO.out).2.2 _) _) (Kd.R_reads' HO.out).2.1 hl (by omega)).mono ?_); rintro e w4 ⟨v9, v10, rfl, h9, h10, hb4⟩; rw [HST.out] at h9; rw [HSR.out] at h10; have H9 := Aside0.mk (Kd.R_bound h9); have H10 := Aside0.mk (Kd.R_bound h10); have B4 := Aside0.mk (below_then HB.out HB.out.size (pw_below_grown (pw_below_drewN (Below.refl _ _) _) none (by simp) (grown_of_below hb4 none) (by simp))); clear h9 h10 hb4; obtain ⟨A9, c9, e9⟩ := Kd.R_slice H9.out; subst e9; obtain ⟨A10, c10, e10⟩ := Kd.R_slice H10.out; subst e10))
  go_loopg [39] ST.length (fun gg s39 wr => ∃ (kk : Nat) (f : Int → Value) (own : Nat → Int), kk ≤ ST.length ∧ ST.length - kk ≤ gg ∧ s39 = .int .i64 kk ∧ Aside0 (Below w.heap.size w wr) ∧ Aside0 (Kept w4 wr (fun i => w4.heap.size ≤ i)) ∧ Aside0 (MapV Try.prog wr 3 (.slice none 0 0) w4.heap.size kk f) ∧ Aside0 (RowsOf wr (w4.heap.size + 1) own f (nextG (ST.take kk))))
  case atStart => exact ⟨0, _, _, Nat.zero_le _, by omega, rfl, ⟨below_alloc B4.out _⟩, ⟨Kept.alloc (Kept.refl _ _) _⟩, ⟨MapV.made _ _ _ _⟩, ⟨RowsOf.start⟩⟩
  case round =>
    obtain ⟨kk, f, own, hkk, hg, rfl, BW, KW, MW, RW⟩ := hrel
    by_cases hlt : kk < ST.length
    · have hltz : (kk : Int) < (ST.length : Int) := by omega
      have hkz : (0 : Int) ≤ (kk : Int) := by omega
      obtain ⟨⟨pa, pb⟩, hp⟩ := at_some hlt
      have hC9 := Kd.C_kept_own H9.out (S := fun i => w4.heap.size ≤ i) (fun k hk => by have := hk.2.2.1; omega) _ KW.out
      obtain ⟨ad9, e9, hx0, hx1⟩ := at_P hC9 hp
      cases e9
      clear hC9
      obtain ⟨hs1, hs2⟩ := HST1.out _ (List.mem_of_getElem? hp)
      have HP := Aside0.mk hp
      have hWa := Aside0.mk (smallP_wf hs1)
      clear hp
      dsimp only at hx0 hx1 hs1 hs2
      have hmb := MW.out.lt
      go_wp2
      obtain ⟨ww, hww⟩ : ∃ ww, ww = (wr.alloc (.cells #[.int .i64 pa, .int .i64 pb] 84)).drew := ⟨_, rfl⟩
      have bAD : Below wr.heap.size wr ww := hww ▸ below_drew1 (below_alloc (Below.refl _ _) _)
      have ZW := Aside0.mk (show ww.heap.size = wr.heap.size + 1 by rw [hww]; simp)
      have BWW := Aside0.mk (below_then BW.out BW.out.size bAD)
      have MWW := Aside0.mk (MapV.below MW.out bAD)
      have RWW := Aside0.mk (RowsOf.mine (RowsOf.below RW.out bAD) pa)
      have KWW := Aside0.mk (Kept.below KW.out bAD)
      have GWW : Aside0 (ww.heap[wr.heap.size]? = some (.cells #[.int .i64 pa, .int .i64 pb] 84 (0, 0))) := ⟨hww ▸ blk_new wr _⟩
      have hS0 : ((ww.cell? ⟨wr.heap.size, 0, none⟩ = some (.int .i64 pa) ∧ ww.cell? ⟨wr.heap.size, 1, none⟩ = some (.int .i64 pb)) ∧ (Instr.lookup 83 (.map (some w4.heap.size)) (.int .i64 pa) false).run Try.prog ww = .ok (f pa) ww) :=
        ⟨⟨(blk_cell GWW.out 0).trans rfl, (blk_cell GWW.out 1).trans rfl⟩, MWW.out.look Try.underlying3 Try.underlying83 (zeroRow ww) pa hWa.out⟩
      have HWW := Aside0.mk hww
      rw [hww] at hS0
      clear bAD hww
      refine start_ (n := 12) (S := fun w' => (w'.cell? ⟨wr.heap.size, 0, none⟩ = some (.int .i64 pa) ∧ w'.cell? ⟨wr.heap.size, 1, none⟩ = some (.int .i64 pb)) ∧ (Instr.lookup 83 (.map (some w4.heap.size)) (.int .i64 pa) false).run Try.prog w' = .ok (f pa) w') (ds := [11]) (bl 12 0) (by kernel_rfl) rfl rfl hS0 (fun hHeld => ?_)
      clear hS0
      rw [← HWW.out] at hHeld ⊢
      refine pure_ (i := 0) (N := some 43) (v := ?_) (a' := ?_) (bl 12 1) rfl rfl (by kernel_rfl) (fun _ _ _ h => h) (Or.inl ⟨by rfl, ?_⟩) ?_ ?_
      rotate_left
      · intro w'
        go_simp
        with_reducible rfl
      rotate_left
      · simp only [Act.put, sA, sZ, sS]
        rfl
      refine pure_ (i := 1) (N := some 44) (v := ?_) (a' := ?_) (bl 12 3) rfl rfl (by kernel_rfl) (fun _ _ _ h => h) (Or.inl ⟨by rfl, ?_⟩) ?_ ?_
      rotate_left
      · intro w'
        go_simp
        with_reducible rfl
      rotate_left
      · simp only [Act.put, sA, sZ, sS]
        rfl
      refine pure_ (i := 3) (N := some 46) (v := ?_) (a' := ?_) (bl 12 11) rfl rfl (by kernel_rfl) (fun _ _ _ h => h) (Or.inl ⟨by rfl, ?_⟩) ?_ ?_
      rotate_left
      · intro w'
        go_simp
        with_reducible rfl
      rotate_left
      · simp only [Act.put, sA, sZ, sS]
        rfl
      refine pure_ (i := 4) (N := some 47) (v := ?_) (a' := ?_) (bl 12 27) rfl rfl (by kernel_rfl) (fun _ _ _ h => h) (Or.inl ⟨by rfl, ?_⟩) ?_ ?_
      rotate_left
      · intro w'
        go_simp
        with_reducible rfl
      rotate_left
      · simp only [Act.put, sA, sZ, sS]
        rfl
      refine pure_ (i := 7) (N := some 50) (v := ?_) (a' := ?_) (bl 12 155) rfl rfl (by kernel_rfl) (fun _ _ _ h => h) (Or.inl ⟨by rfl, ?_⟩) ?_ ?_
      rotate_left
      · intro w'
        go_simp
        with_reducible rfl
      rotate_left
      · simp only [Act.put, sA, sZ, sS]
        rfl
      refine take_ (i := 2) (N := some 45) (v := ?_) (a' := ?_) (bl 12 159) rfl rfl (by kernel_rfl) (fun _ _ _ h => h) (Or.inl ⟨by rfl, ?_⟩) hHeld ?_ ?_
      rotate_left
      · intro w' hSw
        (try dsimp only at hSw)
        go_split_ands
        go_simp
        with_reducible rfl
      rotate_left
      · simp only [Act.put, sA, sZ, sS]
        rfl
      refine take_ (i := 5) (N := some 48) (v := ?_) (a' := ?_) (bl 12 191) rfl rfl (by kernel_rfl) (fun _ _ _ h => h) (Or.inl ⟨by rfl, ?_⟩) hHeld ?_ ?_
      rotate_left
      · intro w' hSw
        (try dsimp only at hSw)
        go_split_ands
        go_simp
        with_reducible rfl
      rotate_left
      · simp only [Act.put, sA, sZ, sS]
        rfl
      refine take_ (i := 8) (N := some 51) (v := ?_) (a' := ?_) (bl 12 447) rfl rfl (by kernel_rfl) (fun _ _ _ h => h) (Or.inl ⟨by rfl, ?_⟩) hHeld ?_ ?_
      rotate_left
      · intro w' hSw
        (try dsimp only at hSw)
        go_split_ands
        go_simp
        with_reducible rfl
      rotate_left
      · simp only [Act.put, sA, sZ, sS]
        rfl
      refine take_ (i := 6) (N := some 49) (v := ?_) (a' := ?_) (bl 12 511) rfl rfl (by kernel_rfl) (fun _ _ _ h => h) (Or.inl ⟨by rfl, ?_⟩) hHeld ?_ ?_
      rotate_left
      · intro w' hSw
        (try dsimp only at hSw)
        go_split_ands
        go_simp
        with_reducible rfl
      rotate_left
      · simp only [Act.put, sA, sZ, sS]
        rfl
      refine one_ (i := 9) (N := some 52) (bl 12 1023) rfl rfl (by kernel_rfl) (by decide) (fun K hK => ?_)
      refine value_ (v := .slice (some ⟨ww.heap.size, 0, none⟩) 1 1) (w1 := ww.alloc (.cells #[.int .i64 pb] 3)) (by rfl) rfl ?_ ?_
      · go_simp
      refine hK.out _ _ ?_ (fun hHeld => ?_)
      · have hb9 := below_alloc (Below.refl ww.heap.size ww) (.cells #[.int .i64 pb] 3)
        exact ⟨⟨(blk_cell (blk_below GWW.out hb9) 0).trans rfl, (blk_cell (blk_below GWW.out hb9) 1).trans rfl⟩, (MWW.out.below hb9).look Try.underlying3 Try.underlying83 (zeroRow _) pa hWa.out⟩
      clear hK K
      refine norm_ (a' := ?_) ?_ ?_
      rotate_left
      · show Act.put _ (some 52) _ = _
        simp only [Act.put, sA, sZ, sS]
        rfl
      have hne1 : some wr.heap.size ≠ (f pa).ownBlock := fun e => by have := Kd.R_lt (RW.out pa) _ e.symm; omega
      have hne2 : some w4.heap.size ≠ (f pa).ownBlock := fun e => by have := Kd.R_base (RW.out pa) _ e.symm; omega
      have hnl2 : (nextG (ST.take kk) pa).length ≤ 6100000 := by
        have := nextG_len (ST.take kk) pa
        rw [List.length_take] at this
        omega
      have hww4 : w4.heap.size + 1 ≤ ww.heap.size := by rw [ZW.out]; omega
      refine one_ (i := 10) (N := some 53) (bl 12 2047) rfl rfl (by kernel_rfl) (by decide) (fun K hK => ?_)
      refine Kd.R_append_step (Kd.int .i64) (w0 := ww) (w4.heap.size + 1) (by rfl) (.tmp 49) (.tmp 52) 25 3 (.int .i64 0) 8 (by rfl) Try.underlying25 infoI rfl (by decide) (by omega) (f pa) (nextG (ST.take kk) pa) pb [.int .i64 pb] (fun j => (if ww.heap.size ≤ j then pa else own j) = pa) (fun _ => False) (by rfl) (by rfl) rfl (fun _ h => h.elim) (fun k hk => by show (if ww.heap.size ≤ k then pa else own k) = pa; rw [if_pos hk]) (RWW.out pa) (Below.refl _ _) hww4 (by omega) ?_
      intro v1 w6 h1 hb1 hg1 hat1
      have M6 := MWW.out.kept hg1 hne2
      have g6 := (hg1.block wr.heap.size (blk_lt GWW.out) hne1).trans GWW.out
      refine hK.out _ _ ⟨⟨(blk_cell g6 0).trans rfl, (blk_cell g6 1).trans rfl⟩, M6.look Try.underlying3 Try.underlying83 (zeroRow _) pa hWa.out⟩ (fun hHeld => ?_)
      clear hK K g6 hHeld
      refine norm_ (a' := ?_) ?_ ?_
      rotate_left
      · show Act.put _ (some 53) _ = _
        simp only [Act.put, sA, sZ, sS]
        rfl
      obtain ⟨w7, hr7, M7, hg7⟩ := M6.put (e := 25) Try.underlying3 Try.underlying83 (by unfold maxLen; omega) pa hWa.out v1
      refine last_ (i := 11) (N := none) (bl 12 4095) rfl rfl (by kernel_rfl) (by decide) (fun K hK => ?_)
      refine skip_ (w1 := w7) (by rfl) rfl ?_ ?_
      · go_simp
      refine hK.out _ _ ?_
      clear hK K hr7
      refine done_ (by kernel_rfl) ?_
      have hb4 := B4.out.size
      have hrow : ∀ k, (f pa).ownBlock = some k → w4.heap.size ≤ k := fun k hk => by have := Kd.R_base (RW.out pa) k hk; omega
      have B7 := Aside0.mk (pw_below_grown (pw_below_grown BWW.out _ BWW.out.size hg1 (fun k hk => by have := hrow k hk; omega)) _ (by have := BWW.out.size; have := hg1.size; omega) hg7 (fun k hk => by injection hk with hk; omega))
      have K7 := Aside0.mk (Kept.of_grown hg7 (Kept.of_grown hg1 KWW.out (fun k hk => .inl (hrow k hk))) (fun k hk => .inl (by injection hk with hk; show w4.heap.size ≤ k; omega)))
      have R7 := Aside0.mk (RowsOf.next HP.out (RowsOf.put RWW.out hg1 h1 hg7 (by omega)))
      have M7' := Aside0.mk M7
      clear M7 h1 hb1 hg1 hat1 hg7 M6
      go_wp2
      go_roundg (ST.length - (kk + 1))
      case measure => omega
      case rel => exact ⟨kk + 1, _, _, by omega, by omega, by go_num, B7, K7, M7', R7⟩
    · have hltz : ¬ (kk : Int) < (ST.length : Int) := by omega
      obtain rfl : kk = ST.length := by omega
      have hRW := RW.out
      rw [List.take_length] at hRW
      have RN := Aside0.mk hRW
      clear hRW RW
      have hmb := MW.out.lt
      go_wp2_with (go_at_call 61; go_must (refine (slices_Clone_int_int.calls _ _ SR SR _ (Kd.C_alloc (Kd.C_kept_own H10.out (S := fun i => w4.heap.size ≤ i) (fun k hk => by have := hk.2.2.1; omega) _ KW.out) _) (Kd.R_reads' H10.out).2.1 (by unfold slices_Clone_int_int.f; rw [if_pos (by omega)])).mono ?_); rintro e w6 ⟨v15, rfl, h15, hb6⟩; have H15 := Aside0.mk h15; have B6 := Aside0.mk hb6; clear h15 hb6)
      obtain ⟨wo, rfl⟩ : ∃ wo : World, wo = wr := ⟨_, rfl⟩
      have hb0 : w.heap.size ≤ wo.heap.size := BW.out.size
      have e15 : (wo.alloc (.map #[] 0)).heap.size = wo.heap.size + 1 := by simp
      have BA : Aside0 (Below wo.heap.size wo w6) := ⟨below_then (below_alloc (Below.refl _ _) _) (by rw [e15]; omega) B6.out⟩
      have MA : Aside0 (MapV Try.prog w6 3 (.bool false) wo.heap.size 0 (fun _ => .bool false)) := ⟨MapV.below (MapV.made _ _ _ _) B6.out⟩
      have QA : Aside0 (Kd.Q (Kd.int .i64) 3 w6 (wo.heap.size + 1) (fun _ => True) v15 SR) := ⟨by have := Kd.Q_of_R H15.out; rwa [e15] at this⟩
      have P0 : Aside0 (0 + potV ST (fun _ => false) SR ≤ 6102000) := ⟨by
        have := List.length_filter_le (fun p : Int × Int => !(fun _ => false : Int → Bool) p.1) ST
        unfold potV
        omega⟩
      clear H15 B6 e15
      go_loopg [15] k (fun gg s15 wx => ∃ (sn : Int → Bool) (x : List Int) (n : Nat), Aside0 (tntV (nextG ST) gg sn x = some seen) ∧ Aside0 (n + potV ST sn x ≤ 6102000) ∧ Aside0 (∀ y ∈ x, smallP y) ∧ Aside0 (MapV Try.prog wx 3 (.bool false) wo.heap.size n (fun y => .bool (sn y))) ∧ Aside0 (Below wo.heap.size wo wx) ∧ Aside0 (Kd.Q (Kd.int .i64) 3 wx (wo.heap.size + 1) (fun _ => True) s15 x))
      case atStart => exact ⟨_, SR, 0, HS, P0, HSR1, MA, BA, QA⟩
      case round =>
        clear P0 MA BA QA
        obtain ⟨sn, x, n, HT, HP2, HTD, MS, BX, QX⟩ := hrel
        cases gk with
        | zero => exact absurd HT.out (by simp [tntV])
        | succ g1 =>
        cases x with
        | nil =>
          obtain ⟨Aq, cq, eq, -⟩ := Kd.Q_slice QX.out
          subst eq
          have hbx := BX.out.size
          have es : sn = seen := by have := HT.out; simpa [tntV] using this
          have hl1 := MS.out.look (t := 85) (e := 4) Try.underlying3 Try.underlying85 (zeroB _) (a1 * (names.length : Int) + idxS names a2) (smallP_wf hat)
          rw [es] at hl1
          clear es
          have q0 : decide (0 < (([] : List Int).length : Int)) = false := by decide
          go_wp2
          go_ret
          exact ⟨rfl, below_then BW.out BW.out.size BX.out⟩
        | cons k1 r =>
          obtain ⟨Aq, cq, eq, -⟩ := Kd.Q_slice QX.out
          subst eq
          have hxl : (k1 :: r).length = r.length + 1 := rfl
          have hT0 := HT.out
          have hP0 := HP2.out
          have hk1 := HTD.out k1 (by simp)
          have hrs : ∀ y ∈ r, smallP y := fun y hy => HTD.out y (List.mem_cons_of_mem _ hy)
          have hps := pot_skip ST sn k1 r
          have hps2 := pot_see ST sn k1 r
          have hms := MS.out.lt
          rw [tntV] at hT0
          have hd1 : r = (k1 :: r).drop (1 : Int).toNat := rfl
          have hg1 : (k1 :: r)[0]? = some k1 := rfl
          clear HT HP2 HTD
          generalize k1 :: r = x at QX hxl hd1 hg1 hP0 hps hps2 ⊢
          have HD1 := Aside0.mk hd1
          have HXL := Aside0.mk hxl
          have HRS := Aside0.mk hrs
          have hx0 : decide (0 < (x.length : Int)) = true := decide_eq_true (by omega)
          have hx1 : decide (0 < x.length) = true := decide_eq_true (by omega)
          have hx2 : 0 < x.length := by omega
          have hx3 : (0 : Int) < (x.length : Int) := by omega
          obtain ⟨ad1, ea1, hc1⟩ := at_int (Kd.Q_reads' QX.out).2.2 hg1
          rw [Addr.add_zero'] at hc1
          cases ea1
          have q18 : (1 : Int) ≤ (x.length : Int) := by omega
          obtain ⟨i018, hi018, _, hsz18, _⟩ := info_parts info3
          have hcut18 := cut_from (P := Try.prog) 25 3 .i64 Try.underlying25 hi018 1 hsz18 (some ad1) x.length cq 1 (by omega) q18
          have hr18 := Kd.Q_drop (k := (1 : Int).toNat) QX.out (by omega)
          obtain ⟨A18, hA18⟩ : ∃ A1, A1 = (if cq = (1 : Int).toNat then (some ad1) else ((some ad1) : Option Addr).map (·.add ((1 : Int).toNat * 1))) := ⟨_, rfl⟩
          obtain ⟨c18, hc18⟩ : ∃ c1, c1 = cq - (1 : Int).toNat := ⟨_, rfl⟩
          have hy18 : r.length = x.length - (1 : Int).toNat := by rw [hd1, List.length_drop]
          rw [← hd1] at hr18
          rw [← hy18, ← hA18, ← hc18] at hcut18
          replace hr18 : Kd.Q (Kd.int .i64) 3 wr (wo.heap.size + 1) (fun _ => True) (.slice A18 r.length c18) r := (by rw [hA18, hc18, hy18]; exact hr18)
          have QR := Aside0.mk hr18
          clear hy18 hi018 hsz18 QX hA18 hc18 hr18 hg1 hd1 hxl hrs
          have hl1 := MS.out.look (t := 85) (e := 4) Try.underlying3 Try.underlying85 (zeroB _) k1 (smallP_wf hk1)
          have hbx := BX.out.size
          cases hb : sn k1
          case true =>
            rw [hb] at hl1
            rw [if_pos hb] at hT0
            have HT1 := Aside0.mk hT0
            have HP1 : Aside0 (n + potV ST sn r ≤ 6102000) := ⟨by omega⟩
            clear hT0 hps hP0 hb hps2
            go_wp2
            go_roundg g1
            case measure => omega
            case rel => exact ⟨sn, r, n, HT1, HP1, HRS, MS, BX, QR⟩
          case false =>
            rw [hb] at hl1
            rw [if_neg (by rw [hb]; simp)] at hT0
            replace hps2 := hps2 hb
            have HT1 := Aside0.mk hT0
            have HP1 : Aside0 (n + 1 + potV ST (seeV sn k1) (r ++ nextG ST k1) ≤ 6102000) := ⟨by omega⟩
            have hlen2 : r.length + (nextG ST k1).length ≤ 6102000 := by
              have := HP1.out
              unfold potV at this
              rw [List.length_append] at this
              omega
            have hnm : n < maxLen := by unfold maxLen; omega
            obtain ⟨w7, hr7, hM7, hg7⟩ := MS.out.put (e := 4) Try.underlying3 Try.underlying85 hnm k1 (smallP_wf hk1) (.bool true)
            have hM7' : MapV Try.prog w7 3 (.bool false) wo.heap.size (n + 1) (fun y => .bool (seeV sn k1 y)) := by
              have e : (fun y => if y = k1 then Value.bool true else .bool (sn y)) = fun y => .bool (seeV sn k1 y) := by
                funext y
                unfold seeV
                split <;> rfl
              rwa [e] at hM7
            have M7 := Aside0.mk hM7'
            have hB7 : Below wo.heap.size wo w7 := pw_below_grown BX.out _ hbx hg7 (fun k hk => by injection hk with hk; omega)
            have B7 := Aside0.mk hB7
            have hl2 := (MW.out.below hB7).look (t := 83) (e := 25) Try.underlying3 Try.underlying83 (zeroRow _) k1 (smallP_wf hk1)
            have RK := Aside0.mk (Kd.R_below (RN.out k1) hB7)
            obtain ⟨Ak, ck, ek⟩ := Kd.R_slice RK.out
            rw [ek] at hl2
            have hRK := RK.out
            rw [ek] at hRK
            have CK := Aside0.mk (Kd.R_reads' hRK).2.2
            have Q7 := Aside0.mk (Kd.Q_grown2 QR.out rfl hg7 (fun k hk e => by have := Kd.Q_base QR.out k e.symm; injection hk with hk; omega))
            have hz7 := hg7.size
            clear hps hP0 hb hT0 hps2 hM7 hM7' hB7 hg7 ek hRK
            go_wp2_with (at_builtin; go_must (refine Kd.Q_append_rows (Kd.int .i64) (w0 := w7) (wo.heap.size + 1) rfl (.tmp 72) (.tmp 75) 25 3 (.int .i64 0) 8 rfl Try.underlying25 infoI rfl (by decide) (by omega) (.slice A18 r.length c18) r (nextG ST k1) _ _ _ (fun _ => True) (fun _ => False) rfl rfl Q7.out CK.out (fun _ _ h => h) (fun _ h => h.elim) (fun _ _ => trivial) (Below.refl _ _) (by omega) (by omega) ?_); intro v16 w8 hq8 hb8 hg8 hat8)
            have hne : ∀ k, (Value.slice A18 r.length c18).ownBlock = some k → wo.heap.size + 1 ≤ k := Kd.Q_base Q7.out
            have M8 := Aside0.mk (M7.out.kept hg8 (fun e => by have := hne _ e.symm; omega))
            have B8 := Aside0.mk (pw_below_grown B7.out _ (by omega) hg8 (fun k hk => by have := hne _ hk; omega))
            have Q8 := Aside0.mk hq8
            have HS8 : Aside0 (∀ y ∈ r ++ nextG ST k1, smallP y) := ⟨fun y hy => by
              rcases List.mem_append.1 hy with hy | hy
              · exact HRS.out y hy
              · exact nextG_mem_small HST1.out k1 y hy⟩
            clear hq8 hb8 hg8 hat8 hne
            go_roundg g1
            case measure => omega
            case rel => exact ⟨seeV sn k1, r ++ nextG ST k1, n + 1, HT1, HP1, HS8, M8, B8, Q8⟩
end
theorem cfg_Taints.calls (k : Nat) (A0 : Option Addr) (c0 : Nat) (l0 : List Stmt) (a1 : Int) (a2 : ByteArray) (r : Bool) (w : World) (hr0 : Kd.C k30 w A0 l0.length l0) (hc0 : l0.length ≤ c0) (h : cfg_Taints.f k l0 a1 a2 = some r) :
    Calls Try.prog 40 #[.slice A0 l0.length c0, .int .i64 a1, .string a2] w fun e w' => e = .returned (.bool r) ∧ Below w.heap.size w w' := by
  unfold cfg_Taints.f at h
  by_cases hl : l0.length ≤ 1000
  · rw [if_pos hl] at h
    by_cases c : withinB l0.length a1 = true ∧ 0 ≤ idxS (setS (l0.flatMap namesOf)) a2
    · rw [if_pos c] at h
      obtain ⟨seen, hs, h⟩ := Option.bind_eq_some_iff.1 h
      obtain rfl := Option.some.inj h
      exact taints_yes A0 c0 l0 a1 a2 w hr0 hc0 hl c.1 c.2 k seen hs
    · rw [if_neg c] at h
      obtain rfl := Option.some.inj h
      exact taints_no A0 c0 l0 a1 a2 w hr0 hc0 hl c
  · rw [if_neg hl] at h
    cases h
end Go.Proofs.Ytnepgcbgkhikkaa.H
/- cfg.Taints' plain word tells what is tainted -/
namespace Go.Proofs.Ytnepgcbgkhikkaa.H
open Go.RowKit Go.Proofs.YtnepgcbgkhikkaaW.PrintWords
set_option linter.unusedVariables false
theorem tnt_ev (steps : List (Int × Int)) (srcs : List Int) : ∃ r, Ev (fun k => tntV (nextG steps) k (fun _ => false) srcs) r ∧ ∀ q, r q = true ↔ Tnt steps srcs q := by
  obtain ⟨r, hr⟩ := tntV_some steps (potV steps (fun _ => false) srcs + 1) (fun _ => false) srcs (by omega)
  have hup : ∀ d, tntV (nextG steps) (potV steps (fun _ => false) srcs + 1 + d) (fun _ => false) srcs = some r := by
    intro d
    induction d with
    | zero => exact hr
    | succ d ih => exact tntV_more _ _ _ _ _ ih
  refine ⟨r, ⟨potV steps (fun _ => false) srcs + 1, fun k hk => ?_⟩, tntV_spec steps srcs _ _ _ r ⟨fun k hk => .base hk, fun k hk => (by cases hk), fun p hp => .inr hp, fun p q hp => (by cases hp)⟩ hr⟩
  obtain ⟨d, rfl⟩ : ∃ d, k = potV steps (fun _ => false) srcs + 1 + d := ⟨k - (potV steps (fun _ => false) srcs + 1), by omega⟩
  exact hup d
def nmsT (l : List Stmt) : List ByteArray := setS (l.flatMap namesOf)
def taintP (l : List Stmt) (n : Int) (x : ByteArray) : Prop := 0 ≤ n ∧ n < (l.length : Int) ∧ x ∈ nmsT l ∧ TaintP l (nmsT l) n x
theorem Taints_ev (l : List Stmt) (n : Int) (x : ByteArray) (hl : l.length ≤ 1000) : ∃ b, Ev (fun k => cfg_Taints.f k l n x) b ∧ (b = true ↔ taintP l n x) := by
  unfold cfg_Taints.f
  have w : withinB l.length n = true ↔ 0 ≤ n ∧ n < (l.length : Int) := by simp [withinB]
  by_cases c : withinB l.length n = true ∧ 0 ≤ idxS (setS (l.flatMap namesOf)) x
  · obtain ⟨r, hr, hs⟩ := tnt_ev (stepsP l (setS (l.flatMap namesOf))) (srcsP l (setS (l.flatMap namesOf)))
    refine ⟨r (atP (setS (l.flatMap namesOf)) n x), Ev.pos hl (Ev.pos c (Ev.bind hr (Ev.now _))), ?_⟩
    rw [hs]
    have h1 := w.1 c.1
    have h2 := idxS_mem.1 c.2
    constructor
    · intro h; exact ⟨h1.1, h1.2, h2, h⟩
    · intro h; exact h.2.2.2
  · refine ⟨false, Ev.pos hl (Ev.neg c (Ev.now _)), ⟨fun h => (by cases h), fun h => absurd ⟨w.2 ⟨h.1, h.2.1⟩, idxS_mem.2 h.2.2.1⟩ c⟩⟩
theorem Taints_yes (l : List Stmt) (n : Int) (x : ByteArray) (hl : l.length ≤ 1000) (h0 : 0 ≤ n) (h1 : n < (l.length : Int)) (hx : x ∈ nmsT l) (ht : TaintP l (nmsT l) n x) : Ev (fun k => cfg_Taints.f k l n x) true := by
  obtain ⟨b, hb, e⟩ := Taints_ev l n x hl
  have : b = true := e.2 ⟨h0, h1, hx, ht⟩
  exact this ▸ hb
end Go.Proofs.Ytnepgcbgkhikkaa.H
/- of what comes that a name is tainted -/
namespace Go.Proofs.Ytnepgcbgkhikkaa.H
open Go.RowKit Go.Proofs.YtnepgcbgkhikkaaW.PrintWords
set_option linter.unusedVariables false
set_option linter.unusedSimpArgs false
theorem idxP_at {α : Type} (p : α → Bool) : ∀ (l : List α) (i : Nat), 0 ≤ idxP p l i → ∃ k y, idxP p l i = ((i + k : Nat) : Int) ∧ l[k]? = some y ∧ p y = true
  | [], i, h => by simp [idxP] at h
  | y :: l, i, h => by
    unfold idxP at h ⊢
    by_cases c : p y = true
    · rw [if_pos c]
      exact ⟨0, y, by simp, rfl, c⟩
    · rw [if_neg c] at h ⊢
      obtain ⟨k, z, h1, h2, h3⟩ := idxP_at p l (i + 1) h
      exact ⟨k + 1, z, by rw [h1]; congr 1; omega, h2, h3⟩
theorem idxS_at {names : List ByteArray} {x : ByteArray} (h : x ∈ names) : ∃ k : Nat, idxS names x = (k : Int) ∧ names[k]? = some x ∧ k < names.length := by
  obtain ⟨k, y, h1, h2, h3⟩ := idxP_at (fun y => decide (y = x)) names 0 (idxS_mem.2 h)
  have e : y = x := by simpa using h3
  subst e
  exact ⟨k, by unfold idxS; rw [h1]; simp, h2, (List.getElem?_eq_some_iff.1 h2).1⟩
theorem place_inj {M : Nat} {n n' : Int} {i i' : Nat} (hi : i < M) (hi' : i' < M) (h : n * (M : Int) + i = n' * (M : Int) + i') : n = n' ∧ i = i' := by
  have h1 : (n - n') * (M : Int) = (i' : Int) - i := by rw [Int.sub_mul]; omega
  have h2 : n - n' = 0 := by
    rcases Int.lt_trichotomy (n - n') 0 with q | q | q
    · have : (n - n') * (M : Int) ≤ (-1) * (M : Int) := Int.mul_le_mul_of_nonneg_right (by omega) (by omega)
      omega
    · exact q
    · have : 1 * (M : Int) ≤ (n - n') * (M : Int) := Int.mul_le_mul_of_nonneg_right (by omega) (by omega)
      omega
  rw [h2, Int.zero_mul] at h1
  omega
theorem atP_inj {names : List ByteArray} {n n' : Int} {x x' : ByteArray} (hx : x ∈ names) (hx' : x' ∈ names) (h : atP names n x = atP names n' x') : n = n' ∧ x = x' := by
  obtain ⟨k, h1, h2, h3⟩ := idxS_at hx
  obtain ⟨k', g1, g2, g3⟩ := idxS_at hx'
  unfold atP at h
  rw [h1, g1] at h
  obtain ⟨e1, e2⟩ := place_inj h3 g3 h
  subst e2
  rw [h2] at g2
  exact ⟨e1, Option.some.inj g2⟩
theorem at_mem' {s : List Stmt} {n : Int} (h0 : 0 ≤ n) (h1 : n < (s.length : Int)) : at_ s n ∈ s := by
  have e : at_ s n = s[n.toNat]'(by omega) := by
    unfold at_ rd_T30
    rw [List.getD_eq_getElem?_getD, List.getElem?_eq_getElem (by omega)]
    rfl
  rw [e]
  exact List.getElem_mem _
theorem mem_nmsT {s : List Stmt} {x : ByteArray} : x ∈ nmsT s ↔ ∃ st ∈ s, x ∈ namesOf st := by
  unfold nmsT
  rw [mem_setS, List.mem_flatMap]
theorem def_nm {s : List Stmt} {n : Int} (h0 : 0 ≤ n) (h1 : n < (s.length : Int)) {x : ByteArray} (h : defB (at_ s n) x = true) : x ∈ nmsT s := by
  obtain ⟨e1, e2⟩ := defB_iff.1 h
  exact mem_nmsT.2 ⟨_, at_mem' h0 h1, by simp [namesOf, e1, e2]⟩
theorem use_nm {s : List Stmt} {n : Int} (h0 : 0 ≤ n) (h1 : n < (s.length : Int)) {x : ByteArray} (h : x ∈ usesS (at_ s n)) : x ∈ nmsT s :=
  mem_nmsT.2 ⟨_, at_mem' h0 h1, by simp [namesOf, h]⟩
theorem defN_of {st : Stmt} (h : st.kind = 4 ∨ opK st) : defN st = (st.x, true) := by
  unfold defN
  rw [if_pos (by unfold opK at h; omega)]
/-- what a statement hands on of a name to one to which it leads -/
def hands (s : List Stmt) (m : Int) (x : ByteArray) (T : Int → ByteArray → Prop) : Prop :=
  (defB (at_ s m) x = true ∧ (at_ s m).kind = 4) ∨ (defB (at_ s m) x = false ∧ T m x) ∨ (defB (at_ s m) x = true ∧ opK (at_ s m) ∧ ∃ u ∈ usesS (at_ s m), T m u)
theorem taint_iff {s : List Stmt} {n : Int} {x : ByteArray} : taintP s n x ↔ ∃ m, n ∈ nxt s m ∧ hands s m x (taintP s) := by
  constructor
  · rintro ⟨h0, h1, hx, hT⟩
    unfold TaintP at hT
    have key : ∀ q, Tnt (stepsP s (nmsT s)) (srcsP s (nmsT s)) q → ∀ (n : Int) (x : ByteArray), 0 ≤ n → n < (s.length : Int) → x ∈ nmsT s → q = atP (nmsT s) n x → ∃ m, n ∈ nxt s m ∧ hands s m x (taintP s) := by
      intro q hq n x h0 h1 hx e
      cases hq with
      | base hp =>
        unfold srcsP srcsAt at hp
        obtain ⟨a, ha, hp⟩ := List.mem_flatMap.1 hp
        obtain ⟨m, hm, hp⟩ := List.mem_flatMap.1 hp
        have ha := List.mem_range.1 ha
        unfold srcF at hp
        split at hp
        · rename_i hk
          obtain rfl := List.mem_singleton.1 hp
          have hd := defN_of (.inl hk)
          have hdB : defB (at_ s a) (defN (at_ s a)).1 = true := defB_iff.2 ⟨by rw [hd], rfl⟩
          obtain ⟨rfl, rfl⟩ := atP_inj (def_nm (by omega) (by omega) hdB) hx e
          exact ⟨a, hm, .inl ⟨hdB, hk⟩⟩
        · simp at hp
      | step hp hs =>
        rename_i p
        unfold stepsP stepsAt at hs
        obtain ⟨a, ha, hs⟩ := List.mem_flatMap.1 hs
        obtain ⟨m, hm, hs⟩ := List.mem_flatMap.1 hs
        have ha := List.mem_range.1 ha
        unfold stF at hs
        rcases List.mem_append.1 hs with hs | hs
        · obtain ⟨y, hy, hs⟩ := List.mem_flatMap.1 hs
          unfold keptF at hs
          split at hs
          · simp at hs
          · rename_i hd
            have e2 := List.mem_singleton.1 hs
            injection e2 with e3 e4
            rw [e4] at e
            obtain ⟨rfl, rfl⟩ := atP_inj hy hx e
            exact ⟨a, hm, .inr (.inl ⟨by simpa using hd, by omega, by omega, hy, by unfold TaintP; rw [← e3]; exact hp⟩)⟩
        · split at hs
          · rename_i hk
            obtain ⟨y, hy, e2⟩ := List.mem_map.1 hs
            unfold usedF at e2
            injection e2 with e3 e4
            have hd := defN_of (.inr hk)
            have hdB : defB (at_ s a) (defN (at_ s a)).1 = true := defB_iff.2 ⟨by rw [hd], rfl⟩
            rw [← e4] at e
            obtain ⟨rfl, rfl⟩ := atP_inj (def_nm (by omega) (by omega) hdB) hx e
            exact ⟨a, hm, .inr (.inr ⟨hdB, hk, y, hy, by omega, by omega, use_nm (by omega) (by omega) hy, by unfold TaintP; rw [e3]; exact hp⟩)⟩
          · simp at hs
    exact key _ hT n x h0 h1 hx rfl
  · rintro ⟨m, hm, h⟩
    have hw := nxt_within hm
    rcases h with ⟨h1, h2⟩ | ⟨h1, h2⟩ | ⟨h1, h2, u, h3, h4⟩
    · have := source_step (names := nmsT s) hw.2.2.1 hw.2.2.2 hm h2
      rw [(defB_iff.1 h1).2] at this
      exact ⟨hw.1, hw.2.1, def_nm hw.2.2.1 hw.2.2.2 h1, this⟩
    · exact ⟨hw.1, hw.2.1, h2.2.2.1, kept_step hw.2.2.1 hw.2.2.2 hm h2.2.2.1 h1 h2.2.2.2⟩
    · have := used_step (names := nmsT s) hw.2.2.1 hw.2.2.2 hm h2 h3 h4.2.2.2
      rw [(defB_iff.1 h1).2] at this
      exact ⟨hw.1, hw.2.1, def_nm hw.2.2.1 hw.2.2.2 h1, this⟩
theorem taint_source {s : List Stmt} {n : Int} {x : ByteArray} (h : taintP s n x) : ∃ st ∈ s, st.kind = 4 := by
  obtain ⟨-, -, -, hT⟩ := h
  have key : ∀ q, Tnt (stepsP s (nmsT s)) (srcsP s (nmsT s)) q → ∃ st ∈ s, st.kind = 4 := by
    intro q hq
    induction hq with
    | base hp =>
      unfold srcsP srcsAt at hp
      obtain ⟨a, ha, hp⟩ := List.mem_flatMap.1 hp
      obtain ⟨m, hm, hp⟩ := List.mem_flatMap.1 hp
      have ha := List.mem_range.1 ha
      unfold srcF at hp
      split at hp
      · rename_i hk
        exact ⟨_, at_mem' (by omega) (by omega), hk⟩
      · simp at hp
    | step _ _ ih => exact ih
  exact key _ hT
end Go.Proofs.Ytnepgcbgkhikkaa.H
namespace Go.Proofs.Ytnepgcbgkhikkaa.H
open Go.RowKit Go.Proofs.YtnepgcbgkhikkaaW.PrintWords Go.Proofs.YtnepgcbgkhikkaaW.PrintLast Go.Proofs.YtnepgcbgkhikkaaW.PrintMore
attribute [local go_sem] max2_int min2_int max_two min_two max_three min_three max_four min_four
set_option linter.unusedVariables false
set_option linter.unusedSimpArgs false
mutual
def lambrequinlaw20_CfgTaint.j0 : Nat → List (Stmt) → Int → ByteArray → Bool → Bool → Option (Bool)
 | 0, _, _, _, _, _ => none
 | k + 1, x0, x1, x2, x7, x33 => if x33 = true then (some x7) else ((cfg_Prev.f k x0 x1).bind fun t102 => (lambrequinlaw20_CfgTaint.l0 k x0 x1 x2 x7 false false t102 0))
def lambrequinlaw20_CfgTaint.l0 : Nat → List (Stmt) → Int → ByteArray → Bool → Bool → Bool → List Int → Int → Option (Bool)
 | 0, _, _, _, _, _, _, _, _ => none
 | k + 1, x0, x1, x2, x7, x8, x9, x10, x11 => if x11 < (x10.length : Int) then (if 0 ≤ x11 then (if 0 ≤ (rd x10 x11) then (if (rd x10 x11) < (x0.length : Int) then ((cfg_Def.f ((rd_T30 x0 (rd x10 x11)).kind) ((rd_T30 x0 (rd x10 x11)).x) ((rd_T30 x0 (rd x10 x11)).y) ((rd_T30 x0 (rd x10 x11)).z) ((rd_T30 x0 (rd x10 x11)).op) ((rd_T30 x0 (rd x10 x11)).n) ((rd_T30 x0 (rd x10 x11)).a) ((rd_T30 x0 (rd x10 x11)).b)).bind fun bt108 => (if bt108.2 = true then (lambrequinlaw20_CfgTaint.j2 k x0 x1 x2 x7 x8 x9 x10 x11 (bt108.1.toList == x2.toList) ((rd_T30 x0 (rd x10 x11)).kind) ((rd_T30 x0 (rd x10 x11)).x) ((rd_T30 x0 (rd x10 x11)).y) ((rd_T30 x0 (rd x10 x11)).z) ((rd_T30 x0 (rd x10 x11)).op) ((rd_T30 x0 (rd x10 x11)).n) ((rd_T30 x0 (rd x10 x11)).a) ((rd_T30 x0 (rd x10 x11)).b)) else (lambrequinlaw20_CfgTaint.j2 k x0 x1 x2 x7 x8 x9 x10 x11 false ((rd_T30 x0 (rd x10 x11)).kind) ((rd_T30 x0 (rd x10 x11)).x) ((rd_T30 x0 (rd x10 x11)).y) ((rd_T30 x0 (rd x10 x11)).z) ((rd_T30 x0 (rd x10 x11)).op) ((rd_T30 x0 (rd x10 x11)).n) ((rd_T30 x0 (rd x10 x11)).a) ((rd_T30 x0 (rd x10 x11)).b)))) else (none)) else (none)) else (none)) else (lambrequinlaw20_CfgTaint.l2 k x0 x1 x2 x7 x8 x9 0)
def lambrequinlaw20_CfgTaint.j2 : Nat → List (Stmt) → Int → ByteArray → Bool → Bool → Bool → List Int → Int → Bool → Int → ByteArray → ByteArray → ByteArray → ByteArray → Int → Int → Int → Option (Bool)
 | 0, _, _, _, _, _, _, _, _, _, _, _, _, _, _, _, _, _ => none
 | k + 1, x0, x1, x2, x7, x8, x9, x10, x11, x15, x108000, x108001, x108002, x108003, x108004, x108005, x108006, x108007 => if x8 = true then (lambrequinlaw20_CfgTaint.j3 k x0 x1 x2 x7 true x9 x10 x11 x15 x108000 x108001 x108002 x108003 x108004 x108005 x108006 x108007) else (if x15 = true then (if x108000 = 4 then (lambrequinlaw20_CfgTaint.j3 k x0 x1 x2 x7 true x9 x10 x11 x15 x108000 x108001 x108002 x108003 x108004 x108005 x108006 x108007) else (lambrequinlaw20_CfgTaint.j3 k x0 x1 x2 x7 false x9 x10 x11 x15 x108000 x108001 x108002 x108003 x108004 x108005 x108006 x108007)) else (if 0 ≤ x11 then (if x11 < (x10.length : Int) then ((cfg_Taints.f k x0 (rd x10 x11) x2).bind fun t111 => (lambrequinlaw20_CfgTaint.j3 k x0 x1 x2 x7 t111 x9 x10 x11 x15 x108000 x108001 x108002 x108003 x108004 x108005 x108006 x108007)) else (none)) else (none)))
def lambrequinlaw20_CfgTaint.j3 : Nat → List (Stmt) → Int → ByteArray → Bool → Bool → Bool → List Int → Int → Bool → Int → ByteArray → ByteArray → ByteArray → ByteArray → Int → Int → Int → Option (Bool)
 | 0, _, _, _, _, _, _, _, _, _, _, _, _, _, _, _, _, _ => none
 | k + 1, x0, x1, x2, x7, x8, x9, x10, x11, x15, x108000, x108001, x108002, x108003, x108004, x108005, x108006, x108007 => (cfg_Uses.f x108000 x108001 x108002 x108003 x108004 x108005 x108006 x108007).bind fun t112 => (lambrequinlaw20_CfgTaint.l1 k x0 x1 x2 x7 x8 x9 x10 x11 x15 t112 0 x108000 x108001 x108002 x108003 x108004 x108005 x108006 x108007)
def lambrequinlaw20_CfgTaint.l1 : Nat → List (Stmt) → Int → ByteArray → Bool → Bool → Bool → List Int → Int → Bool → List ByteArray → Int → Int → ByteArray → ByteArray → ByteArray → ByteArray → Int → Int → Int → Option (Bool)
 | 0, _, _, _, _, _, _, _, _, _, _, _, _, _, _, _, _, _, _, _ => none
 | k + 1, x0, x1, x2, x7, x8, x9, x10, x11, x15, x16, x17, x108000, x108001, x108002, x108003, x108004, x108005, x108006, x108007 => if x17 < (x16.length : Int) then (if x15 = true then (if x108000 = 2 then (if x8 = true then (lambrequinlaw20_CfgTaint.l1 k x0 x1 x2 x7 true x9 x10 x11 x15 x16 (wrap64 (x17 + 1)) x108000 x108001 x108002 x108003 x108004 x108005 x108006 x108007) else (if 0 ≤ x11 then (if x11 < (x10.length : Int) then (if 0 ≤ x17 then ((cfg_Taints.f k x0 (rd x10 x11) (rdOf ByteArray.empty x16 x17)).bind fun t117 => (lambrequinlaw20_CfgTaint.l1 k x0 x1 x2 x7 t117 x9 x10 x11 x15 x16 (wrap64 (x17 + 1)) x108000 x108001 x108002 x108003 x108004 x108005 x108006 x108007)) else (none)) else (none)) else (none))) else (if x108000 = 3 then (if x8 = true then (lambrequinlaw20_CfgTaint.l1 k x0 x1 x2 x7 true x9 x10 x11 x15 x16 (wrap64 (x17 + 1)) x108000 x108001 x108002 x108003 x108004 x108005 x108006 x108007) else (if 0 ≤ x11 then (if x11 < (x10.length : Int) then (if 0 ≤ x17 then ((cfg_Taints.f k x0 (rd x10 x11) (rdOf ByteArray.empty x16 x17)).bind fun t120 => (lambrequinlaw20_CfgTaint.l1 k x0 x1 x2 x7 t120 x9 x10 x11 x15 x16 (wrap64 (x17 + 1)) x108000 x108001 x108002 x108003 x108004 x108005 x108006 x108007)) else (none)) else (none)) else (none))) else (lambrequinlaw20_CfgTaint.l0 k x0 x1 x2 x7 x8 x9 x10 (wrap64 (x11 + 1))))) else (lambrequinlaw20_CfgTaint.l0 k x0 x1 x2 x7 x8 x9 x10 (wrap64 (x11 + 1)))) else (lambrequinlaw20_CfgTaint.l0 k x0 x1 x2 x7 x8 x9 x10 (wrap64 (x11 + 1)))
def lambrequinlaw20_CfgTaint.l2 : Nat → List (Stmt) → Int → ByteArray → Bool → Bool → Bool → Int → Option (Bool)
 | 0, _, _, _, _, _, _, _ => none
 | k + 1, x0, x1, x2, x7, x8, x9, x18 => if x18 < (x0.length : Int) then (if x9 = true then (lambrequinlaw20_CfgTaint.l2 k x0 x1 x2 x7 x8 true (wrap64 (x18 + 1))) else (if 0 ≤ x18 then (lambrequinlaw20_CfgTaint.l2 k x0 x1 x2 x7 x8 (((rd_T30 x0 x18).kind) == 4) (wrap64 (x18 + 1))) else (none))) else ((cfg_Taints.f k x0 x1 x2).bind fun t122 => (if x7 = true then (if (t122 == x8) = true then (if x9 = true then (some true) else (some (!t122))) else (some false)) else (some false)))
end
def lambrequinlaw20_CfgTaint.f (k : Nat) (l0 : List (Stmt)) (a1 : Int) (a2 : ByteArray) : Option (Bool) := (lambrequinlaw20_shown.f k).bind fun t101 => (if (l0.length : Int) > 25 then (lambrequinlaw20_CfgTaint.j0 k l0 a1 a2 t101 true) else (if a1 < 0 then (lambrequinlaw20_CfgTaint.j0 k l0 a1 a2 t101 true) else (lambrequinlaw20_CfgTaint.j0 k l0 a1 a2 t101 (decide (a1 ≥ (l0.length : Int))))))
theorem lambrequinlaw20_CfgTaint.mono_l : ∀ k, (∀ y0 y1 y2 y3 y4, LeO (lambrequinlaw20_CfgTaint.j0 k y0 y1 y2 y3 y4) (lambrequinlaw20_CfgTaint.j0 (k + 1) y0 y1 y2 y3 y4)) ∧ (∀ y0 y1 y2 y3 y4 y5 y6 y7, LeO (lambrequinlaw20_CfgTaint.l0 k y0 y1 y2 y3 y4 y5 y6 y7) (lambrequinlaw20_CfgTaint.l0 (k + 1) y0 y1 y2 y3 y4 y5 y6 y7)) ∧ (∀ y0 y1 y2 y3 y4 y5 y6 y7 y8 y9 y10 y11 y12 y13 y14 y15 y16, LeO (lambrequinlaw20_CfgTaint.j2 k y0 y1 y2 y3 y4 y5 y6 y7 y8 y9 y10 y11 y12 y13 y14 y15 y16) (lambrequinlaw20_CfgTaint.j2 (k + 1) y0 y1 y2 y3 y4 y5 y6 y7 y8 y9 y10 y11 y12 y13 y14 y15 y16)) ∧ (∀ y0 y1 y2 y3 y4 y5 y6 y7 y8 y9 y10 y11 y12 y13 y14 y15 y16, LeO (lambrequinlaw20_CfgTaint.j3 k y0 y1 y2 y3 y4 y5 y6 y7 y8 y9 y10 y11 y12 y13 y14 y15 y16) (lambrequinlaw20_CfgTaint.j3 (k + 1) y0 y1 y2 y3 y4 y5 y6 y7 y8 y9 y10 y11 y12 y13 y14 y15 y16)) ∧ (∀ y0 y1 y2 y3 y4 y5 y6 y7 y8 y9 y10 y11 y12 y13 y14 y15 y16 y17 y18, LeO (lambrequinlaw20_CfgTaint.l1 k y0 y1 y2 y3 y4 y5 y6 y7 y8 y9 y10 y11 y12 y13 y14 y15 y16 y17 y18) (lambrequinlaw20_CfgTaint.l1 (k + 1) y0 y1 y2 y3 y4 y5 y6 y7 y8 y9 y10 y11 y12 y13 y14 y15 y16 y17 y18)) ∧ (∀ y0 y1 y2 y3 y4 y5 y6, LeO (lambrequinlaw20_CfgTaint.l2 k y0 y1 y2 y3 y4 y5 y6) (lambrequinlaw20_CfgTaint.l2 (k + 1) y0 y1 y2 y3 y4 y5 y6))
 | 0 => ⟨fun _ _ _ _ _ r h => by simp [lambrequinlaw20_CfgTaint.j0] at h, fun _ _ _ _ _ _ _ _ r h => by simp [lambrequinlaw20_CfgTaint.l0] at h, fun _ _ _ _ _ _ _ _ _ _ _ _ _ _ _ _ _ r h => by simp [lambrequinlaw20_CfgTaint.j2] at h, fun _ _ _ _ _ _ _ _ _ _ _ _ _ _ _ _ _ r h => by simp [lambrequinlaw20_CfgTaint.j3] at h, fun _ _ _ _ _ _ _ _ _ _ _ _ _ _ _ _ _ _ _ r h => by simp [lambrequinlaw20_CfgTaint.l1] at h, fun _ _ _ _ _ _ _ r h => by simp [lambrequinlaw20_CfgTaint.l2] at h⟩
 | k + 1 => by
  obtain ⟨ih0, ih1, ih2, ih3, ih4, ih5⟩ := lambrequinlaw20_CfgTaint.mono_l k
  refine ⟨?_, ?_, ?_, ?_, ?_, ?_⟩
  ·intro y0 y1 y2 y3 y4
   unfold lambrequinlaw20_CfgTaint.j0
   repeat' first
   | (with_reducible exact ih0 _ _ _ _ _)
   | (with_reducible exact ih1 _ _ _ _ _ _ _ _)
   | (with_reducible exact ih2 _ _ _ _ _ _ _ _ _ _ _ _ _ _ _ _ _)
   | (with_reducible exact ih3 _ _ _ _ _ _ _ _ _ _ _ _ _ _ _ _ _)
   | (with_reducible exact ih4 _ _ _ _ _ _ _ _ _ _ _ _ _ _ _ _ _ _ _)
   | (with_reducible exact ih5 _ _ _ _ _ _ _)
   | (with_reducible exact cfg_Prev.mono _ _ _)
   | (with_reducible exact cfg_Taints.mono _ _ _ _)
   | (with_reducible exact lambrequinlaw20_shown.mono _)
   | (with_reducible exact LeO.refl _)
   | (with_reducible exact LeO.none _)
   | (with_reducible refine LeO.ite ?_ ?_)
   | (with_reducible refine LeO.bind ?_ (fun _ => ?_))
   | exact ih0 _ _ _ _ _
   | exact ih1 _ _ _ _ _ _ _ _
   | exact ih2 _ _ _ _ _ _ _ _ _ _ _ _ _ _ _ _ _
   | exact ih3 _ _ _ _ _ _ _ _ _ _ _ _ _ _ _ _ _
   | exact ih4 _ _ _ _ _ _ _ _ _ _ _ _ _ _ _ _ _ _ _
   | exact ih5 _ _ _ _ _ _ _
   | exact cfg_Prev.mono _ _ _
   | exact cfg_Taints.mono _ _ _ _
   | exact lambrequinlaw20_shown.mono _
   | exact LeO.none _
   | refine LeO.ite ?_ ?_
   | refine LeO.bind ?_ (fun _ => ?_)
  ·intro y0 y1 y2 y3 y4 y5 y6 y7
   unfold lambrequinlaw20_CfgTaint.l0
   repeat' first
   | (with_reducible exact ih0 _ _ _ _ _)
   | (with_reducible exact ih1 _ _ _ _ _ _ _ _)
   | (with_reducible exact ih2 _ _ _ _ _ _ _ _ _ _ _ _ _ _ _ _ _)
   | (with_reducible exact ih3 _ _ _ _ _ _ _ _ _ _ _ _ _ _ _ _ _)
   | (with_reducible exact ih4 _ _ _ _ _ _ _ _ _ _ _ _ _ _ _ _ _ _ _)
   | (with_reducible exact ih5 _ _ _ _ _ _ _)
   | (with_reducible exact cfg_Prev.mono _ _ _)
   | (with_reducible exact cfg_Taints.mono _ _ _ _)
   | (with_reducible exact lambrequinlaw20_shown.mono _)
   | (with_reducible exact LeO.refl _)
   | (with_reducible exact LeO.none _)
   | (with_reducible refine LeO.ite ?_ ?_)
   | (with_reducible refine LeO.bind ?_ (fun _ => ?_))
   | exact ih0 _ _ _ _ _
   | exact ih1 _ _ _ _ _ _ _ _
   | exact ih2 _ _ _ _ _ _ _ _ _ _ _ _ _ _ _ _ _
   | exact ih3 _ _ _ _ _ _ _ _ _ _ _ _ _ _ _ _ _
   | exact ih4 _ _ _ _ _ _ _ _ _ _ _ _ _ _ _ _ _ _ _
   | exact ih5 _ _ _ _ _ _ _
   | exact cfg_Prev.mono _ _ _
   | exact cfg_Taints.mono _ _ _ _
   | exact lambrequinlaw20_shown.mono _
   | exact LeO.none _
   | refine LeO.ite ?_ ?_
   | refine LeO.bind ?_ (fun _ => ?_)
  ·intro y0 y1 y2 y3 y4 y5 y6 y7 y8 y9 y10 y11 y12 y13 y14 y15 y16
   unfold lambrequinlaw20_CfgTaint.j2
   repeat' first
   | (with_reducible exact ih0 _ _ _ _ _)
   | (with_reducible exact ih1 _ _ _ _ _ _ _ _)
   | (with_reducible exact ih2 _ _ _ _ _ _ _ _ _ _ _ _ _ _ _ _ _)
   | (with_reducible exact ih3 _ _ _ _ _ _ _ _ _ _ _ _ _ _ _ _ _)
   | (with_reducible exact ih4 _ _ _ _ _ _ _ _ _ _ _ _ _ _ _ _ _ _ _)
   | (with_reducible exact ih5 _ _ _ _ _ _ _)
   | (with_reducible exact cfg_Prev.mono _ _ _)
   | (with_reducible exact cfg_Taints.mono _ _ _ _)
   | (with_reducible exact lambrequinlaw20_shown.mono _)
   | (with_reducible exact LeO.refl _)
   | (with_reducible exact LeO.none _)
   | (with_reducible refine LeO.ite ?_ ?_)
   | (with_reducible refine LeO.bind ?_ (fun _ => ?_))
   | exact ih0 _ _ _ _ _
   | exact ih1 _ _ _ _ _ _ _ _
   | exact ih2 _ _ _ _ _ _ _ _ _ _ _ _ _ _ _ _ _
   | exact ih3 _ _ _ _ _ _ _ _ _ _ _ _ _ _ _ _ _
   | exact ih4 _ _ _ _ _ _ _ _ _ _ _ _ _ _ _ _ _ _ _
   | exact ih5 _ _ _ _ _ _ _
   | exact cfg_Prev.mono _ _ _
   | exact cfg_Taints.mono _ _ _ _
   | exact lambrequinlaw20_shown.mono _
   | exact LeO.none _
   | refine LeO.ite ?_ ?_
   | refine LeO.bind ?_ (fun _ => ?_)
  ·intro y0 y1 y2 y3 y4 y5 y6 y7 y8 y9 y10 y11 y12 y13 y14 y15 y16
   unfold lambrequinlaw20_CfgTaint.j3
   repeat' first
   | (with_reducible exact ih0 _ _ _ _ _)
   | (with_reducible exact ih1 _ _ _ _ _ _ _ _)
   | (with_reducible exact ih2 _ _ _ _ _ _ _ _ _ _ _ _ _ _ _ _ _)
   | (with_reducible exact ih3 _ _ _ _ _ _ _ _ _ _ _ _ _ _ _ _ _)
   | (with_reducible exact ih4 _ _ _ _ _ _ _ _ _ _ _ _ _ _ _ _ _ _ _)
   | (with_reducible exact ih5 _ _ _ _ _ _ _)
   | (with_reducible exact cfg_Prev.mono _ _ _)
   | (with_reducible exact cfg_Taints.mono _ _ _ _)
   | (with_reducible exact lambrequinlaw20_shown.mono _)
   | (with_reducible exact LeO.refl _)
   | (with_reducible exact LeO.none _)
   | (with_reducible refine LeO.ite ?_ ?_)
   | (with_reducible refine LeO.bind ?_ (fun _ => ?_))
   | exact ih0 _ _ _ _ _
   | exact ih1 _ _ _ _ _ _ _ _
   | exact ih2 _ _ _ _ _ _ _ _ _ _ _ _ _ _ _ _ _
   | exact ih3 _ _ _ _ _ _ _ _ _ _ _ _ _ _ _ _ _
   | exact ih4 _ _ _ _ _ _ _ _ _ _ _ _ _ _ _ _ _ _ _
   | exact ih5 _ _ _ _ _ _ _
   | exact cfg_Prev.mono _ _ _
   | exact cfg_Taints.mono _ _ _ _
   | exact lambrequinlaw20_shown.mono _
   | exact LeO.none _
   | refine LeO.ite ?_ ?_
   | refine LeO.bind ?_ (fun _ => ?_)
  ·intro y0 y1 y2 y3 y4 y5 y6 y7 y8 y9 y10 y11 y12 y13 y14 y15 y16 y17 y18
   unfold lambrequinlaw20_CfgTaint.l1
   repeat' first
   | (with_reducible exact ih0 _ _ _ _ _)
   | (with_reducible exact ih1 _ _ _ _ _ _ _ _)
   | (with_reducible exact ih2 _ _ _ _ _ _ _ _ _ _ _ _ _ _ _ _ _)
   | (with_reducible exact ih3 _ _ _ _ _ _ _ _ _ _ _ _ _ _ _ _ _)
   | (with_reducible exact ih4 _ _ _ _ _ _ _ _ _ _ _ _ _ _ _ _ _ _ _)
   | (with_reducible exact ih5 _ _ _ _ _ _ _)
   | (with_reducible exact cfg_Prev.mono _ _ _)
   | (with_reducible exact cfg_Taints.mono _ _ _ _)
   | (with_reducible exact lambrequinlaw20_shown.mono _)
   | (with_reducible exact LeO.refl _)
   | (with_reducible exact LeO.none _)
   | (with_reducible refine LeO.ite ?_ ?_)
   | (with_reducible refine LeO.bind ?_ (fun _ => ?_))
   | exact ih0 _ _ _ _ _
   | exact ih1 _ _ _ _ _ _ _ _
   | exact ih2 _ _ _ _ _ _ _ _ _ _ _ _ _ _ _ _ _
   | exact ih3 _ _ _ _ _ _ _ _ _ _ _ _ _ _ _ _ _
   | exact ih4 _ _ _ _ _ _ _ _ _ _ _ _ _ _ _ _ _ _ _
   | exact ih5 _ _ _ _ _ _ _
   | exact cfg_Prev.mono _ _ _
   | exact cfg_Taints.mono _ _ _ _
   | exact lambrequinlaw20_shown.mono _
   | exact LeO.none _
   | refine LeO.ite ?_ ?_
   | refine LeO.bind ?_ (fun _ => ?_)
  ·intro y0 y1 y2 y3 y4 y5 y6
   unfold lambrequinlaw20_CfgTaint.l2
   repeat' first
   | (with_reducible exact ih0 _ _ _ _ _)
   | (with_reducible exact ih1 _ _ _ _ _ _ _ _)
   | (with_reducible exact ih2 _ _ _ _ _ _ _ _ _ _ _ _ _ _ _ _ _)
   | (with_reducible exact ih3 _ _ _ _ _ _ _ _ _ _ _ _ _ _ _ _ _)
   | (with_reducible exact ih4 _ _ _ _ _ _ _ _ _ _ _ _ _ _ _ _ _ _ _)
   | (with_reducible exact ih5 _ _ _ _ _ _ _)
   | (with_reducible exact cfg_Prev.mono _ _ _)
   | (with_reducible exact cfg_Taints.mono _ _ _ _)
   | (with_reducible exact lambrequinlaw20_shown.mono _)
   | (with_reducible exact LeO.refl _)
   | (with_reducible exact LeO.none _)
   | (with_reducible refine LeO.ite ?_ ?_)
   | (with_reducible refine LeO.bind ?_ (fun _ => ?_))
   | exact ih0 _ _ _ _ _
   | exact ih1 _ _ _ _ _ _ _ _
   | exact ih2 _ _ _ _ _ _ _ _ _ _ _ _ _ _ _ _ _
   | exact ih3 _ _ _ _ _ _ _ _ _ _ _ _ _ _ _ _ _
   | exact ih4 _ _ _ _ _ _ _ _ _ _ _ _ _ _ _ _ _ _ _
   | exact ih5 _ _ _ _ _ _ _
   | exact cfg_Prev.mono _ _ _
   | exact cfg_Taints.mono _ _ _ _
   | exact lambrequinlaw20_shown.mono _
   | exact LeO.none _
   | refine LeO.ite ?_ ?_
   | refine LeO.bind ?_ (fun _ => ?_)
theorem lambrequinlaw20_CfgTaint.mono : ∀ a0 a1 a2 k, LeO (lambrequinlaw20_CfgTaint.f k a0 a1 a2) (lambrequinlaw20_CfgTaint.f (k + 1) a0 a1 a2) := by
 intro a0 a1 a2 k
 obtain ⟨ih0, ih1, ih2, ih3, ih4, ih5⟩ := lambrequinlaw20_CfgTaint.mono_l k
 unfold lambrequinlaw20_CfgTaint.f
 repeat' first
   | (with_reducible exact ih0 _ _ _ _ _)
   | (with_reducible exact ih1 _ _ _ _ _ _ _ _)
   | (with_reducible exact ih2 _ _ _ _ _ _ _ _ _ _ _ _ _ _ _ _ _)
   | (with_reducible exact ih3 _ _ _ _ _ _ _ _ _ _ _ _ _ _ _ _ _)
   | (with_reducible exact ih4 _ _ _ _ _ _ _ _ _ _ _ _ _ _ _ _ _ _ _)
   | (with_reducible exact ih5 _ _ _ _ _ _ _)
   | (with_reducible exact cfg_Prev.mono _ _ _)
   | (with_reducible exact cfg_Taints.mono _ _ _ _)
   | (with_reducible exact lambrequinlaw20_shown.mono _)
   | (with_reducible exact LeO.refl _)
   | (with_reducible exact LeO.none _)
   | (with_reducible refine LeO.ite ?_ ?_)
   | (with_reducible refine LeO.bind ?_ (fun _ => ?_))
   | exact ih0 _ _ _ _ _
   | exact ih1 _ _ _ _ _ _ _ _
   | exact ih2 _ _ _ _ _ _ _ _ _ _ _ _ _ _ _ _ _
   | exact ih3 _ _ _ _ _ _ _ _ _ _ _ _ _ _ _ _ _
   | exact ih4 _ _ _ _ _ _ _ _ _ _ _ _ _ _ _ _ _ _ _
   | exact ih5 _ _ _ _ _ _ _
   | exact cfg_Prev.mono _ _ _
   | exact cfg_Taints.mono _ _ _ _
   | exact lambrequinlaw20_shown.mono _
   | exact LeO.none _
   | refine LeO.ite ?_ ?_
   | refine LeO.bind ?_ (fun _ => ?_)
def lambrequinlaw20_CfgTaint.T18 : Bool × List (List Nat × List Nat) := (true, [([], []), ([0], [0]), ([1], [1]), ([1], [1]), ([1], [1]), ([3, 4, 1], [1, 3, 4]), ([5, 1], [1, 5]), ([1], [1]), ([1], [1]), ([7, 8, 1], [1, 7, 8]), ([9, 1], [1, 9]), ([2, 6, 10, 1, 1], [1, 2, 6, 10]), ([1, 11], [1, 11]), ([12, 11, 0, 1, 2, 3, 4, 5, 6, 7, 8, 9, 10, 11, 12], [0, 12])])
def lambrequinlaw20_CfgTaint.B18 : List Nat := [0, 1, 3, 3, 3, 27, 59, 3, 3, 387, 899, 2047, 4095, 8191]
theorem lambrequinlaw20_CfgTaint.tab18 : rtab .any (opsOf Try.f13 18) = lambrequinlaw20_CfgTaint.T18 := by kernel_rfl
theorem lambrequinlaw20_CfgTaint.bits18 : waitsOk lambrequinlaw20_CfgTaint.T18.2 lambrequinlaw20_CfgTaint.B18 = true := by kernel_rfl
set_option maxHeartbeats 8000000 in
set_option maxRecDepth 100000 in
theorem lambrequinlaw20_CfgTaint.calls (k : Nat) (A0 : Option Addr) (c0 : Nat) (l0 : List (Stmt)) (a1 : Int) (a2 : ByteArray) (r : Bool) (w : World) (hr0 : Kd.C k30 w A0 l0.length l0) (hc0 : l0.length ≤ c0) (h : lambrequinlaw20_CfgTaint.f k l0 a1 a2 = some r) :
  Calls Try.prog 13 #[.slice A0 l0.length c0, .int .i64 a1, .string a2] w fun e w' => e = .returned (.bool r) ∧ Below w.heap.size w w' := by
 have hu30 := Try.underlying30
 have HR0 := am hr0
 have HC0 := am hc0
 clear hr0 hc0
 have HB := am (Below.refl w.heap.size w)
 have H : ((lambrequinlaw20_shown.f k).bind fun t101 => (if (l0.length : Int) > 25 then (lambrequinlaw20_CfgTaint.j0 k l0 a1 a2 t101 true) else (if a1 < 0 then (lambrequinlaw20_CfgTaint.j0 k l0 a1 a2 t101 true) else (lambrequinlaw20_CfgTaint.j0 k l0 a1 a2 t101 (decide (a1 ≥ (l0.length : Int))))))) = some r := h
 clear h
 replace H := Option.bind_eq_some_iff.mp H
 obtain ⟨t101, A40, H⟩ := H
 replace H : (if (l0.length : Int) > 25 then (lambrequinlaw20_CfgTaint.j0 k l0 a1 a2 t101 true) else (if a1 < 0 then (lambrequinlaw20_CfgTaint.j0 k l0 a1 a2 t101 true) else (lambrequinlaw20_CfgTaint.j0 k l0 a1 a2 t101 (decide (a1 ≥ (l0.length : Int)))))) = some r := H
 have A4 := am A40
 clear A40
 have HC5 := am H
 clear H
 go_enter Try.func13, Try.ntmps13
 go_upto_region 2 with (first | ((with_reducible refine gate_callee (f := 17) rfl ?_); refine goesL_ (some 20) rfl rfl Try.func17 (by kernel_rfl) rfl #[] rfl (by (try simp only [List.map_toArray, List.map_cons, List.map_nil]); first | done | rfl | (simp only [List.length_drop, List.length_take]; rfl)) ?_; (with_reducible refine (lambrequinlaw20_shown.calls k  t101 _ A4.out).mono ?_); rintro e w6 ⟨rfl, hb⟩; refine ⟨_, rfl, ?_⟩; replace HB := am (below_step (by repeat (first | (with_reducible first | exact HB.out | apply lA | apply lN | apply lD) | exact HB.out)) hb); (try clear hb); (try clear hb2); (try clear hk); (try clear hi)))
 (try simp only [Act.put, List.setIfInBounds_toArray, List.set_cons_zero, List.set_cons_succ])
 go_cut [33] (fun v33 wc => ∃ (kq : Nat) (x33_4 : Bool), v33 = .bool x33_4 ∧ Aside0 (lambrequinlaw20_CfgTaint.j0 kq l0 a1 a2 t101 x33_4 = some r) ∧ Aside0 (kq ≤ k) ∧ Aside0 (Below w.heap.size w wc))
 case first =>
  have H := HC5.out
  clear HC5
  by_cases c7 : (l0.length : Int) > 25
  ·rw [if_pos c7] at H
   have c7b0 : decide (25 < (l0.length : Int)) = true := decide_eq_true c7
   have c7b1 : decide (25 < l0.length) = true := decide_eq_true (by omega)
   clear c7
   (first | rw [c7b0] | (simp only [i64_w, i32_w]; rw [c7b0]) | skip)
   have H' := am H
   clear H
   go_wp2
   go_meet
   case rel => exact ⟨_, (true), (by first | rfl | (simp; done) | (simp [*]; done)), H', ⟨by first | omega | exact Nat.le_refl _⟩, ⟨by repeat (first | (with_reducible first | exact HB.out | apply lA | apply lN | apply lD) | exact HB.out)⟩⟩
  ·rw [if_neg c7] at H
   have c7b0 : decide (25 < (l0.length : Int)) = false := decide_eq_false c7
   have c7b1 : decide (25 < l0.length) = false := decide_eq_false (by omega)
   clear c7
   (first | rw [c7b0] | (simp only [i64_w, i32_w]; rw [c7b0]) | skip)
   by_cases c8 : a1 < 0
   ·rw [if_pos c8] at H
    have c8b0 : decide (a1 < 0) = true := decide_eq_true c8
    clear c8
    have H' := am H
    clear H
    go_wp2
    go_meet
    case rel => exact ⟨_, (true), (by first | rfl | (simp; done) | (simp [*]; done)), H', ⟨by first | omega | exact Nat.le_refl _⟩, ⟨by repeat (first | (with_reducible first | exact HB.out | apply lA | apply lN | apply lD) | exact HB.out)⟩⟩
   ·rw [if_neg c8] at H
    have c8b0 : decide (a1 < 0) = false := decide_eq_false c8
    clear c8
    have H' := am H
    clear H
    go_wp2
    go_meet
    case rel => exact ⟨_, (decide (a1 ≥ (l0.length : Int))), (by first | rfl | (simp; done) | (simp [*]; done)), H', ⟨by first | omega | exact Nat.le_refl _⟩, ⟨by repeat (first | (with_reducible first | exact HB.out | apply lA | apply lN | apply lD) | exact HB.out)⟩⟩
 case rest =>
  clear HC5
  try clear c1
  try clear p2
  try clear c7
  try clear c7b0
  try clear c7b1
  try clear c8
  try clear c8b0
  obtain ⟨kq, x33_4, rfl, HA, HJ4, HB⟩ := hcut
  cases kq with
  | zero => exact absurd HA.out (by simp [lambrequinlaw20_CfgTaint.j0])
  | succ kj4 =>
   have H := HA.out
   clear HA
   simp only [lambrequinlaw20_CfgTaint.j0] at H
   by_cases c9 : x33_4 = true
   ·subst c9
    have H1 : (some t101) = some r := by rw [if_pos rfl] at H; exact H
    clear H
    have H := H1
    clear H1
    obtain rfl := Option.some.inj H
    go_wp2
    go_ret
    exact ⟨by first | rfl | (simp [errW_none, errW_some] <;> rfl) | (simp [*, errW_none, errW_some] <;> rfl), by repeat (first | (with_reducible first | exact HB.out | apply lA | apply lN | apply lD) | exact HB.out)⟩
   ·replace c9 := Bool.eq_false_iff.mpr c9
    subst c9
    have H1 : ((cfg_Prev.f kj4 l0 a1).bind fun t102 => (lambrequinlaw20_CfgTaint.l0 kj4 l0 a1 a2 t101 false false t102 0)) = some r := by rw [if_neg (show ¬ (false = true) by decide)] at H; exact H
    clear H
    have H := H1
    clear H1
    replace H := Option.bind_eq_some_iff.mp H
    obtain ⟨t102, A100, H⟩ := H
    replace H : (lambrequinlaw20_CfgTaint.l0 kj4 l0 a1 a2 t101 false false t102 0) = some r := H
    have A10 := am A100
    clear A100
    have H' := am H
    clear H
    go_wp2_with (first | ((with_reducible refine gate_callee (f := 24) rfl ?_); refine goesL_ (some 37) rfl rfl Try.func24 (by kernel_rfl) rfl #[.slice A0 l0.length c0, .int .i64 a1] rfl (by (try simp only [List.map_toArray, List.map_cons, List.map_nil]); first | done | rfl | (simp only [List.length_drop, List.length_take]; rfl)) ?_; (with_reducible refine (cfg_Prev.calls kj4 _ _ l0 a1 t102 _ ?side1 ?side2 A10.out).mono ?_); (case side1 => repeat (first | exact (Kd.C_below HR0.out HB.out) | (with_reducible refine Kd.C_alloc ?_ _) | (with_reducible refine Kd.C_drewN ?_ _) | (with_reducible refine Kd.C_drew ?_))); (case side2 => exact HC0.out); rintro e w11 ⟨v103, rfl, ho0, hb⟩; refine ⟨_, rfl, ?_⟩; have HO104 := am (Kd.R_lower ho0 (below_size (by repeat (first | (with_reducible first | exact HB.out | apply lA | apply lN | apply lD) | exact HB.out)))); replace HB := am (below_step (by repeat (first | (with_reducible first | exact HB.out | apply lA | apply lN | apply lD) | exact HB.out)) hb); (try clear hb); (try clear hb2); (try clear hk); (try clear hi); (try clear ho0)))
    go_loopg [8, 11] kj4 (fun kq v8 v11 w' => ∃ (x8_2 : Bool) (x11_2 : Int), v8 = .bool x8_2 ∧ v11 = .int .i64 x11_2 ∧ Aside0 (lambrequinlaw20_CfgTaint.l0 kq l0 a1 a2 t101 x8_2 false t102 x11_2 = some r) ∧ Aside0 (kq ≤ kj4) ∧ Aside0 (Kd.R (Kd.int .i64) 3 w' w.heap.size (fun _ => True) v103 t102) ∧ Aside0 (Below w.heap.size w w'))
    case atStart => exact ⟨(false), (0), (by first | rfl | (simp; done) | (simp [*]; done)), (by first | rfl | (simp; done) | (simp [*]; done)), H', ⟨Nat.le_refl _⟩, ⟨by (with_reducible repeat (first | apply Ra | apply Rn | apply Rd)); exact HO104.out⟩, ⟨by repeat (first | (with_reducible first | exact HB.out | apply lA | apply lN | apply lD) | exact HB.out)⟩⟩
    case round =>
     clear H'
     try clear c1
     try clear c2
     try clear p2
     try clear c7
     try clear c7b0
     try clear c7b1
     try clear c8
     try clear c8b0
     try clear c9
     try clear p2
     obtain ⟨x8_2, x11_2, rfl, rfl, HA, HK2, HO_10, HB⟩ := hrel
     cases gk with
     | zero => exact absurd HA.out (by simp [lambrequinlaw20_CfgTaint.l0])
     | succ k2 =>
      have H := HA.out
      clear HA
      simp only [lambrequinlaw20_CfgTaint.l0] at H
      by_cases c12 : x11_2 < (t102.length : Int)
      ·rw [if_pos c12] at H
       have c12b0 : decide (x11_2 < (t102.length : Int)) = true := decide_eq_true c12
       clear c12
       by_cases c13 : 0 ≤ x11_2
       ·rw [if_pos c13] at H
        have c13b0 : decide (0 ≤ x11_2) = true := decide_eq_true c13
        clear c13
        by_cases c14 : 0 ≤ (rd t102 x11_2)
        ·rw [if_pos c14] at H
         have c14b0 : decide (0 ≤ (rd t102 x11_2)) = true := decide_eq_true c14
         clear c14
         by_cases c15 : (rd t102 x11_2) < (l0.length : Int)
         ·rw [if_pos c15] at H
          have c15b0 : decide ((rd t102 x11_2) < (l0.length : Int)) = true := decide_eq_true c15
          clear c15
          replace H := Option.bind_eq_some_iff.mp H
          obtain ⟨⟨t108, t109⟩, A160, H⟩ := H
          replace H : (if t109 = true then (lambrequinlaw20_CfgTaint.j2 k2 l0 a1 a2 t101 x8_2 false t102 x11_2 (t108.toList == a2.toList) ((rd_T30 l0 (rd t102 x11_2)).kind) ((rd_T30 l0 (rd t102 x11_2)).x) ((rd_T30 l0 (rd t102 x11_2)).y) ((rd_T30 l0 (rd t102 x11_2)).z) ((rd_T30 l0 (rd t102 x11_2)).op) ((rd_T30 l0 (rd t102 x11_2)).n) ((rd_T30 l0 (rd t102 x11_2)).a) ((rd_T30 l0 (rd t102 x11_2)).b)) else (lambrequinlaw20_CfgTaint.j2 k2 l0 a1 a2 t101 x8_2 false t102 x11_2 false ((rd_T30 l0 (rd t102 x11_2)).kind) ((rd_T30 l0 (rd t102 x11_2)).x) ((rd_T30 l0 (rd t102 x11_2)).y) ((rd_T30 l0 (rd t102 x11_2)).z) ((rd_T30 l0 (rd t102 x11_2)).op) ((rd_T30 l0 (rd t102 x11_2)).n) ((rd_T30 l0 (rd t102 x11_2)).a) ((rd_T30 l0 (rd t102 x11_2)).b))) = some r := H
          have A16 := am A160
          clear A160
          have HC17 := am H
          clear H
          obtain ⟨Ao18, co18, eo18⟩ := Kd.R_slice HO_10.out
          subst eo18
          have p105 : 0 ≤ (x11_2 : Int) := of_decide_eq_true (by first | (with_reducible assumption) | assumption)
          have q105 : x11_2 < (t102.length : Int) := of_decide_eq_true (by first | (with_reducible assumption) | assumption)
          obtain ⟨ad105, e105, hx105_0⟩ := Kd.at_int (Kd.R_reads' HO_10.out).2.2 x11_2 p105 q105
          cases e105
          replace p105 := eq_true p105
          replace q105 := eq_true q105
          have p106 : 0 ≤ ((rd t102 x11_2) : Int) := of_decide_eq_true (by first | (with_reducible assumption) | assumption)
          have q106 : (rd t102 x11_2) < (l0.length : Int) := of_decide_eq_true (by first | (with_reducible assumption) | assumption)
          obtain ⟨ad106, e106, hx106_0, hx106_1, hx106_2, hx106_3, hx106_4, hx106_5, hx106_6, hx106_7⟩ := at_T30 HR0.out (rd t102 x11_2) p106 q106
          cases e106
          replace hx106_0 := (HB.out.cell (blt_ hx106_0)).trans hx106_0
          replace hx106_1 := (HB.out.cell (blt_ hx106_1)).trans hx106_1
          replace hx106_2 := (HB.out.cell (blt_ hx106_2)).trans hx106_2
          replace hx106_3 := (HB.out.cell (blt_ hx106_3)).trans hx106_3
          replace hx106_4 := (HB.out.cell (blt_ hx106_4)).trans hx106_4
          replace hx106_5 := (HB.out.cell (blt_ hx106_5)).trans hx106_5
          replace hx106_6 := (HB.out.cell (blt_ hx106_6)).trans hx106_6
          replace hx106_7 := (HB.out.cell (blt_ hx106_7)).trans hx106_7
          replace p106 := eq_true p106
          replace q106 := eq_true q106
          go_upto_region 12 with (first | ((with_reducible refine gate_dst (N := 12) rfl ?_); (try (refine gate_guard (by rfl) ?_; dsimp only)); refine box_event ?hg (N := 12) ?hd (cs := #[.int .i64 0, .string (⟨#[]⟩ : ByteArray), .string (⟨#[]⟩ : ByteArray), .string (⟨#[]⟩ : ByteArray), .string (⟨#[]⟩ : ByteArray), .int .i64 0, .int .i64 0, .int .i64 0]) (t := 30) ?hr ?_; (case hd => rfl); (case hg => rfl); (case hr => first | (go_simp; done) | (go_simp; rfl)); intro gb107 hg w19 hbox hb; replace HO_10 := am (Kd.R_below (by (with_reducible repeat (first | apply Ra | apply Rn | apply Rd)); exact HO_10.out) hb); have BK107 := am (hbox); have GW107 := am ((by rw [hg]; exact (below_size (by repeat (first | (with_reducible first | exact HB.out | apply lA | apply lN | apply lD) | exact HB.out))) : w.heap.size ≤ gb107)); have GE107 := am ((by rw [hg]; exact (below_size (by repeat (first | (with_reducible first | exact HB.out | apply lA | apply lN | apply lD) | exact HB.out))) : w.heap.size ≤ gb107)); replace HB := am (below_step (by repeat (first | (with_reducible first | exact HB.out | apply lA | apply lN | apply lD) | exact HB.out)) hb); clear hb hbox hg; have hcz20_0 : w19.cell? ⟨gb107, 0, none⟩ = some (.int .i64 0) := (blk_cell BK107.out 0).trans rfl; have hcz20_1 : w19.cell? ⟨gb107, 1, none⟩ = some (.string (⟨#[]⟩ : ByteArray)) := (blk_cell BK107.out 1).trans rfl; have hcz20_2 : w19.cell? ⟨gb107, 2, none⟩ = some (.string (⟨#[]⟩ : ByteArray)) := (blk_cell BK107.out 2).trans rfl; have hcz20_3 : w19.cell? ⟨gb107, 3, none⟩ = some (.string (⟨#[]⟩ : ByteArray)) := (blk_cell BK107.out 3).trans rfl; have hcz20_4 : w19.cell? ⟨gb107, 4, none⟩ = some (.string (⟨#[]⟩ : ByteArray)) := (blk_cell BK107.out 4).trans rfl; have hcz20_5 : w19.cell? ⟨gb107, 5, none⟩ = some (.int .i64 0) := (blk_cell BK107.out 5).trans rfl; have hcz20_6 : w19.cell? ⟨gb107, 6, none⟩ = some (.int .i64 0) := (blk_cell BK107.out 6).trans rfl; have hcz20_7 : w19.cell? ⟨gb107, 7, none⟩ = some (.int .i64 0) := (blk_cell BK107.out 7).trans rfl; have hfz20_0 := blk_frozen BK107.out 0; have hfz20_1 := blk_frozen BK107.out 1; have hfz20_2 := blk_frozen BK107.out 2; have hfz20_3 := blk_frozen BK107.out 3; have hfz20_4 := blk_frozen BK107.out 4; have hfz20_5 := blk_frozen BK107.out 5; have hfz20_6 := blk_frozen BK107.out 6; have hfz20_7 := blk_frozen BK107.out 7) | ((with_reducible refine gate_callee (f := 20) rfl ?_); refine goesL_ (some 53) rfl rfl Try.func20 (by kernel_rfl) rfl #[.agg #[.int .i64 ((rd_T30 l0 (rd t102 x11_2)).kind), .string ((rd_T30 l0 (rd t102 x11_2)).x), .string ((rd_T30 l0 (rd t102 x11_2)).y), .string ((rd_T30 l0 (rd t102 x11_2)).z), .string ((rd_T30 l0 (rd t102 x11_2)).op), .int .i64 ((rd_T30 l0 (rd t102 x11_2)).n), .int .i64 ((rd_T30 l0 (rd t102 x11_2)).a), .int .i64 ((rd_T30 l0 (rd t102 x11_2)).b)]] rfl (by (try simp only [List.map_toArray, List.map_cons, List.map_nil]); first | done | rfl | (simp only [List.length_drop, List.length_take]; rfl)) ?_; (with_reducible refine (cfg_Def.calls ((rd_T30 l0 (rd t102 x11_2)).kind) ((rd_T30 l0 (rd t102 x11_2)).x) ((rd_T30 l0 (rd t102 x11_2)).y) ((rd_T30 l0 (rd t102 x11_2)).z) ((rd_T30 l0 (rd t102 x11_2)).op) ((rd_T30 l0 (rd t102 x11_2)).n) ((rd_T30 l0 (rd t102 x11_2)).a) ((rd_T30 l0 (rd t102 x11_2)).b) t108 t109 _ A16.out).mono ?_); rintro e w21 ⟨rfl, hb⟩; refine ⟨_, rfl, ?_⟩; replace HO_10 := am (Kd.R_below (by (with_reducible repeat (first | apply Ra | apply Rn | apply Rd)); exact (Kd.R_mono (Kd.R_far (p := ⟨gb107, 7, none⟩) (Kd.R_far (p := ⟨gb107, 6, none⟩) (Kd.R_far (p := ⟨gb107, 5, none⟩) (Kd.R_far (p := ⟨gb107, 4, none⟩) (Kd.R_far (p := ⟨gb107, 3, none⟩) (Kd.R_far (p := ⟨gb107, 2, none⟩) (Kd.R_far (p := ⟨gb107, 1, none⟩) (Kd.R_far (p := ⟨gb107, 0, none⟩) (Kd.R_types HO_10.out BK107.out (by decide)) (fun _ hk => hk.2) _) (fun _ hk => hk.2) _) (fun _ hk => hk.2) _) (fun _ hk => hk.2) _) (fun _ hk => hk.2) _) (fun _ hk => hk.2) _) (fun _ hk => hk.2) _) (fun _ hk => hk.2) _) (fun _ h_ => h_.1))) hb); replace BK107 := am (blk_below (g := gb107) (o := .cells #[.int .i64 ((rd_T30 l0 (rd t102 x11_2)).kind), .string ((rd_T30 l0 (rd t102 x11_2)).x), .string ((rd_T30 l0 (rd t102 x11_2)).y), .string ((rd_T30 l0 (rd t102 x11_2)).z), .string ((rd_T30 l0 (rd t102 x11_2)).op), .int .i64 ((rd_T30 l0 (rd t102 x11_2)).n), .int .i64 ((rd_T30 l0 (rd t102 x11_2)).a), .int .i64 ((rd_T30 l0 (rd t102 x11_2)).b)] 30 (0, 0)) (by (with_reducible repeat (first | refine bN ?_ _ | refine bD ?_ | refine bA ?_ _)); refine blk_put (cs := #[.int .i64 ((rd_T30 l0 (rd t102 x11_2)).kind), .string ((rd_T30 l0 (rd t102 x11_2)).x), .string ((rd_T30 l0 (rd t102 x11_2)).y), .string ((rd_T30 l0 (rd t102 x11_2)).z), .string ((rd_T30 l0 (rd t102 x11_2)).op), .int .i64 ((rd_T30 l0 (rd t102 x11_2)).n), .int .i64 ((rd_T30 l0 (rd t102 x11_2)).a), .int .i64 0]) ?_ 7 _ rfl; (with_reducible repeat (first | refine bN ?_ _ | refine bD ?_ | refine bA ?_ _)); refine blk_put (cs := #[.int .i64 ((rd_T30 l0 (rd t102 x11_2)).kind), .string ((rd_T30 l0 (rd t102 x11_2)).x), .string ((rd_T30 l0 (rd t102 x11_2)).y), .string ((rd_T30 l0 (rd t102 x11_2)).z), .string ((rd_T30 l0 (rd t102 x11_2)).op), .int .i64 ((rd_T30 l0 (rd t102 x11_2)).n), .int .i64 0, .int .i64 0]) ?_ 6 _ rfl; (with_reducible repeat (first | refine bN ?_ _ | refine bD ?_ | refine bA ?_ _)); refine blk_put (cs := #[.int .i64 ((rd_T30 l0 (rd t102 x11_2)).kind), .string ((rd_T30 l0 (rd t102 x11_2)).x), .string ((rd_T30 l0 (rd t102 x11_2)).y), .string ((rd_T30 l0 (rd t102 x11_2)).z), .string ((rd_T30 l0 (rd t102 x11_2)).op), .int .i64 0, .int .i64 0, .int .i64 0]) ?_ 5 _ rfl; (with_reducible repeat (first | refine bN ?_ _ | refine bD ?_ | refine bA ?_ _)); refine blk_put (cs := #[.int .i64 ((rd_T30 l0 (rd t102 x11_2)).kind), .string ((rd_T30 l0 (rd t102 x11_2)).x), .string ((rd_T30 l0 (rd t102 x11_2)).y), .string ((rd_T30 l0 (rd t102 x11_2)).z), .string (⟨#[]⟩ : ByteArray), .int .i64 0, .int .i64 0, .int .i64 0]) ?_ 4 _ rfl; (with_reducible repeat (first | refine bN ?_ _ | refine bD ?_ | refine bA ?_ _)); refine blk_put (cs := #[.int .i64 ((rd_T30 l0 (rd t102 x11_2)).kind), .string ((rd_T30 l0 (rd t102 x11_2)).x), .string ((rd_T30 l0 (rd t102 x11_2)).y), .string (⟨#[]⟩ : ByteArray), .string (⟨#[]⟩ : ByteArray), .int .i64 0, .int .i64 0, .int .i64 0]) ?_ 3 _ rfl; (with_reducible repeat (first | refine bN ?_ _ | refine bD ?_ | refine bA ?_ _)); refine blk_put (cs := #[.int .i64 ((rd_T30 l0 (rd t102 x11_2)).kind), .string ((rd_T30 l0 (rd t102 x11_2)).x), .string (⟨#[]⟩ : ByteArray), .string (⟨#[]⟩ : ByteArray), .string (⟨#[]⟩ : ByteArray), .int .i64 0, .int .i64 0, .int .i64 0]) ?_ 2 _ rfl; (with_reducible repeat (first | refine bN ?_ _ | refine bD ?_ | refine bA ?_ _)); refine blk_put (cs := #[.int .i64 ((rd_T30 l0 (rd t102 x11_2)).kind), .string (⟨#[]⟩ : ByteArray), .string (⟨#[]⟩ : ByteArray), .string (⟨#[]⟩ : ByteArray), .string (⟨#[]⟩ : ByteArray), .int .i64 0, .int .i64 0, .int .i64 0]) ?_ 1 _ rfl; (with_reducible repeat (first | refine bN ?_ _ | refine bD ?_ | refine bA ?_ _)); refine blk_put (cs := #[.int .i64 0, .string (⟨#[]⟩ : ByteArray), .string (⟨#[]⟩ : ByteArray), .string (⟨#[]⟩ : ByteArray), .string (⟨#[]⟩ : ByteArray), .int .i64 0, .int .i64 0, .int .i64 0]) ?_ 0 _ rfl; (with_reducible repeat (first | refine bN ?_ _ | refine bD ?_ | refine bA ?_ _)); exact BK107.out) hb); replace HB := am (below_step (by repeat (first | (with_reducible first | exact HB.out | apply lA | apply lN | apply lD | refine lS ?_ GE107.out) | exact HB.out)) hb); (try clear hb); (try clear hb2); (try clear hk); (try clear hi)))
          (try simp only [Act.put, List.setIfInBounds_toArray, List.set_cons_zero, List.set_cons_succ])
          go_cut [15] (fun v15 wc => ∃ (kq : Nat) (x15_16 : Bool), v15 = .bool x15_16 ∧ Aside0 (lambrequinlaw20_CfgTaint.j2 kq l0 a1 a2 t101 x8_2 false t102 x11_2 x15_16 ((rd_T30 l0 (rd t102 x11_2)).kind) ((rd_T30 l0 (rd t102 x11_2)).x) ((rd_T30 l0 (rd t102 x11_2)).y) ((rd_T30 l0 (rd t102 x11_2)).z) ((rd_T30 l0 (rd t102 x11_2)).op) ((rd_T30 l0 (rd t102 x11_2)).n) ((rd_T30 l0 (rd t102 x11_2)).a) ((rd_T30 l0 (rd t102 x11_2)).b) = some r) ∧ Aside0 (kq ≤ k2) ∧ Aside0 (Kd.R (Kd.int .i64) 3 wc w.heap.size (fun _ => True) (.slice (some ad105) t102.length co18) t102) ∧ Aside0 (wc.heap[gb107]? = some (.cells #[.int .i64 ((rd_T30 l0 (rd t102 x11_2)).kind), .string ((rd_T30 l0 (rd t102 x11_2)).x), .string ((rd_T30 l0 (rd t102 x11_2)).y), .string ((rd_T30 l0 (rd t102 x11_2)).z), .string ((rd_T30 l0 (rd t102 x11_2)).op), .int .i64 ((rd_T30 l0 (rd t102 x11_2)).n), .int .i64 ((rd_T30 l0 (rd t102 x11_2)).a), .int .i64 ((rd_T30 l0 (rd t102 x11_2)).b)] 30 (0, 0))) ∧ Aside0 (Below w.heap.size w wc))
          case first =>
           have H := HC17.out
           clear HC17
           by_cases c22 : t109 = true
           ·subst c22
            have H1 : (lambrequinlaw20_CfgTaint.j2 k2 l0 a1 a2 t101 x8_2 false t102 x11_2 (t108.toList == a2.toList) ((rd_T30 l0 (rd t102 x11_2)).kind) ((rd_T30 l0 (rd t102 x11_2)).x) ((rd_T30 l0 (rd t102 x11_2)).y) ((rd_T30 l0 (rd t102 x11_2)).z) ((rd_T30 l0 (rd t102 x11_2)).op) ((rd_T30 l0 (rd t102 x11_2)).n) ((rd_T30 l0 (rd t102 x11_2)).a) ((rd_T30 l0 (rd t102 x11_2)).b)) = some r := by rw [if_pos rfl] at H; exact H
            clear H
            have H := H1
            clear H1
            have H' := am H
            clear H
            go_wp2
            go_meet
            case rel => exact ⟨_, ((t108.toList == a2.toList)), (by first | rfl | (simp; done) | (simp [*]; done)), H', ⟨by have := HJ4.out; have := HK2.out; first | omega | exact Nat.le_refl _⟩, ⟨by (with_reducible repeat (first | apply Ra | apply Rn | apply Rd)); exact HO_10.out⟩, ⟨by (with_reducible repeat (first | refine bN ?_ _ | refine bD ?_ | refine bA ?_ _)); exact BK107.out⟩, ⟨by repeat (first | (with_reducible first | exact HB.out | apply lA | apply lN | apply lD | refine lS ?_ GE107.out) | exact HB.out)⟩⟩
           ·replace c22 := Bool.eq_false_iff.mpr c22
            subst c22
            have H1 : (lambrequinlaw20_CfgTaint.j2 k2 l0 a1 a2 t101 x8_2 false t102 x11_2 false ((rd_T30 l0 (rd t102 x11_2)).kind) ((rd_T30 l0 (rd t102 x11_2)).x) ((rd_T30 l0 (rd t102 x11_2)).y) ((rd_T30 l0 (rd t102 x11_2)).z) ((rd_T30 l0 (rd t102 x11_2)).op) ((rd_T30 l0 (rd t102 x11_2)).n) ((rd_T30 l0 (rd t102 x11_2)).a) ((rd_T30 l0 (rd t102 x11_2)).b)) = some r := by rw [if_neg (show ¬ (false = true) by decide)] at H; exact H
            clear H
            have H := H1
            clear H1
            have H' := am H
            clear H
            go_wp2
            go_meet
            case rel => exact ⟨_, (false), (by first | rfl | (simp; done) | (simp [*]; done)), H', ⟨by have := HJ4.out; have := HK2.out; first | omega | exact Nat.le_refl _⟩, ⟨by (with_reducible repeat (first | apply Ra | apply Rn | apply Rd)); exact HO_10.out⟩, ⟨by (with_reducible repeat (first | refine bN ?_ _ | refine bD ?_ | refine bA ?_ _)); exact BK107.out⟩, ⟨by repeat (first | (with_reducible first | exact HB.out | apply lA | apply lN | apply lD | refine lS ?_ GE107.out) | exact HB.out)⟩⟩
          case rest =>
           clear HC17
           try clear c1
           try clear p1
           try clear q1
           try clear hx1
           try clear c2
           try clear p2
           try clear c7
           try clear c7b0
           try clear c7b1
           try clear c8
           try clear c8b0
           try clear c9
           try clear p10
           try clear q10
           try clear hx10
           try clear c12
           try clear c12b0
           try clear c13
           try clear c13b0
           try clear c14
           try clear c14b0
           try clear c15
           try clear c15b0
           try clear c17
           try clear c20
           try clear c22
           try clear hcz20_0
           try clear hcz20_1
           try clear hcz20_2
           try clear hcz20_3
           try clear hcz20_4
           try clear hcz20_5
           try clear hcz20_6
           try clear hcz20_7
           try clear hfz20_0
           try clear hfz20_1
           try clear hfz20_2
           try clear hfz20_3
           try clear hfz20_4
           try clear hfz20_5
           try clear hfz20_6
           try clear hfz20_7
           try clear hx105_0
           try clear hx106_0
           try clear hx106_1
           try clear hx106_2
           try clear hx106_3
           try clear hx106_4
           try clear hx106_5
           try clear hx106_6
           try clear hx106_7
           try clear p105
           try clear p106
           try clear p2
           try clear q105
           try clear q106
           obtain ⟨kq, x15_16, rfl, HA, HJ16, HO_10, BK107, HB⟩ := hcut
           cases kq with
           | zero => exact absurd HA.out (by simp [lambrequinlaw20_CfgTaint.j2])
           | succ kj16 =>
            have H := HA.out
            clear HA
            simp only [lambrequinlaw20_CfgTaint.j2] at H
            have HC23 := am H
            clear H
            go_upto_region 13 with (fail)
            go_cut [8] (fun v8 wc => ∃ (kq : Nat) (x8_22 : Bool), v8 = .bool x8_22 ∧ Aside0 (lambrequinlaw20_CfgTaint.j3 kq l0 a1 a2 t101 x8_22 false t102 x11_2 x15_16 ((rd_T30 l0 (rd t102 x11_2)).kind) ((rd_T30 l0 (rd t102 x11_2)).x) ((rd_T30 l0 (rd t102 x11_2)).y) ((rd_T30 l0 (rd t102 x11_2)).z) ((rd_T30 l0 (rd t102 x11_2)).op) ((rd_T30 l0 (rd t102 x11_2)).n) ((rd_T30 l0 (rd t102 x11_2)).a) ((rd_T30 l0 (rd t102 x11_2)).b) = some r) ∧ Aside0 (kq ≤ kj16) ∧ Aside0 (Kd.R (Kd.int .i64) 3 wc w.heap.size (fun _ => True) (.slice (some ad105) t102.length co18) t102) ∧ Aside0 (wc.heap[gb107]? = some (.cells #[.int .i64 ((rd_T30 l0 (rd t102 x11_2)).kind), .string ((rd_T30 l0 (rd t102 x11_2)).x), .string ((rd_T30 l0 (rd t102 x11_2)).y), .string ((rd_T30 l0 (rd t102 x11_2)).z), .string ((rd_T30 l0 (rd t102 x11_2)).op), .int .i64 ((rd_T30 l0 (rd t102 x11_2)).n), .int .i64 ((rd_T30 l0 (rd t102 x11_2)).a), .int .i64 ((rd_T30 l0 (rd t102 x11_2)).b)] 30 (0, 0))) ∧ Aside0 (Below w.heap.size w wc))
            case first =>
             have H := HC23.out
             clear HC23
             by_cases c24 : x8_2 = true
             ·subst c24
              have H1 : (lambrequinlaw20_CfgTaint.j3 kj16 l0 a1 a2 t101 true false t102 x11_2 x15_16 ((rd_T30 l0 (rd t102 x11_2)).kind) ((rd_T30 l0 (rd t102 x11_2)).x) ((rd_T30 l0 (rd t102 x11_2)).y) ((rd_T30 l0 (rd t102 x11_2)).z) ((rd_T30 l0 (rd t102 x11_2)).op) ((rd_T30 l0 (rd t102 x11_2)).n) ((rd_T30 l0 (rd t102 x11_2)).a) ((rd_T30 l0 (rd t102 x11_2)).b)) = some r := by rw [if_pos rfl] at H; exact H
              clear H
              have H := H1
              clear H1
              have H' := am H
              clear H
              go_wp2
              go_meet
              case rel => exact ⟨_, (true), (by first | rfl | (simp; done) | (simp [*]; done)), H', ⟨by have := HJ4.out; have := HK2.out; have := HJ16.out; first | omega | exact Nat.le_refl _⟩, ⟨by (with_reducible repeat (first | apply Ra | apply Rn | apply Rd)); exact HO_10.out⟩, ⟨by (with_reducible repeat (first | refine bN ?_ _ | refine bD ?_ | refine bA ?_ _)); exact BK107.out⟩, ⟨by repeat (first | (with_reducible first | exact HB.out | apply lA | apply lN | apply lD | refine lS ?_ GE107.out) | exact HB.out)⟩⟩
             ·replace c24 := Bool.eq_false_iff.mpr c24
              subst c24
              have H1 : (if x15_16 = true then (if ((rd_T30 l0 (rd t102 x11_2)).kind) = 4 then (lambrequinlaw20_CfgTaint.j3 kj16 l0 a1 a2 t101 true false t102 x11_2 x15_16 ((rd_T30 l0 (rd t102 x11_2)).kind) ((rd_T30 l0 (rd t102 x11_2)).x) ((rd_T30 l0 (rd t102 x11_2)).y) ((rd_T30 l0 (rd t102 x11_2)).z) ((rd_T30 l0 (rd t102 x11_2)).op) ((rd_T30 l0 (rd t102 x11_2)).n) ((rd_T30 l0 (rd t102 x11_2)).a) ((rd_T30 l0 (rd t102 x11_2)).b)) else (lambrequinlaw20_CfgTaint.j3 kj16 l0 a1 a2 t101 false false t102 x11_2 x15_16 ((rd_T30 l0 (rd t102 x11_2)).kind) ((rd_T30 l0 (rd t102 x11_2)).x) ((rd_T30 l0 (rd t102 x11_2)).y) ((rd_T30 l0 (rd t102 x11_2)).z) ((rd_T30 l0 (rd t102 x11_2)).op) ((rd_T30 l0 (rd t102 x11_2)).n) ((rd_T30 l0 (rd t102 x11_2)).a) ((rd_T30 l0 (rd t102 x11_2)).b))) else (if 0 ≤ x11_2 then (if x11_2 < (t102.length : Int) then ((cfg_Taints.f kj16 l0 (rd t102 x11_2) a2).bind fun t111 => (lambrequinlaw20_CfgTaint.j3 kj16 l0 a1 a2 t101 t111 false t102 x11_2 x15_16 ((rd_T30 l0 (rd t102 x11_2)).kind) ((rd_T30 l0 (rd t102 x11_2)).x) ((rd_T30 l0 (rd t102 x11_2)).y) ((rd_T30 l0 (rd t102 x11_2)).z) ((rd_T30 l0 (rd t102 x11_2)).op) ((rd_T30 l0 (rd t102 x11_2)).n) ((rd_T30 l0 (rd t102 x11_2)).a) ((rd_T30 l0 (rd t102 x11_2)).b))) else (none)) else (none))) = some r := by rw [if_neg (show ¬ (false = true) by decide)] at H; exact H
              clear H
              have H := H1
              clear H1
              by_cases c25 : x15_16 = true
              ·subst c25
               have H1 : (if ((rd_T30 l0 (rd t102 x11_2)).kind) = 4 then (lambrequinlaw20_CfgTaint.j3 kj16 l0 a1 a2 t101 true false t102 x11_2 true ((rd_T30 l0 (rd t102 x11_2)).kind) ((rd_T30 l0 (rd t102 x11_2)).x) ((rd_T30 l0 (rd t102 x11_2)).y) ((rd_T30 l0 (rd t102 x11_2)).z) ((rd_T30 l0 (rd t102 x11_2)).op) ((rd_T30 l0 (rd t102 x11_2)).n) ((rd_T30 l0 (rd t102 x11_2)).a) ((rd_T30 l0 (rd t102 x11_2)).b)) else (lambrequinlaw20_CfgTaint.j3 kj16 l0 a1 a2 t101 false false t102 x11_2 true ((rd_T30 l0 (rd t102 x11_2)).kind) ((rd_T30 l0 (rd t102 x11_2)).x) ((rd_T30 l0 (rd t102 x11_2)).y) ((rd_T30 l0 (rd t102 x11_2)).z) ((rd_T30 l0 (rd t102 x11_2)).op) ((rd_T30 l0 (rd t102 x11_2)).n) ((rd_T30 l0 (rd t102 x11_2)).a) ((rd_T30 l0 (rd t102 x11_2)).b))) = some r := by rw [if_pos rfl] at H; exact H
               clear H
               have H := H1
               clear H1
               by_cases c26 : ((rd_T30 l0 (rd t102 x11_2)).kind) = 4
               ·rw [if_pos c26] at H
                have c26b0 : (((rd_T30 l0 (rd t102 x11_2)).kind) == 4) = true := beq_iff_eq.mpr c26
                have c26b1 : (((rd_T30 l0 (rd t102 x11_2)).kind) != 4) = false := bne_eq_false_iff_eq.mpr c26
                clear c26
                (first | rw [c26b0] | (simp only [i64_w, i32_w]; rw [c26b0]) | skip)
                have H' := am H
                clear H
                have hcz27_0 : wc.cell? ⟨gb107, 0, none⟩ = some (.int .i64 ((rd_T30 l0 (rd t102 x11_2)).kind)) := (blk_cell BK107.out 0).trans rfl
                have hcz27_1 : wc.cell? ⟨gb107, 1, none⟩ = some (.string ((rd_T30 l0 (rd t102 x11_2)).x)) := (blk_cell BK107.out 1).trans rfl
                have hcz27_2 : wc.cell? ⟨gb107, 2, none⟩ = some (.string ((rd_T30 l0 (rd t102 x11_2)).y)) := (blk_cell BK107.out 2).trans rfl
                have hcz27_3 : wc.cell? ⟨gb107, 3, none⟩ = some (.string ((rd_T30 l0 (rd t102 x11_2)).z)) := (blk_cell BK107.out 3).trans rfl
                have hcz27_4 : wc.cell? ⟨gb107, 4, none⟩ = some (.string ((rd_T30 l0 (rd t102 x11_2)).op)) := (blk_cell BK107.out 4).trans rfl
                have hcz27_5 : wc.cell? ⟨gb107, 5, none⟩ = some (.int .i64 ((rd_T30 l0 (rd t102 x11_2)).n)) := (blk_cell BK107.out 5).trans rfl
                have hcz27_6 : wc.cell? ⟨gb107, 6, none⟩ = some (.int .i64 ((rd_T30 l0 (rd t102 x11_2)).a)) := (blk_cell BK107.out 6).trans rfl
                have hcz27_7 : wc.cell? ⟨gb107, 7, none⟩ = some (.int .i64 ((rd_T30 l0 (rd t102 x11_2)).b)) := (blk_cell BK107.out 7).trans rfl
                have hfz27_0 := blk_frozen BK107.out 0
                have hfz27_1 := blk_frozen BK107.out 1
                have hfz27_2 := blk_frozen BK107.out 2
                have hfz27_3 := blk_frozen BK107.out 3
                have hfz27_4 := blk_frozen BK107.out 4
                have hfz27_5 := blk_frozen BK107.out 5
                have hfz27_6 := blk_frozen BK107.out 6
                have hfz27_7 := blk_frozen BK107.out 7
                go_wp2
                go_meet
                case rel => exact ⟨_, (true), (by first | rfl | (simp; done) | (simp [*]; done)), H', ⟨by have := HJ4.out; have := HK2.out; have := HJ16.out; first | omega | exact Nat.le_refl _⟩, ⟨by (with_reducible repeat (first | apply Ra | apply Rn | apply Rd)); exact HO_10.out⟩, ⟨by (with_reducible repeat (first | refine bN ?_ _ | refine bD ?_ | refine bA ?_ _)); exact BK107.out⟩, ⟨by repeat (first | (with_reducible first | exact HB.out | apply lA | apply lN | apply lD | refine lS ?_ GE107.out) | exact HB.out)⟩⟩
               ·rw [if_neg c26] at H
                have c26b0 : (((rd_T30 l0 (rd t102 x11_2)).kind) == 4) = false := beq_eq_false_iff_ne.mpr c26
                have c26b1 : (((rd_T30 l0 (rd t102 x11_2)).kind) != 4) = true := bne_iff_ne.mpr c26
                (first | rw [c26b0] | (simp only [i64_w, i32_w]; rw [c26b0]) | skip)
                have H' := am H
                clear H
                have hcz28_0 : wc.cell? ⟨gb107, 0, none⟩ = some (.int .i64 ((rd_T30 l0 (rd t102 x11_2)).kind)) := (blk_cell BK107.out 0).trans rfl
                have hcz28_1 : wc.cell? ⟨gb107, 1, none⟩ = some (.string ((rd_T30 l0 (rd t102 x11_2)).x)) := (blk_cell BK107.out 1).trans rfl
                have hcz28_2 : wc.cell? ⟨gb107, 2, none⟩ = some (.string ((rd_T30 l0 (rd t102 x11_2)).y)) := (blk_cell BK107.out 2).trans rfl
                have hcz28_3 : wc.cell? ⟨gb107, 3, none⟩ = some (.string ((rd_T30 l0 (rd t102 x11_2)).z)) := (blk_cell BK107.out 3).trans rfl
                have hcz28_4 : wc.cell? ⟨gb107, 4, none⟩ = some (.string ((rd_T30 l0 (rd t102 x11_2)).op)) := (blk_cell BK107.out 4).trans rfl
                have hcz28_5 : wc.cell? ⟨gb107, 5, none⟩ = some (.int .i64 ((rd_T30 l0 (rd t102 x11_2)).n)) := (blk_cell BK107.out 5).trans rfl
                have hcz28_6 : wc.cell? ⟨gb107, 6, none⟩ = some (.int .i64 ((rd_T30 l0 (rd t102 x11_2)).a)) := (blk_cell BK107.out 6).trans rfl
                have hcz28_7 : wc.cell? ⟨gb107, 7, none⟩ = some (.int .i64 ((rd_T30 l0 (rd t102 x11_2)).b)) := (blk_cell BK107.out 7).trans rfl
                have hfz28_0 := blk_frozen BK107.out 0
                have hfz28_1 := blk_frozen BK107.out 1
                have hfz28_2 := blk_frozen BK107.out 2
                have hfz28_3 := blk_frozen BK107.out 3
                have hfz28_4 := blk_frozen BK107.out 4
                have hfz28_5 := blk_frozen BK107.out 5
                have hfz28_6 := blk_frozen BK107.out 6
                have hfz28_7 := blk_frozen BK107.out 7
                go_wp2
                go_meet
                case rel => exact ⟨_, (false), (by first | rfl | (simp; done) | (simp [*]; done)), H', ⟨by have := HJ4.out; have := HK2.out; have := HJ16.out; first | omega | exact Nat.le_refl _⟩, ⟨by (with_reducible repeat (first | apply Ra | apply Rn | apply Rd)); exact HO_10.out⟩, ⟨by (with_reducible repeat (first | refine bN ?_ _ | refine bD ?_ | refine bA ?_ _)); exact BK107.out⟩, ⟨by repeat (first | (with_reducible first | exact HB.out | apply lA | apply lN | apply lD | refine lS ?_ GE107.out) | exact HB.out)⟩⟩
              ·replace c25 := Bool.eq_false_iff.mpr c25
               subst c25
               have H1 : (if 0 ≤ x11_2 then (if x11_2 < (t102.length : Int) then ((cfg_Taints.f kj16 l0 (rd t102 x11_2) a2).bind fun t111 => (lambrequinlaw20_CfgTaint.j3 kj16 l0 a1 a2 t101 t111 false t102 x11_2 false ((rd_T30 l0 (rd t102 x11_2)).kind) ((rd_T30 l0 (rd t102 x11_2)).x) ((rd_T30 l0 (rd t102 x11_2)).y) ((rd_T30 l0 (rd t102 x11_2)).z) ((rd_T30 l0 (rd t102 x11_2)).op) ((rd_T30 l0 (rd t102 x11_2)).n) ((rd_T30 l0 (rd t102 x11_2)).a) ((rd_T30 l0 (rd t102 x11_2)).b))) else (none)) else (none)) = some r := by rw [if_neg (show ¬ (false = true) by decide)] at H; exact H
               clear H
               have H := H1
               clear H1
               by_cases c29 : 0 ≤ x11_2
               ·rw [if_pos c29] at H
                have c29b0 : decide (0 ≤ x11_2) = true := decide_eq_true c29
                clear c29
                by_cases c30 : x11_2 < (t102.length : Int)
                ·rw [if_pos c30] at H
                 have c30b0 : decide (x11_2 < (t102.length : Int)) = true := decide_eq_true c30
                 clear c30
                 replace H := Option.bind_eq_some_iff.mp H
                 obtain ⟨t111, A310, H⟩ := H
                 replace H : (lambrequinlaw20_CfgTaint.j3 kj16 l0 a1 a2 t101 t111 false t102 x11_2 false ((rd_T30 l0 (rd t102 x11_2)).kind) ((rd_T30 l0 (rd t102 x11_2)).x) ((rd_T30 l0 (rd t102 x11_2)).y) ((rd_T30 l0 (rd t102 x11_2)).z) ((rd_T30 l0 (rd t102 x11_2)).op) ((rd_T30 l0 (rd t102 x11_2)).n) ((rd_T30 l0 (rd t102 x11_2)).a) ((rd_T30 l0 (rd t102 x11_2)).b)) = some r := H
                 have A31 := am A310
                 clear A310
                 have H' := am H
                 clear H
                 have p110 : 0 ≤ (x11_2 : Int) := of_decide_eq_true (by first | (with_reducible assumption) | assumption)
                 have q110 : x11_2 < (t102.length : Int) := of_decide_eq_true (by first | (with_reducible assumption) | assumption)
                 obtain ⟨ad110, e110, hx110_0⟩ := Kd.at_int (Kd.R_reads' HO_10.out).2.2 x11_2 p110 q110
                 obtain rfl : ad105 = ad110 := (by injection e110)
                 replace p110 := eq_true p110
                 replace q110 := eq_true q110
                 go_wp2_with (first | (go_at_call 40; (with_reducible refine (cfg_Taints.calls kj16 _ _ l0 (rd t102 x11_2) a2 t111 _ ?side1 ?side2 A31.out).mono ?_); (case side1 => repeat (first | exact (Kd.C_below HR0.out HB.out) | (with_reducible refine Kd.C_alloc ?_ _) | (with_reducible refine Kd.C_drewN ?_ _) | (with_reducible refine Kd.C_drew ?_))); (case side2 => exact HC0.out); rintro e w32 ⟨rfl, hb⟩; replace HO_10 := am (Kd.R_below (by (with_reducible repeat (first | apply Ra | apply Rn | apply Rd)); exact HO_10.out) hb); replace BK107 := am (blk_below (g := gb107) (o := .cells #[.int .i64 ((rd_T30 l0 (rd t102 x11_2)).kind), .string ((rd_T30 l0 (rd t102 x11_2)).x), .string ((rd_T30 l0 (rd t102 x11_2)).y), .string ((rd_T30 l0 (rd t102 x11_2)).z), .string ((rd_T30 l0 (rd t102 x11_2)).op), .int .i64 ((rd_T30 l0 (rd t102 x11_2)).n), .int .i64 ((rd_T30 l0 (rd t102 x11_2)).a), .int .i64 ((rd_T30 l0 (rd t102 x11_2)).b)] 30 (0, 0)) (by (with_reducible repeat (first | refine bN ?_ _ | refine bD ?_ | refine bA ?_ _)); exact BK107.out) hb); replace HB := am (below_step (by repeat (first | (with_reducible first | exact HB.out | apply lA | apply lN | apply lD | refine lS ?_ GE107.out) | exact HB.out)) hb); (try clear hb); (try clear hb2); (try clear hk); (try clear hi)))
                 go_meet
                 case rel => exact ⟨_, (t111), (by first | rfl | (simp; done) | (simp [*]; done)), H', ⟨by have := HJ4.out; have := HK2.out; have := HJ16.out; first | omega | exact Nat.le_refl _⟩, ⟨by (with_reducible repeat (first | apply Ra | apply Rn | apply Rd)); exact HO_10.out⟩, ⟨by (with_reducible repeat (first | refine bN ?_ _ | refine bD ?_ | refine bA ?_ _)); exact BK107.out⟩, ⟨by repeat (first | (with_reducible first | exact HB.out | apply lA | apply lN | apply lD | refine lS ?_ GE107.out) | exact HB.out)⟩⟩
                ·rw [if_neg c30] at H
                 exact absurd H (by simp)
               ·rw [if_neg c29] at H
                exact absurd H (by simp)
            case rest =>
             clear HC23
             try clear c1
             try clear p1
             try clear q1
             try clear hx1
             try clear c2
             try clear p2
             try clear c3
             try clear c7
             try clear c7b0
             try clear c7b1
             try clear c8
             try clear c8b0
             try clear c9
             try clear p10
             try clear q10
             try clear hx10
             try clear p11
             try clear q11
             try clear hx11
             try clear c12
             try clear c12b0
             try clear c13
             try clear c13b0
             try clear c14
             try clear c14b0
             try clear c15
             try clear c15b0
             try clear c17
             try clear c20
             try clear c22
             try clear c24
             try clear c25
             try clear c26
             try clear c26b0
             try clear c26b1
             try clear c29
             try clear c29b0
             try clear c30
             try clear c30b0
             try clear hcz20_0
             try clear hcz20_1
             try clear hcz20_2
             try clear hcz20_3
             try clear hcz20_4
             try clear hcz20_5
             try clear hcz20_6
             try clear hcz20_7
             try clear hcz27_0
             try clear hcz27_1
             try clear hcz27_2
             try clear hcz27_3
             try clear hcz27_4
             try clear hcz27_5
             try clear hcz27_6
             try clear hcz27_7
             try clear hcz28_0
             try clear hcz28_1
             try clear hcz28_2
             try clear hcz28_3
             try clear hcz28_4
             try clear hcz28_5
             try clear hcz28_6
             try clear hcz28_7
             try clear hfz20_0
             try clear hfz20_1
             try clear hfz20_2
             try clear hfz20_3
             try clear hfz20_4
             try clear hfz20_5
             try clear hfz20_6
             try clear hfz20_7
             try clear hfz27_0
             try clear hfz27_1
             try clear hfz27_2
             try clear hfz27_3
             try clear hfz27_4
             try clear hfz27_5
             try clear hfz27_6
             try clear hfz27_7
             try clear hfz28_0
             try clear hfz28_1
             try clear hfz28_2
             try clear hfz28_3
             try clear hfz28_4
             try clear hfz28_5
             try clear hfz28_6
             try clear hfz28_7
             try clear hx105_0
             try clear hx106_0
             try clear hx106_1
             try clear hx106_2
             try clear hx106_3
             try clear hx106_4
             try clear hx106_5
             try clear hx106_6
             try clear hx106_7
             try clear hx110_0
             try clear p1
             try clear p10
             try clear p105
             try clear p106
             try clear p110
             try clear p2
             try clear q1
             try clear q10
             try clear q105
             try clear q106
             try clear q110
             obtain ⟨kq, x8_22, rfl, HA, HJ22, HO_10, BK107, HB⟩ := hcut
             cases kq with
             | zero => exact absurd HA.out (by simp [lambrequinlaw20_CfgTaint.j3])
             | succ kj22 =>
              have H := HA.out
              clear HA
              simp only [lambrequinlaw20_CfgTaint.j3] at H
              replace H := Option.bind_eq_some_iff.mp H
              obtain ⟨t112, A330, H⟩ := H
              replace H : (lambrequinlaw20_CfgTaint.l1 kj22 l0 a1 a2 t101 x8_22 false t102 x11_2 x15_16 t112 0 ((rd_T30 l0 (rd t102 x11_2)).kind) ((rd_T30 l0 (rd t102 x11_2)).x) ((rd_T30 l0 (rd t102 x11_2)).y) ((rd_T30 l0 (rd t102 x11_2)).z) ((rd_T30 l0 (rd t102 x11_2)).op) ((rd_T30 l0 (rd t102 x11_2)).n) ((rd_T30 l0 (rd t102 x11_2)).a) ((rd_T30 l0 (rd t102 x11_2)).b)) = some r := H
              have A33 := am A330
              clear A330
              have H' := am H
              clear H
              have hcz34_0 : wc.cell? ⟨gb107, 0, none⟩ = some (.int .i64 ((rd_T30 l0 (rd t102 x11_2)).kind)) := (blk_cell BK107.out 0).trans rfl
              have hcz34_1 : wc.cell? ⟨gb107, 1, none⟩ = some (.string ((rd_T30 l0 (rd t102 x11_2)).x)) := (blk_cell BK107.out 1).trans rfl
              have hcz34_2 : wc.cell? ⟨gb107, 2, none⟩ = some (.string ((rd_T30 l0 (rd t102 x11_2)).y)) := (blk_cell BK107.out 2).trans rfl
              have hcz34_3 : wc.cell? ⟨gb107, 3, none⟩ = some (.string ((rd_T30 l0 (rd t102 x11_2)).z)) := (blk_cell BK107.out 3).trans rfl
              have hcz34_4 : wc.cell? ⟨gb107, 4, none⟩ = some (.string ((rd_T30 l0 (rd t102 x11_2)).op)) := (blk_cell BK107.out 4).trans rfl
              have hcz34_5 : wc.cell? ⟨gb107, 5, none⟩ = some (.int .i64 ((rd_T30 l0 (rd t102 x11_2)).n)) := (blk_cell BK107.out 5).trans rfl
              have hcz34_6 : wc.cell? ⟨gb107, 6, none⟩ = some (.int .i64 ((rd_T30 l0 (rd t102 x11_2)).a)) := (blk_cell BK107.out 6).trans rfl
              have hcz34_7 : wc.cell? ⟨gb107, 7, none⟩ = some (.int .i64 ((rd_T30 l0 (rd t102 x11_2)).b)) := (blk_cell BK107.out 7).trans rfl
              have hfz34_0 := blk_frozen BK107.out 0
              have hfz34_1 := blk_frozen BK107.out 1
              have hfz34_2 := blk_frozen BK107.out 2
              have hfz34_3 := blk_frozen BK107.out 3
              have hfz34_4 := blk_frozen BK107.out 4
              have hfz34_5 := blk_frozen BK107.out 5
              have hfz34_6 := blk_frozen BK107.out 6
              have hfz34_7 := blk_frozen BK107.out 7
              go_wp2_with (first | ((with_reducible refine gate_callee (f := 22) rfl ?_); refine goesL_ (some 85) rfl rfl Try.func22 (by kernel_rfl) rfl #[.agg #[.int .i64 ((rd_T30 l0 (rd t102 x11_2)).kind), .string ((rd_T30 l0 (rd t102 x11_2)).x), .string ((rd_T30 l0 (rd t102 x11_2)).y), .string ((rd_T30 l0 (rd t102 x11_2)).z), .string ((rd_T30 l0 (rd t102 x11_2)).op), .int .i64 ((rd_T30 l0 (rd t102 x11_2)).n), .int .i64 ((rd_T30 l0 (rd t102 x11_2)).a), .int .i64 ((rd_T30 l0 (rd t102 x11_2)).b)]] rfl (by (try simp only [List.map_toArray, List.map_cons, List.map_nil]); first | done | rfl | (simp only [List.length_drop, List.length_take]; rfl)) ?_; (with_reducible refine (cfg_Uses.calls ((rd_T30 l0 (rd t102 x11_2)).kind) ((rd_T30 l0 (rd t102 x11_2)).x) ((rd_T30 l0 (rd t102 x11_2)).y) ((rd_T30 l0 (rd t102 x11_2)).z) ((rd_T30 l0 (rd t102 x11_2)).op) ((rd_T30 l0 (rd t102 x11_2)).n) ((rd_T30 l0 (rd t102 x11_2)).a) ((rd_T30 l0 (rd t102 x11_2)).b) t112 _ A33.out).mono ?_); rintro e w35 ⟨v113, rfl, ho0, hb⟩; refine ⟨_, rfl, ?_⟩; replace HO_10 := am (Kd.R_below (by (with_reducible repeat (first | apply Ra | apply Rn | apply Rd)); exact HO_10.out) hb); have HO114 := am (Kd.R_lower ho0 (below_size (by repeat (first | (with_reducible first | exact HB.out | apply lA | apply lN | apply lD | refine lS ?_ GE107.out) | exact HB.out)))); replace BK107 := am (blk_below (g := gb107) (o := .cells #[.int .i64 ((rd_T30 l0 (rd t102 x11_2)).kind), .string ((rd_T30 l0 (rd t102 x11_2)).x), .string ((rd_T30 l0 (rd t102 x11_2)).y), .string ((rd_T30 l0 (rd t102 x11_2)).z), .string ((rd_T30 l0 (rd t102 x11_2)).op), .int .i64 ((rd_T30 l0 (rd t102 x11_2)).n), .int .i64 ((rd_T30 l0 (rd t102 x11_2)).a), .int .i64 ((rd_T30 l0 (rd t102 x11_2)).b)] 30 (0, 0)) (by (with_reducible repeat (first | refine bN ?_ _ | refine bD ?_ | refine bA ?_ _)); exact BK107.out) hb); replace HB := am (below_step (by repeat (first | (with_reducible first | exact HB.out | apply lA | apply lN | apply lD | refine lS ?_ GE107.out) | exact HB.out)) hb); (try clear hb); (try clear hb2); (try clear hk); (try clear hi); (try clear ho0)))
              go_loopg [8, 17] kj22 (fun kq v8 v17 w' => ∃ (x8_5 : Bool) (x17_5 : Int), v8 = .bool x8_5 ∧ v17 = .int .i64 x17_5 ∧ Aside0 (lambrequinlaw20_CfgTaint.l1 kq l0 a1 a2 t101 x8_5 false t102 x11_2 x15_16 t112 x17_5 ((rd_T30 l0 (rd t102 x11_2)).kind) ((rd_T30 l0 (rd t102 x11_2)).x) ((rd_T30 l0 (rd t102 x11_2)).y) ((rd_T30 l0 (rd t102 x11_2)).z) ((rd_T30 l0 (rd t102 x11_2)).op) ((rd_T30 l0 (rd t102 x11_2)).n) ((rd_T30 l0 (rd t102 x11_2)).a) ((rd_T30 l0 (rd t102 x11_2)).b) = some r) ∧ Aside0 (kq ≤ kj22) ∧ Aside0 (Kd.R (Kd.int .i64) 3 w' w.heap.size (fun _ => True) (.slice (some ad105) t102.length co18) t102) ∧ Aside0 (Kd.R Kd.string 9 w' w.heap.size (fun _ => True) v113 t112) ∧ Aside0 (w'.heap[gb107]? = some (.cells #[.int .i64 ((rd_T30 l0 (rd t102 x11_2)).kind), .string ((rd_T30 l0 (rd t102 x11_2)).x), .string ((rd_T30 l0 (rd t102 x11_2)).y), .string ((rd_T30 l0 (rd t102 x11_2)).z), .string ((rd_T30 l0 (rd t102 x11_2)).op), .int .i64 ((rd_T30 l0 (rd t102 x11_2)).n), .int .i64 ((rd_T30 l0 (rd t102 x11_2)).a), .int .i64 ((rd_T30 l0 (rd t102 x11_2)).b)] 30 (0, 0))) ∧ Aside0 (Below w.heap.size w w'))
              case atStart => exact ⟨(x8_22), (0), (by first | rfl | (simp; done) | (simp [*]; done)), (by first | rfl | (simp; done) | (simp [*]; done)), H', ⟨Nat.le_refl _⟩, ⟨by (with_reducible repeat (first | apply Ra | apply Rn | apply Rd)); exact HO_10.out⟩, ⟨by (with_reducible repeat (first | apply Ra | apply Rn | apply Rd)); exact HO114.out⟩, ⟨by (with_reducible repeat (first | refine bN ?_ _ | refine bD ?_ | refine bA ?_ _)); exact BK107.out⟩, ⟨by repeat (first | (with_reducible first | exact HB.out | apply lA | apply lN | apply lD | refine lS ?_ GE107.out) | exact HB.out)⟩⟩
              case round =>
               clear H'
               try clear c1
               try clear p1
               try clear q1
               try clear hx1
               try clear c2
               try clear p2
               try clear c3
               try clear c7
               try clear c7b0
               try clear c7b1
               try clear c8
               try clear c8b0
               try clear c9
               try clear p10
               try clear q10
               try clear hx10
               try clear p11
               try clear q11
               try clear hx11
               try clear c12
               try clear c12b0
               try clear c13
               try clear c13b0
               try clear c14
               try clear c14b0
               try clear c15
               try clear c15b0
               try clear c17
               try clear c20
               try clear c22
               try clear c24
               try clear c25
               try clear c26
               try clear c26b0
               try clear c26b1
               try clear c29
               try clear c29b0
               try clear c30
               try clear c30b0
               try clear hcz20_0
               try clear hcz20_1
               try clear hcz20_2
               try clear hcz20_3
               try clear hcz20_4
               try clear hcz20_5
               try clear hcz20_6
               try clear hcz20_7
               try clear hcz27_0
               try clear hcz27_1
               try clear hcz27_2
               try clear hcz27_3
               try clear hcz27_4
               try clear hcz27_5
               try clear hcz27_6
               try clear hcz27_7
               try clear hcz28_0
               try clear hcz28_1
               try clear hcz28_2
               try clear hcz28_3
               try clear hcz28_4
               try clear hcz28_5
               try clear hcz28_6
               try clear hcz28_7
               try clear hcz34_0
               try clear hcz34_1
               try clear hcz34_2
               try clear hcz34_3
               try clear hcz34_4
               try clear hcz34_5
               try clear hcz34_6
               try clear hcz34_7
               try clear hfz20_0
               try clear hfz20_1
               try clear hfz20_2
               try clear hfz20_3
               try clear hfz20_4
               try clear hfz20_5
               try clear hfz20_6
               try clear hfz20_7
               try clear hfz27_0
               try clear hfz27_1
               try clear hfz27_2
               try clear hfz27_3
               try clear hfz27_4
               try clear hfz27_5
               try clear hfz27_6
               try clear hfz27_7
               try clear hfz28_0
               try clear hfz28_1
               try clear hfz28_2
               try clear hfz28_3
               try clear hfz28_4
               try clear hfz28_5
               try clear hfz28_6
               try clear hfz28_7
               try clear hfz34_0
               try clear hfz34_1
               try clear hfz34_2
               try clear hfz34_3
               try clear hfz34_4
               try clear hfz34_5
               try clear hfz34_6
               try clear hfz34_7
               try clear hx105_0
               try clear hx106_0
               try clear hx106_1
               try clear hx106_2
               try clear hx106_3
               try clear hx106_4
               try clear hx106_5
               try clear hx106_6
               try clear hx106_7
               try clear hx110_0
               try clear p1
               try clear p10
               try clear p105
               try clear p106
               try clear p11
               try clear p110
               try clear p2
               try clear q1
               try clear q10
               try clear q105
               try clear q106
               try clear q11
               try clear q110
               obtain ⟨x8_5, x17_5, rfl, rfl, HA, HK5, HO_10, HO_16, BK107, HB⟩ := hrel
               cases gk with
               | zero => exact absurd HA.out (by simp [lambrequinlaw20_CfgTaint.l1])
               | succ k5 =>
                have H := HA.out
                clear HA
                simp only [lambrequinlaw20_CfgTaint.l1] at H
                by_cases c36 : x17_5 < (t112.length : Int)
                ·rw [if_pos c36] at H
                 have c36b0 : decide (x17_5 < (t112.length : Int)) = true := decide_eq_true c36
                 clear c36
                 by_cases c37 : x15_16 = true
                 ·subst c37
                  have H1 : (if ((rd_T30 l0 (rd t102 x11_2)).kind) = 2 then (if x8_5 = true then (lambrequinlaw20_CfgTaint.l1 k5 l0 a1 a2 t101 true false t102 x11_2 true t112 (wrap64 (x17_5 + 1)) ((rd_T30 l0 (rd t102 x11_2)).kind) ((rd_T30 l0 (rd t102 x11_2)).x) ((rd_T30 l0 (rd t102 x11_2)).y) ((rd_T30 l0 (rd t102 x11_2)).z) ((rd_T30 l0 (rd t102 x11_2)).op) ((rd_T30 l0 (rd t102 x11_2)).n) ((rd_T30 l0 (rd t102 x11_2)).a) ((rd_T30 l0 (rd t102 x11_2)).b)) else (if 0 ≤ x11_2 then (if x11_2 < (t102.length : Int) then (if 0 ≤ x17_5 then ((cfg_Taints.f k5 l0 (rd t102 x11_2) (rdOf ByteArray.empty t112 x17_5)).bind fun t117 => (lambrequinlaw20_CfgTaint.l1 k5 l0 a1 a2 t101 t117 false t102 x11_2 true t112 (wrap64 (x17_5 + 1)) ((rd_T30 l0 (rd t102 x11_2)).kind) ((rd_T30 l0 (rd t102 x11_2)).x) ((rd_T30 l0 (rd t102 x11_2)).y) ((rd_T30 l0 (rd t102 x11_2)).z) ((rd_T30 l0 (rd t102 x11_2)).op) ((rd_T30 l0 (rd t102 x11_2)).n) ((rd_T30 l0 (rd t102 x11_2)).a) ((rd_T30 l0 (rd t102 x11_2)).b))) else (none)) else (none)) else (none))) else (if ((rd_T30 l0 (rd t102 x11_2)).kind) = 3 then (if x8_5 = true then (lambrequinlaw20_CfgTaint.l1 k5 l0 a1 a2 t101 true false t102 x11_2 true t112 (wrap64 (x17_5 + 1)) ((rd_T30 l0 (rd t102 x11_2)).kind) ((rd_T30 l0 (rd t102 x11_2)).x) ((rd_T30 l0 (rd t102 x11_2)).y) ((rd_T30 l0 (rd t102 x11_2)).z) ((rd_T30 l0 (rd t102 x11_2)).op) ((rd_T30 l0 (rd t102 x11_2)).n) ((rd_T30 l0 (rd t102 x11_2)).a) ((rd_T30 l0 (rd t102 x11_2)).b)) else (if 0 ≤ x11_2 then (if x11_2 < (t102.length : Int) then (if 0 ≤ x17_5 then ((cfg_Taints.f k5 l0 (rd t102 x11_2) (rdOf ByteArray.empty t112 x17_5)).bind fun t120 => (lambrequinlaw20_CfgTaint.l1 k5 l0 a1 a2 t101 t120 false t102 x11_2 true t112 (wrap64 (x17_5 + 1)) ((rd_T30 l0 (rd t102 x11_2)).kind) ((rd_T30 l0 (rd t102 x11_2)).x) ((rd_T30 l0 (rd t102 x11_2)).y) ((rd_T30 l0 (rd t102 x11_2)).z) ((rd_T30 l0 (rd t102 x11_2)).op) ((rd_T30 l0 (rd t102 x11_2)).n) ((rd_T30 l0 (rd t102 x11_2)).a) ((rd_T30 l0 (rd t102 x11_2)).b))) else (none)) else (none)) else (none))) else (lambrequinlaw20_CfgTaint.l0 k5 l0 a1 a2 t101 x8_5 false t102 (wrap64 (x11_2 + 1))))) = some r := by rw [if_pos rfl] at H; exact H
                  clear H
                  have H := H1
                  clear H1
                  by_cases c38 : ((rd_T30 l0 (rd t102 x11_2)).kind) = 2
                  ·rw [if_pos c38] at H
                   have c38b0 : (((rd_T30 l0 (rd t102 x11_2)).kind) == 2) = true := beq_iff_eq.mpr c38
                   have c38b1 : (((rd_T30 l0 (rd t102 x11_2)).kind) != 2) = false := bne_eq_false_iff_eq.mpr c38
                   clear c38
                   by_cases c39 : x8_5 = true
                   ·subst c39
                    have H1 : (lambrequinlaw20_CfgTaint.l1 k5 l0 a1 a2 t101 true false t102 x11_2 true t112 (wrap64 (x17_5 + 1)) ((rd_T30 l0 (rd t102 x11_2)).kind) ((rd_T30 l0 (rd t102 x11_2)).x) ((rd_T30 l0 (rd t102 x11_2)).y) ((rd_T30 l0 (rd t102 x11_2)).z) ((rd_T30 l0 (rd t102 x11_2)).op) ((rd_T30 l0 (rd t102 x11_2)).n) ((rd_T30 l0 (rd t102 x11_2)).a) ((rd_T30 l0 (rd t102 x11_2)).b)) = some r := by rw [if_pos rfl] at H; exact H
                    clear H
                    have H := H1
                    clear H1
                    have H' := am H
                    clear H
                    obtain ⟨Ao40, co40, eo40⟩ := Kd.R_slice HO_16.out
                    subst eo40
                    have hcz41_0 : wr.cell? ⟨gb107, 0, none⟩ = some (.int .i64 ((rd_T30 l0 (rd t102 x11_2)).kind)) := (blk_cell BK107.out 0).trans rfl
                    have hcz41_1 : wr.cell? ⟨gb107, 1, none⟩ = some (.string ((rd_T30 l0 (rd t102 x11_2)).x)) := (blk_cell BK107.out 1).trans rfl
                    have hcz41_2 : wr.cell? ⟨gb107, 2, none⟩ = some (.string ((rd_T30 l0 (rd t102 x11_2)).y)) := (blk_cell BK107.out 2).trans rfl
                    have hcz41_3 : wr.cell? ⟨gb107, 3, none⟩ = some (.string ((rd_T30 l0 (rd t102 x11_2)).z)) := (blk_cell BK107.out 3).trans rfl
                    have hcz41_4 : wr.cell? ⟨gb107, 4, none⟩ = some (.string ((rd_T30 l0 (rd t102 x11_2)).op)) := (blk_cell BK107.out 4).trans rfl
                    have hcz41_5 : wr.cell? ⟨gb107, 5, none⟩ = some (.int .i64 ((rd_T30 l0 (rd t102 x11_2)).n)) := (blk_cell BK107.out 5).trans rfl
                    have hcz41_6 : wr.cell? ⟨gb107, 6, none⟩ = some (.int .i64 ((rd_T30 l0 (rd t102 x11_2)).a)) := (blk_cell BK107.out 6).trans rfl
                    have hcz41_7 : wr.cell? ⟨gb107, 7, none⟩ = some (.int .i64 ((rd_T30 l0 (rd t102 x11_2)).b)) := (blk_cell BK107.out 7).trans rfl
                    have hfz41_0 := blk_frozen BK107.out 0
                    have hfz41_1 := blk_frozen BK107.out 1
                    have hfz41_2 := blk_frozen BK107.out 2
                    have hfz41_3 := blk_frozen BK107.out 3
                    have hfz41_4 := blk_frozen BK107.out 4
                    have hfz41_5 := blk_frozen BK107.out 5
                    have hfz41_6 := blk_frozen BK107.out 6
                    have hfz41_7 := blk_frozen BK107.out 7
                    try go_wp2
                    replace HO_10 := am (Kd.R_drew HO_10.out)
                    replace HO_16 := am (Kd.R_drew HO_16.out)
                    replace BK107 := am (blk_drew BK107.out)
                    replace HB := am (below_drew1 HB.out)
                    refine start_ (n := 14) (S := fun w' => True) (ds := []) (bl 14 0) (by kernel_rfl) rfl rfl trivial (fun hHeld => ?_); refine with_tabW lambrequinlaw20_CfgTaint.tab18 lambrequinlaw20_CfgTaint.bits18 (fun HT_ HW_ => ?_)
                    generalize wr.drew = w42 at HO_10 HO_16 BK107 HB hHeld ⊢
                    refine pure_ (i := 0) (N := some 105) (v := ?_) (a' := ?_) (bl 14 1) rfl rfl (any_of HT_.out (by kernel_rfl)) (fun _ _ _ h => h) (Or.inl ⟨by rfl, ?_⟩) ?_ ?_
                    rotate_left
                    ·intro w'
                     go_simp
                     with_reducible rfl
                    rotate_left
                    ·simp only [Act.put, sA, sZ, sS, i64_w, i32_w]
                     rfl
                    refine pure_ (i := 1) (N := some 106) (v := ?_) (a' := ?_) (bl 14 3) rfl rfl (any_of HT_.out (by kernel_rfl)) (fun _ _ _ h => h) (Or.inl ⟨by rfl, ?_⟩) ?_ ?_
                    rotate_left
                    ·intro w'
                     go_simp
                     with_reducible rfl
                    rotate_left
                    ·simp only [Act.put, sA, sZ, sS, i64_w, i32_w]
                     rfl
                    refine pure_ (i := 2) (N := some 107) (v := undef) (a' := ?_) (bl 14 7) rfl rfl (any_of HT_.out (by kernel_rfl)) (fun _ _ _ h => h) (Or.inr ⟨by rfl, rfl⟩) ?_ ?_
                    rotate_left
                    ·simp only [Act.put, sA, sZ, sS, i64_w, i32_w]
                     rfl
                    refine pure_ (i := 3) (N := some 108) (v := undef) (a' := ?_) (bl 14 15) rfl rfl (any_of HT_.out (by kernel_rfl)) (fun _ _ _ h => h) (Or.inr ⟨by rfl, rfl⟩) ?_ ?_
                    rotate_left
                    ·simp only [Act.put, sA, sZ, sS, i64_w, i32_w]
                     rfl
                    refine pure_ (i := 4) (N := some 109) (v := undef) (a' := ?_) (bl 14 31) rfl rfl (any_of HT_.out (by kernel_rfl)) (fun _ _ _ h => h) (Or.inr ⟨by rfl, rfl⟩) ?_ ?_
                    rotate_left
                    ·simp only [Act.put, sA, sZ, sS, i64_w, i32_w]
                     rfl
                    refine pure_ (i := 5) (N := some 110) (v := undef) (a' := ?_) (bl 14 63) rfl rfl (any_of HT_.out (by kernel_rfl)) (fun _ _ _ h => h) (Or.inr ⟨by rfl, rfl⟩) ?_ ?_
                    rotate_left
                    ·simp only [Act.put, sA, sZ, sS, i64_w, i32_w]
                     rfl
                    refine pure_ (i := 6) (N := some 111) (v := undef) (a' := ?_) (bl 14 127) rfl rfl (any_of HT_.out (by kernel_rfl)) (fun _ _ _ h => h) (Or.inr ⟨by rfl, rfl⟩) ?_ ?_
                    rotate_left
                    ·simp only [Act.put, sA, sZ, sS, i64_w, i32_w]
                     rfl
                    refine pure_ (i := 7) (N := some 112) (v := undef) (a' := ?_) (bl 14 255) rfl rfl (any_of HT_.out (by kernel_rfl)) (fun _ _ _ h => h) (Or.inr ⟨by rfl, rfl⟩) ?_ ?_
                    rotate_left
                    ·simp only [Act.put, sA, sZ, sS, i64_w, i32_w]
                     rfl
                    refine pure_ (i := 8) (N := some 113) (v := undef) (a' := ?_) (bl 14 511) rfl rfl (any_of HT_.out (by kernel_rfl)) (fun _ _ _ h => h) (Or.inr ⟨by rfl, rfl⟩) ?_ ?_
                    rotate_left
                    ·simp only [Act.put, sA, sZ, sS, i64_w, i32_w]
                     rfl
                    refine pure_ (i := 9) (N := some 114) (v := undef) (a' := ?_) (bl 14 1023) rfl rfl (any_of HT_.out (by kernel_rfl)) (fun _ _ _ h => h) (Or.inr ⟨by rfl, rfl⟩) ?_ ?_
                    rotate_left
                    ·simp only [Act.put, sA, sZ, sS, i64_w, i32_w]
                     rfl
                    refine pure_ (i := 10) (N := some 115) (v := undef) (a' := ?_) (bl 14 2047) rfl rfl (any_of HT_.out (by kernel_rfl)) (fun _ _ _ h => h) (Or.inr ⟨by rfl, rfl⟩) ?_ ?_
                    rotate_left
                    ·simp only [Act.put, sA, sZ, sS, i64_w, i32_w]
                     rfl
                    refine pure_ (i := 11) (N := some 116) (v := undef) (a' := ?_) (bl 14 4095) rfl rfl (any_of HT_.out (by kernel_rfl)) (fun _ _ _ h => h) (Or.inr ⟨by rfl, rfl⟩) ?_ ?_
                    rotate_left
                    ·simp only [Act.put, sA, sZ, sS, i64_w, i32_w]
                     rfl
                    refine pure_ (i := 12) (N := some 117) (v := ?_) (a' := ?_) (bl 14 8191) rfl rfl (any_of HT_.out (by kernel_rfl)) (fun _ _ _ h => h) (Or.inl ⟨by rfl, ?_⟩) ?_ ?_
                    rotate_left
                    ·intro w'
                     go_simp
                     with_reducible rfl
                    rotate_left
                    ·simp only [Act.put, sA, sZ, sS, i64_w, i32_w]
                     rfl
                    refine pure_ (i := 13) (N := some 8) (v := ?_) (a' := ?_) (bl 14 16383) rfl rfl (any_of HT_.out (by kernel_rfl)) (fun _ _ _ h => h) (Or.inl ⟨by rfl, ?_⟩) ?_ ?_
                    rotate_left
                    ·intro w'
                     go_simp
                     with_reducible rfl
                    rotate_left
                    ·simp only [Act.put, sA, sZ, sS, i64_w, i32_w]
                     rfl
                    refine done_ (done_of HT_.out (by kernel_rfl)) ?_
                    try go_wp2
                    go_roundg k5
                    case measure => have := HJ4.out; have := HK2.out; have := HJ16.out; have := HJ22.out; have := HK5.out; omega
                    case rel => exact ⟨(true), (wrap64 (x17_5 + 1)), (by first | rfl | (simp; done) | (simp [*]; done)), (by first | rfl | (simp; done) | (simp [*]; done)), H', ⟨by have := HJ4.out; have := HK2.out; have := HJ16.out; have := HJ22.out; have := HK5.out; omega⟩, ⟨by (with_reducible repeat (first | apply Ra | apply Rn | apply Rd)); exact HO_10.out⟩, ⟨by (with_reducible repeat (first | apply Ra | apply Rn | apply Rd)); exact HO_16.out⟩, ⟨by (with_reducible repeat (first | refine bN ?_ _ | refine bD ?_ | refine bA ?_ _)); exact BK107.out⟩, ⟨by repeat (first | (with_reducible first | exact HB.out | apply lA | apply lN | apply lD | refine lS ?_ GE107.out) | exact HB.out)⟩⟩
                   ·replace c39 := Bool.eq_false_iff.mpr c39
                    subst c39
                    have H1 : (if 0 ≤ x11_2 then (if x11_2 < (t102.length : Int) then (if 0 ≤ x17_5 then ((cfg_Taints.f k5 l0 (rd t102 x11_2) (rdOf ByteArray.empty t112 x17_5)).bind fun t117 => (lambrequinlaw20_CfgTaint.l1 k5 l0 a1 a2 t101 t117 false t102 x11_2 true t112 (wrap64 (x17_5 + 1)) ((rd_T30 l0 (rd t102 x11_2)).kind) ((rd_T30 l0 (rd t102 x11_2)).x) ((rd_T30 l0 (rd t102 x11_2)).y) ((rd_T30 l0 (rd t102 x11_2)).z) ((rd_T30 l0 (rd t102 x11_2)).op) ((rd_T30 l0 (rd t102 x11_2)).n) ((rd_T30 l0 (rd t102 x11_2)).a) ((rd_T30 l0 (rd t102 x11_2)).b))) else (none)) else (none)) else (none)) = some r := by rw [if_neg (show ¬ (false = true) by decide)] at H; exact H
                    clear H
                    have H := H1
                    clear H1
                    by_cases c43 : 0 ≤ x11_2
                    ·rw [if_pos c43] at H
                     have c43b0 : decide (0 ≤ x11_2) = true := decide_eq_true c43
                     clear c43
                     by_cases c44 : x11_2 < (t102.length : Int)
                     ·rw [if_pos c44] at H
                      have c44b0 : decide (x11_2 < (t102.length : Int)) = true := decide_eq_true c44
                      clear c44
                      by_cases c45 : 0 ≤ x17_5
                      ·rw [if_pos c45] at H
                       have c45b0 : decide (0 ≤ x17_5) = true := decide_eq_true c45
                       clear c45
                       replace H := Option.bind_eq_some_iff.mp H
                       obtain ⟨t117, A460, H⟩ := H
                       replace H : (lambrequinlaw20_CfgTaint.l1 k5 l0 a1 a2 t101 t117 false t102 x11_2 true t112 (wrap64 (x17_5 + 1)) ((rd_T30 l0 (rd t102 x11_2)).kind) ((rd_T30 l0 (rd t102 x11_2)).x) ((rd_T30 l0 (rd t102 x11_2)).y) ((rd_T30 l0 (rd t102 x11_2)).z) ((rd_T30 l0 (rd t102 x11_2)).op) ((rd_T30 l0 (rd t102 x11_2)).n) ((rd_T30 l0 (rd t102 x11_2)).a) ((rd_T30 l0 (rd t102 x11_2)).b)) = some r := H
                       have A46 := am A460
                       clear A460
                       have H' := am H
                       clear H
                       obtain ⟨Ao47, co47, eo47⟩ := Kd.R_slice HO_16.out
                       subst eo47
                       have hcz48_0 : wr.cell? ⟨gb107, 0, none⟩ = some (.int .i64 ((rd_T30 l0 (rd t102 x11_2)).kind)) := (blk_cell BK107.out 0).trans rfl
                       have hcz48_1 : wr.cell? ⟨gb107, 1, none⟩ = some (.string ((rd_T30 l0 (rd t102 x11_2)).x)) := (blk_cell BK107.out 1).trans rfl
                       have hcz48_2 : wr.cell? ⟨gb107, 2, none⟩ = some (.string ((rd_T30 l0 (rd t102 x11_2)).y)) := (blk_cell BK107.out 2).trans rfl
                       have hcz48_3 : wr.cell? ⟨gb107, 3, none⟩ = some (.string ((rd_T30 l0 (rd t102 x11_2)).z)) := (blk_cell BK107.out 3).trans rfl
                       have hcz48_4 : wr.cell? ⟨gb107, 4, none⟩ = some (.string ((rd_T30 l0 (rd t102 x11_2)).op)) := (blk_cell BK107.out 4).trans rfl
                       have hcz48_5 : wr.cell? ⟨gb107, 5, none⟩ = some (.int .i64 ((rd_T30 l0 (rd t102 x11_2)).n)) := (blk_cell BK107.out 5).trans rfl
                       have hcz48_6 : wr.cell? ⟨gb107, 6, none⟩ = some (.int .i64 ((rd_T30 l0 (rd t102 x11_2)).a)) := (blk_cell BK107.out 6).trans rfl
                       have hcz48_7 : wr.cell? ⟨gb107, 7, none⟩ = some (.int .i64 ((rd_T30 l0 (rd t102 x11_2)).b)) := (blk_cell BK107.out 7).trans rfl
                       have hfz48_0 := blk_frozen BK107.out 0
                       have hfz48_1 := blk_frozen BK107.out 1
                       have hfz48_2 := blk_frozen BK107.out 2
                       have hfz48_3 := blk_frozen BK107.out 3
                       have hfz48_4 := blk_frozen BK107.out 4
                       have hfz48_5 := blk_frozen BK107.out 5
                       have hfz48_6 := blk_frozen BK107.out 6
                       have hfz48_7 := blk_frozen BK107.out 7
                       try go_wp2
                       replace HO_10 := am (Kd.R_drew HO_10.out)
                       replace HO_16 := am (Kd.R_drew HO_16.out)
                       replace BK107 := am (blk_drew BK107.out)
                       replace HB := am (below_drew1 HB.out)
                       have p115 : 0 ≤ (x11_2 : Int) := of_decide_eq_true (by first | (with_reducible assumption) | assumption)
                       have q115 : x11_2 < (t102.length : Int) := of_decide_eq_true (by first | (with_reducible assumption) | assumption)
                       obtain ⟨ad115, e115, hx115_0⟩ := Kd.at_int (Kd.R_reads' HO_10.out).2.2 x11_2 p115 q115
                       obtain rfl : ad105 = ad115 := (by injection e115)
                       replace p115 := eq_true p115
                       replace q115 := eq_true q115
                       have p116 : 0 ≤ (x17_5 : Int) := of_decide_eq_true (by first | (with_reducible assumption) | assumption)
                       have q116 : x17_5 < (t112.length : Int) := of_decide_eq_true (by first | (with_reducible assumption) | assumption)
                       obtain ⟨ad116, e116, hx116_0⟩ := Kd.at_string (Kd.R_reads' HO_16.out).2.2 x17_5 p116 q116
                       cases e116
                       replace p116 := eq_true p116
                       replace q116 := eq_true q116
                       refine start_ (n := 14) (S := fun w' => w'.cell? (ad105.add (x11_2).toNat) = some (.int .i64 (rd t102 x11_2)) ∧ w'.cell? (ad116.add (x17_5).toNat) = some (.string (rdOf ByteArray.empty t112 x17_5))) (ds := []) (bl 14 0) (by kernel_rfl) rfl rfl ⟨hx115_0, hx116_0⟩ (fun hHeld => ?_); refine with_tabW lambrequinlaw20_CfgTaint.tab18 lambrequinlaw20_CfgTaint.bits18 (fun HT_ HW_ => ?_)
                       generalize wr.drew = w49 at HO_10 HO_16 BK107 HB hx115_0 hx116_0 hHeld ⊢
                       refine pure_ (i := 0) (N := some 105) (v := ?_) (a' := ?_) (bl 14 1) rfl rfl (any_of HT_.out (by kernel_rfl)) (fun _ _ _ h => h) (Or.inl ⟨by rfl, ?_⟩) ?_ ?_
                       rotate_left
                       ·intro w'
                        go_simp
                        with_reducible rfl
                       rotate_left
                       ·simp only [Act.put, sA, sZ, sS, i64_w, i32_w]
                        rfl
                       refine pure_ (i := 1) (N := some 106) (v := ?_) (a' := ?_) (bl 14 3) rfl rfl (any_of HT_.out (by kernel_rfl)) (fun _ _ _ h => h) (Or.inl ⟨by rfl, ?_⟩) ?_ ?_
                       rotate_left
                       ·intro w'
                        go_simp
                        with_reducible rfl
                       rotate_left
                       ·simp only [Act.put, sA, sZ, sS, i64_w, i32_w]
                        rfl
                       refine pure_ (i := 2) (N := some 107) (v := ?_) (a' := ?_) (bl 14 7) rfl rfl (any_of HT_.out (by kernel_rfl)) (fun _ _ _ h => h) (Or.inl ⟨by rfl, ?_⟩) ?_ ?_
                       rotate_left
                       ·intro w'
                        go_simp
                        with_reducible rfl
                       rotate_left
                       ·simp only [Act.put, sA, sZ, sS, i64_w, i32_w]
                        rfl
                       refine pure_ (i := 3) (N := some 108) (v := ?_) (a' := ?_) (bl 14 15) rfl rfl (any_of HT_.out (by kernel_rfl)) (fun _ _ _ h => h) (Or.inl ⟨by rfl, ?_⟩) ?_ ?_
                       rotate_left
                       ·intro w'
                        go_simp
                        with_reducible rfl
                       rotate_left
                       ·simp only [Act.put, sA, sZ, sS, i64_w, i32_w]
                        rfl
                       refine pure_ (i := 4) (N := some 109) (v := ?_) (a' := ?_) (bl 14 31) rfl rfl (any_of HT_.out (by kernel_rfl)) (fun _ _ _ h => h) (Or.inl ⟨by rfl, ?_⟩) ?_ ?_
                       rotate_left
                       ·intro w'
                        go_simp
                        with_reducible rfl
                       rotate_left
                       ·simp only [Act.put, sA, sZ, sS, i64_w, i32_w]
                        rfl
                       refine pure_ (i := 5) (N := some 110) (v := ?_) (a' := ?_) (bl 14 63) rfl rfl (any_of HT_.out (by kernel_rfl)) (fun _ _ _ h => h) (Or.inl ⟨by rfl, ?_⟩) ?_ ?_
                       rotate_left
                       ·intro w'
                        go_simp
                        with_reducible rfl
                       rotate_left
                       ·simp only [Act.put, sA, sZ, sS, i64_w, i32_w]
                        rfl
                       refine pure_ (i := 7) (N := some 112) (v := ?_) (a' := ?_) (bl 14 191) rfl rfl (any_of HT_.out (by kernel_rfl)) (fun _ _ _ h => h) (Or.inl ⟨by rfl, ?_⟩) ?_ ?_
                       rotate_left
                       ·intro w'
                        go_simp
                        with_reducible rfl
                       rotate_left
                       ·simp only [Act.put, sA, sZ, sS, i64_w, i32_w]
                        rfl
                       refine pure_ (i := 8) (N := some 113) (v := ?_) (a' := ?_) (bl 14 447) rfl rfl (any_of HT_.out (by kernel_rfl)) (fun _ _ _ h => h) (Or.inl ⟨by rfl, ?_⟩) ?_ ?_
                       rotate_left
                       ·intro w'
                        go_simp
                        with_reducible rfl
                       rotate_left
                       ·simp only [Act.put, sA, sZ, sS, i64_w, i32_w]
                        rfl
                       refine pure_ (i := 9) (N := some 114) (v := ?_) (a' := ?_) (bl 14 959) rfl rfl (any_of HT_.out (by kernel_rfl)) (fun _ _ _ h => h) (Or.inl ⟨by rfl, ?_⟩) ?_ ?_
                       rotate_left
                       ·intro w'
                        go_simp
                        with_reducible rfl
                       rotate_left
                       ·simp only [Act.put, sA, sZ, sS, i64_w, i32_w]
                        rfl
                       refine take_ (i := 6) (N := some 111) (v := ?_) (a' := ?_) (bl 14 1023) rfl rfl (take_ofW HT_.out HW_.out (by kernel_rfl)) (fun _ _ _ h => h) (Or.inl ⟨by rfl, ?_⟩) hHeld ?_ ?_
                       rotate_left
                       ·rintro w' ⟨s0, s1⟩
                        go_simp
                        with_reducible rfl
                       rotate_left
                       ·simp only [Act.put, sA, sZ, sS, i64_w, i32_w]
                        rfl
                       refine take_ (i := 10) (N := some 115) (v := ?_) (a' := ?_) (bl 14 2047) rfl rfl (take_ofW HT_.out HW_.out (by kernel_rfl)) (fun _ _ _ h => h) (Or.inl ⟨by rfl, ?_⟩) hHeld ?_ ?_
                       rotate_left
                       ·rintro w' ⟨s0, s1⟩
                        go_simp
                        with_reducible rfl
                       rotate_left
                       ·simp only [Act.put, sA, sZ, sS, i64_w, i32_w]
                        rfl
                       refine one_ (i := 11) (N := some 116) (bl 14 4095) rfl rfl (one_of HT_.out (by kernel_rfl)) (by decide) (fun K hK => ?_)
                       refine goes_ Try.func40 (by kernel_rfl) rfl #[.slice (some ad106) l0.length c0, .int .i64 (rd t102 x11_2), .string (rdOf ByteArray.empty t112 x17_5)] (by rfl) rfl rfl (by (try simp only [List.map_toArray, List.map_cons, List.map_nil]); first | done | rfl | (simp only [List.length_drop, List.length_take]; rfl)) ?_
                       with_reducible refine (cfg_Taints.calls k5 _ _ l0 (rd t102 x11_2) (rdOf ByteArray.empty t112 x17_5) t117 _ ?side1 ?side2 A46.out).mono ?_
                       (case side1 => repeat (first | exact (Kd.C_below HR0.out HB.out) | (with_reducible refine Kd.C_alloc ?_ _) | (with_reducible refine Kd.C_drewN ?_ _) | (with_reducible refine Kd.C_drew ?_)))
                       (case side2 => exact HC0.out)
                       rintro e w50 ⟨rfl, hb⟩
                       have HS0_ := (hb.cell (blt_ (hHeld.1))).trans (hHeld.1)
                       have HS1_ := (hb.cell (blt_ (hHeld.2))).trans (hHeld.2)
                       refine ⟨_, rfl, ?_⟩
                       replace HO_10 := am (Kd.R_below (by (with_reducible repeat (first | apply Ra | apply Rn | apply Rd)); exact HO_10.out) hb)
                       replace HO_16 := am (Kd.R_below (by (with_reducible repeat (first | apply Ra | apply Rn | apply Rd)); exact HO_16.out) hb)
                       replace BK107 := am (blk_below (g := gb107) (o := .cells #[.int .i64 ((rd_T30 l0 (rd t102 x11_2)).kind), .string ((rd_T30 l0 (rd t102 x11_2)).x), .string ((rd_T30 l0 (rd t102 x11_2)).y), .string ((rd_T30 l0 (rd t102 x11_2)).z), .string ((rd_T30 l0 (rd t102 x11_2)).op), .int .i64 ((rd_T30 l0 (rd t102 x11_2)).n), .int .i64 ((rd_T30 l0 (rd t102 x11_2)).a), .int .i64 ((rd_T30 l0 (rd t102 x11_2)).b)] 30 (0, 0)) (by (with_reducible repeat (first | refine bN ?_ _ | refine bD ?_ | refine bA ?_ _)); exact BK107.out) hb)
                       replace HB := am (below_step (by repeat (first | (with_reducible first | exact HB.out | apply lA | apply lN | apply lD | refine lS ?_ GE107.out) | exact HB.out)) hb)
                       (try clear hb)
                       (try clear hb2)
                       (try clear hk)
                       (try clear hi)
                       refine hK.out _ _ ⟨HS0_, HS1_⟩ (fun hHeld => ?_)
                       clear hK K
                       refine norm_ (a' := ?_) ?_ ?_
                       rotate_left
                       ·show Act.put _ (some 116) _ = _
                        simp only [Act.put, sA, sZ, sS, i64_w, i32_w]
                        rfl
                       refine pure_ (i := 12) (N := some 117) (v := ?_) (a' := ?_) (bl 14 8191) rfl rfl (any_of HT_.out (by kernel_rfl)) (fun _ _ _ h => h) (Or.inl ⟨by rfl, ?_⟩) ?_ ?_
                       rotate_left
                       ·intro w'
                        go_simp
                        with_reducible rfl
                       rotate_left
                       ·simp only [Act.put, sA, sZ, sS, i64_w, i32_w]
                        rfl
                       refine pure_ (i := 13) (N := some 8) (v := ?_) (a' := ?_) (bl 14 16383) rfl rfl (any_of HT_.out (by kernel_rfl)) (fun _ _ _ h => h) (Or.inl ⟨by rfl, ?_⟩) ?_ ?_
                       rotate_left
                       ·intro w'
                        go_simp
                        with_reducible rfl
                       rotate_left
                       ·simp only [Act.put, sA, sZ, sS, i64_w, i32_w]
                        rfl
                       refine done_ (done_of HT_.out (by kernel_rfl)) ?_
                       try go_wp2
                       go_roundg k5
                       case measure => have := HJ4.out; have := HK2.out; have := HJ16.out; have := HJ22.out; have := HK5.out; omega
                       case rel => exact ⟨(t117), (wrap64 (x17_5 + 1)), (by first | rfl | (simp; done) | (simp [*]; done)), (by first | rfl | (simp; done) | (simp [*]; done)), H', ⟨by have := HJ4.out; have := HK2.out; have := HJ16.out; have := HJ22.out; have := HK5.out; omega⟩, ⟨by (with_reducible repeat (first | apply Ra | apply Rn | apply Rd)); exact HO_10.out⟩, ⟨by (with_reducible repeat (first | apply Ra | apply Rn | apply Rd)); exact HO_16.out⟩, ⟨by (with_reducible repeat (first | refine bN ?_ _ | refine bD ?_ | refine bA ?_ _)); exact BK107.out⟩, ⟨by repeat (first | (with_reducible first | exact HB.out | apply lA | apply lN | apply lD | refine lS ?_ GE107.out) | exact HB.out)⟩⟩
                      ·rw [if_neg c45] at H
                       exact absurd H (by simp)
                     ·rw [if_neg c44] at H
                      exact absurd H (by simp)
                    ·rw [if_neg c43] at H
                     exact absurd H (by simp)
                  ·rw [if_neg c38] at H
                   have c38b0 : (((rd_T30 l0 (rd t102 x11_2)).kind) == 2) = false := beq_eq_false_iff_ne.mpr c38
                   have c38b1 : (((rd_T30 l0 (rd t102 x11_2)).kind) != 2) = true := bne_iff_ne.mpr c38
                   by_cases c51 : ((rd_T30 l0 (rd t102 x11_2)).kind) = 3
                   ·rw [if_pos c51] at H
                    have c51b0 : (((rd_T30 l0 (rd t102 x11_2)).kind) == 3) = true := beq_iff_eq.mpr c51
                    have c51b1 : (((rd_T30 l0 (rd t102 x11_2)).kind) != 3) = false := bne_eq_false_iff_eq.mpr c51
                    clear c51
                    by_cases c52 : x8_5 = true
                    ·subst c52
                     have H1 : (lambrequinlaw20_CfgTaint.l1 k5 l0 a1 a2 t101 true false t102 x11_2 true t112 (wrap64 (x17_5 + 1)) ((rd_T30 l0 (rd t102 x11_2)).kind) ((rd_T30 l0 (rd t102 x11_2)).x) ((rd_T30 l0 (rd t102 x11_2)).y) ((rd_T30 l0 (rd t102 x11_2)).z) ((rd_T30 l0 (rd t102 x11_2)).op) ((rd_T30 l0 (rd t102 x11_2)).n) ((rd_T30 l0 (rd t102 x11_2)).a) ((rd_T30 l0 (rd t102 x11_2)).b)) = some r := by rw [if_pos rfl] at H; exact H
                     clear H
                     have H := H1
                     clear H1
                     have H' := am H
                     clear H
                     obtain ⟨Ao53, co53, eo53⟩ := Kd.R_slice HO_16.out
                     subst eo53
                     have hcz54_0 : wr.cell? ⟨gb107, 0, none⟩ = some (.int .i64 ((rd_T30 l0 (rd t102 x11_2)).kind)) := (blk_cell BK107.out 0).trans rfl
                     have hcz54_1 : wr.cell? ⟨gb107, 1, none⟩ = some (.string ((rd_T30 l0 (rd t102 x11_2)).x)) := (blk_cell BK107.out 1).trans rfl
                     have hcz54_2 : wr.cell? ⟨gb107, 2, none⟩ = some (.string ((rd_T30 l0 (rd t102 x11_2)).y)) := (blk_cell BK107.out 2).trans rfl
                     have hcz54_3 : wr.cell? ⟨gb107, 3, none⟩ = some (.string ((rd_T30 l0 (rd t102 x11_2)).z)) := (blk_cell BK107.out 3).trans rfl
                     have hcz54_4 : wr.cell? ⟨gb107, 4, none⟩ = some (.string ((rd_T30 l0 (rd t102 x11_2)).op)) := (blk_cell BK107.out 4).trans rfl
                     have hcz54_5 : wr.cell? ⟨gb107, 5, none⟩ = some (.int .i64 ((rd_T30 l0 (rd t102 x11_2)).n)) := (blk_cell BK107.out 5).trans rfl
                     have hcz54_6 : wr.cell? ⟨gb107, 6, none⟩ = some (.int .i64 ((rd_T30 l0 (rd t102 x11_2)).a)) := (blk_cell BK107.out 6).trans rfl
                     have hcz54_7 : wr.cell? ⟨gb107, 7, none⟩ = some (.int .i64 ((rd_T30 l0 (rd t102 x11_2)).b)) := (blk_cell BK107.out 7).trans rfl
                     have hfz54_0 := blk_frozen BK107.out 0
                     have hfz54_1 := blk_frozen BK107.out 1
                     have hfz54_2 := blk_frozen BK107.out 2
                     have hfz54_3 := blk_frozen BK107.out 3
                     have hfz54_4 := blk_frozen BK107.out 4
                     have hfz54_5 := blk_frozen BK107.out 5
                     have hfz54_6 := blk_frozen BK107.out 6
                     have hfz54_7 := blk_frozen BK107.out 7
                     try go_wp2
                     replace HO_10 := am (Kd.R_drew HO_10.out)
                     replace HO_16 := am (Kd.R_drew HO_16.out)
                     replace BK107 := am (blk_drew BK107.out)
                     replace HB := am (below_drew1 HB.out)
                     refine start_ (n := 14) (S := fun w' => True) (ds := []) (bl 14 0) (by kernel_rfl) rfl rfl trivial (fun hHeld => ?_); refine with_tabW lambrequinlaw20_CfgTaint.tab18 lambrequinlaw20_CfgTaint.bits18 (fun HT_ HW_ => ?_)
                     generalize wr.drew = w55 at HO_10 HO_16 BK107 HB hHeld ⊢
                     refine pure_ (i := 0) (N := some 105) (v := ?_) (a' := ?_) (bl 14 1) rfl rfl (any_of HT_.out (by kernel_rfl)) (fun _ _ _ h => h) (Or.inl ⟨by rfl, ?_⟩) ?_ ?_
                     rotate_left
                     ·intro w'
                      go_simp
                      with_reducible rfl
                     rotate_left
                     ·simp only [Act.put, sA, sZ, sS, i64_w, i32_w]
                      rfl
                     refine pure_ (i := 1) (N := some 106) (v := ?_) (a' := ?_) (bl 14 3) rfl rfl (any_of HT_.out (by kernel_rfl)) (fun _ _ _ h => h) (Or.inl ⟨by rfl, ?_⟩) ?_ ?_
                     rotate_left
                     ·intro w'
                      go_simp
                      with_reducible rfl
                     rotate_left
                     ·simp only [Act.put, sA, sZ, sS, i64_w, i32_w]
                      rfl
                     refine pure_ (i := 2) (N := some 107) (v := undef) (a' := ?_) (bl 14 7) rfl rfl (any_of HT_.out (by kernel_rfl)) (fun _ _ _ h => h) (Or.inr ⟨by rfl, rfl⟩) ?_ ?_
                     rotate_left
                     ·simp only [Act.put, sA, sZ, sS, i64_w, i32_w]
                      rfl
                     refine pure_ (i := 3) (N := some 108) (v := undef) (a' := ?_) (bl 14 15) rfl rfl (any_of HT_.out (by kernel_rfl)) (fun _ _ _ h => h) (Or.inr ⟨by rfl, rfl⟩) ?_ ?_
                     rotate_left
                     ·simp only [Act.put, sA, sZ, sS, i64_w, i32_w]
                      rfl
                     refine pure_ (i := 4) (N := some 109) (v := undef) (a' := ?_) (bl 14 31) rfl rfl (any_of HT_.out (by kernel_rfl)) (fun _ _ _ h => h) (Or.inr ⟨by rfl, rfl⟩) ?_ ?_
                     rotate_left
                     ·simp only [Act.put, sA, sZ, sS, i64_w, i32_w]
                      rfl
                     refine pure_ (i := 5) (N := some 110) (v := undef) (a' := ?_) (bl 14 63) rfl rfl (any_of HT_.out (by kernel_rfl)) (fun _ _ _ h => h) (Or.inr ⟨by rfl, rfl⟩) ?_ ?_
                     rotate_left
                     ·simp only [Act.put, sA, sZ, sS, i64_w, i32_w]
                      rfl
                     refine pure_ (i := 6) (N := some 111) (v := undef) (a' := ?_) (bl 14 127) rfl rfl (any_of HT_.out (by kernel_rfl)) (fun _ _ _ h => h) (Or.inr ⟨by rfl, rfl⟩) ?_ ?_
                     rotate_left
                     ·simp only [Act.put, sA, sZ, sS, i64_w, i32_w]
                      rfl
                     refine pure_ (i := 7) (N := some 112) (v := undef) (a' := ?_) (bl 14 255) rfl rfl (any_of HT_.out (by kernel_rfl)) (fun _ _ _ h => h) (Or.inr ⟨by rfl, rfl⟩) ?_ ?_
                     rotate_left
                     ·simp only [Act.put, sA, sZ, sS, i64_w, i32_w]
                      rfl
                     refine pure_ (i := 8) (N := some 113) (v := undef) (a' := ?_) (bl 14 511) rfl rfl (any_of HT_.out (by kernel_rfl)) (fun _ _ _ h => h) (Or.inr ⟨by rfl, rfl⟩) ?_ ?_
                     rotate_left
                     ·simp only [Act.put, sA, sZ, sS, i64_w, i32_w]
                      rfl
                     refine pure_ (i := 9) (N := some 114) (v := undef) (a' := ?_) (bl 14 1023) rfl rfl (any_of HT_.out (by kernel_rfl)) (fun _ _ _ h => h) (Or.inr ⟨by rfl, rfl⟩) ?_ ?_
                     rotate_left
                     ·simp only [Act.put, sA, sZ, sS, i64_w, i32_w]
                      rfl
                     refine pure_ (i := 10) (N := some 115) (v := undef) (a' := ?_) (bl 14 2047) rfl rfl (any_of HT_.out (by kernel_rfl)) (fun _ _ _ h => h) (Or.inr ⟨by rfl, rfl⟩) ?_ ?_
                     rotate_left
                     ·simp only [Act.put, sA, sZ, sS, i64_w, i32_w]
                      rfl
                     refine pure_ (i := 11) (N := some 116) (v := undef) (a' := ?_) (bl 14 4095) rfl rfl (any_of HT_.out (by kernel_rfl)) (fun _ _ _ h => h) (Or.inr ⟨by rfl, rfl⟩) ?_ ?_
                     rotate_left
                     ·simp only [Act.put, sA, sZ, sS, i64_w, i32_w]
                      rfl
                     refine pure_ (i := 12) (N := some 117) (v := ?_) (a' := ?_) (bl 14 8191) rfl rfl (any_of HT_.out (by kernel_rfl)) (fun _ _ _ h => h) (Or.inl ⟨by rfl, ?_⟩) ?_ ?_
                     rotate_left
                     ·intro w'
                      go_simp
                      with_reducible rfl
                     rotate_left
                     ·simp only [Act.put, sA, sZ, sS, i64_w, i32_w]
                      rfl
                     refine pure_ (i := 13) (N := some 8) (v := ?_) (a' := ?_) (bl 14 16383) rfl rfl (any_of HT_.out (by kernel_rfl)) (fun _ _ _ h => h) (Or.inl ⟨by rfl, ?_⟩) ?_ ?_
                     rotate_left
                     ·intro w'
                      go_simp
                      with_reducible rfl
                     rotate_left
                     ·simp only [Act.put, sA, sZ, sS, i64_w, i32_w]
                      rfl
                     refine done_ (done_of HT_.out (by kernel_rfl)) ?_
                     try go_wp2
                     go_roundg k5
                     case measure => have := HJ4.out; have := HK2.out; have := HJ16.out; have := HJ22.out; have := HK5.out; omega
                     case rel => exact ⟨(true), (wrap64 (x17_5 + 1)), (by first | rfl | (simp; done) | (simp [*]; done)), (by first | rfl | (simp; done) | (simp [*]; done)), H', ⟨by have := HJ4.out; have := HK2.out; have := HJ16.out; have := HJ22.out; have := HK5.out; omega⟩, ⟨by (with_reducible repeat (first | apply Ra | apply Rn | apply Rd)); exact HO_10.out⟩, ⟨by (with_reducible repeat (first | apply Ra | apply Rn | apply Rd)); exact HO_16.out⟩, ⟨by (with_reducible repeat (first | refine bN ?_ _ | refine bD ?_ | refine bA ?_ _)); exact BK107.out⟩, ⟨by repeat (first | (with_reducible first | exact HB.out | apply lA | apply lN | apply lD | refine lS ?_ GE107.out) | exact HB.out)⟩⟩
                    ·replace c52 := Bool.eq_false_iff.mpr c52
                     subst c52
                     have H1 : (if 0 ≤ x11_2 then (if x11_2 < (t102.length : Int) then (if 0 ≤ x17_5 then ((cfg_Taints.f k5 l0 (rd t102 x11_2) (rdOf ByteArray.empty t112 x17_5)).bind fun t120 => (lambrequinlaw20_CfgTaint.l1 k5 l0 a1 a2 t101 t120 false t102 x11_2 true t112 (wrap64 (x17_5 + 1)) ((rd_T30 l0 (rd t102 x11_2)).kind) ((rd_T30 l0 (rd t102 x11_2)).x) ((rd_T30 l0 (rd t102 x11_2)).y) ((rd_T30 l0 (rd t102 x11_2)).z) ((rd_T30 l0 (rd t102 x11_2)).op) ((rd_T30 l0 (rd t102 x11_2)).n) ((rd_T30 l0 (rd t102 x11_2)).a) ((rd_T30 l0 (rd t102 x11_2)).b))) else (none)) else (none)) else (none)) = some r := by rw [if_neg (show ¬ (false = true) by decide)] at H; exact H
                     clear H
                     have H := H1
                     clear H1
                     by_cases c56 : 0 ≤ x11_2
                     ·rw [if_pos c56] at H
                      have c56b0 : decide (0 ≤ x11_2) = true := decide_eq_true c56
                      clear c56
                      by_cases c57 : x11_2 < (t102.length : Int)
                      ·rw [if_pos c57] at H
                       have c57b0 : decide (x11_2 < (t102.length : Int)) = true := decide_eq_true c57
                       clear c57
                       by_cases c58 : 0 ≤ x17_5
                       ·rw [if_pos c58] at H
                        have c58b0 : decide (0 ≤ x17_5) = true := decide_eq_true c58
                        clear c58
                        replace H := Option.bind_eq_some_iff.mp H
                        obtain ⟨t120, A590, H⟩ := H
                        replace H : (lambrequinlaw20_CfgTaint.l1 k5 l0 a1 a2 t101 t120 false t102 x11_2 true t112 (wrap64 (x17_5 + 1)) ((rd_T30 l0 (rd t102 x11_2)).kind) ((rd_T30 l0 (rd t102 x11_2)).x) ((rd_T30 l0 (rd t102 x11_2)).y) ((rd_T30 l0 (rd t102 x11_2)).z) ((rd_T30 l0 (rd t102 x11_2)).op) ((rd_T30 l0 (rd t102 x11_2)).n) ((rd_T30 l0 (rd t102 x11_2)).a) ((rd_T30 l0 (rd t102 x11_2)).b)) = some r := H
                        have A59 := am A590
                        clear A590
                        have H' := am H
                        clear H
                        obtain ⟨Ao60, co60, eo60⟩ := Kd.R_slice HO_16.out
                        subst eo60
                        have hcz61_0 : wr.cell? ⟨gb107, 0, none⟩ = some (.int .i64 ((rd_T30 l0 (rd t102 x11_2)).kind)) := (blk_cell BK107.out 0).trans rfl
                        have hcz61_1 : wr.cell? ⟨gb107, 1, none⟩ = some (.string ((rd_T30 l0 (rd t102 x11_2)).x)) := (blk_cell BK107.out 1).trans rfl
                        have hcz61_2 : wr.cell? ⟨gb107, 2, none⟩ = some (.string ((rd_T30 l0 (rd t102 x11_2)).y)) := (blk_cell BK107.out 2).trans rfl
                        have hcz61_3 : wr.cell? ⟨gb107, 3, none⟩ = some (.string ((rd_T30 l0 (rd t102 x11_2)).z)) := (blk_cell BK107.out 3).trans rfl
                        have hcz61_4 : wr.cell? ⟨gb107, 4, none⟩ = some (.string ((rd_T30 l0 (rd t102 x11_2)).op)) := (blk_cell BK107.out 4).trans rfl
                        have hcz61_5 : wr.cell? ⟨gb107, 5, none⟩ = some (.int .i64 ((rd_T30 l0 (rd t102 x11_2)).n)) := (blk_cell BK107.out 5).trans rfl
                        have hcz61_6 : wr.cell? ⟨gb107, 6, none⟩ = some (.int .i64 ((rd_T30 l0 (rd t102 x11_2)).a)) := (blk_cell BK107.out 6).trans rfl
                        have hcz61_7 : wr.cell? ⟨gb107, 7, none⟩ = some (.int .i64 ((rd_T30 l0 (rd t102 x11_2)).b)) := (blk_cell BK107.out 7).trans rfl
                        have hfz61_0 := blk_frozen BK107.out 0
                        have hfz61_1 := blk_frozen BK107.out 1
                        have hfz61_2 := blk_frozen BK107.out 2
                        have hfz61_3 := blk_frozen BK107.out 3
                        have hfz61_4 := blk_frozen BK107.out 4
                        have hfz61_5 := blk_frozen BK107.out 5
                        have hfz61_6 := blk_frozen BK107.out 6
                        have hfz61_7 := blk_frozen BK107.out 7
                        try go_wp2
                        replace HO_10 := am (Kd.R_drew HO_10.out)
                        replace HO_16 := am (Kd.R_drew HO_16.out)
                        replace BK107 := am (blk_drew BK107.out)
                        replace HB := am (below_drew1 HB.out)
                        have p118 : 0 ≤ (x11_2 : Int) := of_decide_eq_true (by first | (with_reducible assumption) | assumption)
                        have q118 : x11_2 < (t102.length : Int) := of_decide_eq_true (by first | (with_reducible assumption) | assumption)
                        obtain ⟨ad118, e118, hx118_0⟩ := Kd.at_int (Kd.R_reads' HO_10.out).2.2 x11_2 p118 q118
                        obtain rfl : ad105 = ad118 := (by injection e118)
                        replace p118 := eq_true p118
                        replace q118 := eq_true q118
                        have p119 : 0 ≤ (x17_5 : Int) := of_decide_eq_true (by first | (with_reducible assumption) | assumption)
                        have q119 : x17_5 < (t112.length : Int) := of_decide_eq_true (by first | (with_reducible assumption) | assumption)
                        obtain ⟨ad119, e119, hx119_0⟩ := Kd.at_string (Kd.R_reads' HO_16.out).2.2 x17_5 p119 q119
                        cases e119
                        replace p119 := eq_true p119
                        replace q119 := eq_true q119
                        refine start_ (n := 14) (S := fun w' => w'.cell? (ad105.add (x11_2).toNat) = some (.int .i64 (rd t102 x11_2)) ∧ w'.cell? (ad119.add (x17_5).toNat) = some (.string (rdOf ByteArray.empty t112 x17_5))) (ds := []) (bl 14 0) (by kernel_rfl) rfl rfl ⟨hx118_0, hx119_0⟩ (fun hHeld => ?_); refine with_tabW lambrequinlaw20_CfgTaint.tab18 lambrequinlaw20_CfgTaint.bits18 (fun HT_ HW_ => ?_)
                        generalize wr.drew = w62 at HO_10 HO_16 BK107 HB hx118_0 hx119_0 hHeld ⊢
                        refine pure_ (i := 0) (N := some 105) (v := ?_) (a' := ?_) (bl 14 1) rfl rfl (any_of HT_.out (by kernel_rfl)) (fun _ _ _ h => h) (Or.inl ⟨by rfl, ?_⟩) ?_ ?_
                        rotate_left
                        ·intro w'
                         go_simp
                         with_reducible rfl
                        rotate_left
                        ·simp only [Act.put, sA, sZ, sS, i64_w, i32_w]
                         rfl
                        refine pure_ (i := 1) (N := some 106) (v := ?_) (a' := ?_) (bl 14 3) rfl rfl (any_of HT_.out (by kernel_rfl)) (fun _ _ _ h => h) (Or.inl ⟨by rfl, ?_⟩) ?_ ?_
                        rotate_left
                        ·intro w'
                         go_simp
                         with_reducible rfl
                        rotate_left
                        ·simp only [Act.put, sA, sZ, sS, i64_w, i32_w]
                         rfl
                        refine pure_ (i := 2) (N := some 107) (v := ?_) (a' := ?_) (bl 14 7) rfl rfl (any_of HT_.out (by kernel_rfl)) (fun _ _ _ h => h) (Or.inl ⟨by rfl, ?_⟩) ?_ ?_
                        rotate_left
                        ·intro w'
                         go_simp
                         with_reducible rfl
                        rotate_left
                        ·simp only [Act.put, sA, sZ, sS, i64_w, i32_w]
                         rfl
                        refine pure_ (i := 3) (N := some 108) (v := ?_) (a' := ?_) (bl 14 15) rfl rfl (any_of HT_.out (by kernel_rfl)) (fun _ _ _ h => h) (Or.inl ⟨by rfl, ?_⟩) ?_ ?_
                        rotate_left
                        ·intro w'
                         go_simp
                         with_reducible rfl
                        rotate_left
                        ·simp only [Act.put, sA, sZ, sS, i64_w, i32_w]
                         rfl
                        refine pure_ (i := 4) (N := some 109) (v := ?_) (a' := ?_) (bl 14 31) rfl rfl (any_of HT_.out (by kernel_rfl)) (fun _ _ _ h => h) (Or.inl ⟨by rfl, ?_⟩) ?_ ?_
                        rotate_left
                        ·intro w'
                         go_simp
                         with_reducible rfl
                        rotate_left
                        ·simp only [Act.put, sA, sZ, sS, i64_w, i32_w]
                         rfl
                        refine pure_ (i := 5) (N := some 110) (v := ?_) (a' := ?_) (bl 14 63) rfl rfl (any_of HT_.out (by kernel_rfl)) (fun _ _ _ h => h) (Or.inl ⟨by rfl, ?_⟩) ?_ ?_
                        rotate_left
                        ·intro w'
                         go_simp
                         with_reducible rfl
                        rotate_left
                        ·simp only [Act.put, sA, sZ, sS, i64_w, i32_w]
                         rfl
                        refine pure_ (i := 7) (N := some 112) (v := ?_) (a' := ?_) (bl 14 191) rfl rfl (any_of HT_.out (by kernel_rfl)) (fun _ _ _ h => h) (Or.inl ⟨by rfl, ?_⟩) ?_ ?_
                        rotate_left
                        ·intro w'
                         go_simp
                         with_reducible rfl
                        rotate_left
                        ·simp only [Act.put, sA, sZ, sS, i64_w, i32_w]
                         rfl
                        refine pure_ (i := 8) (N := some 113) (v := ?_) (a' := ?_) (bl 14 447) rfl rfl (any_of HT_.out (by kernel_rfl)) (fun _ _ _ h => h) (Or.inl ⟨by rfl, ?_⟩) ?_ ?_
                        rotate_left
                        ·intro w'
                         go_simp
                         with_reducible rfl
                        rotate_left
                        ·simp only [Act.put, sA, sZ, sS, i64_w, i32_w]
                         rfl
                        refine pure_ (i := 9) (N := some 114) (v := ?_) (a' := ?_) (bl 14 959) rfl rfl (any_of HT_.out (by kernel_rfl)) (fun _ _ _ h => h) (Or.inl ⟨by rfl, ?_⟩) ?_ ?_
                        rotate_left
                        ·intro w'
                         go_simp
                         with_reducible rfl
                        rotate_left
                        ·simp only [Act.put, sA, sZ, sS, i64_w, i32_w]
                         rfl
                        refine take_ (i := 6) (N := some 111) (v := ?_) (a' := ?_) (bl 14 1023) rfl rfl (take_ofW HT_.out HW_.out (by kernel_rfl)) (fun _ _ _ h => h) (Or.inl ⟨by rfl, ?_⟩) hHeld ?_ ?_
                        rotate_left
                        ·rintro w' ⟨s0, s1⟩
                         go_simp
                         with_reducible rfl
                        rotate_left
                        ·simp only [Act.put, sA, sZ, sS, i64_w, i32_w]
                         rfl
                        refine take_ (i := 10) (N := some 115) (v := ?_) (a' := ?_) (bl 14 2047) rfl rfl (take_ofW HT_.out HW_.out (by kernel_rfl)) (fun _ _ _ h => h) (Or.inl ⟨by rfl, ?_⟩) hHeld ?_ ?_
                        rotate_left
                        ·rintro w' ⟨s0, s1⟩
                         go_simp
                         with_reducible rfl
                        rotate_left
                        ·simp only [Act.put, sA, sZ, sS, i64_w, i32_w]
                         rfl
                        refine one_ (i := 11) (N := some 116) (bl 14 4095) rfl rfl (one_of HT_.out (by kernel_rfl)) (by decide) (fun K hK => ?_)
                        refine goes_ Try.func40 (by kernel_rfl) rfl #[.slice (some ad106) l0.length c0, .int .i64 (rd t102 x11_2), .string (rdOf ByteArray.empty t112 x17_5)] (by rfl) rfl rfl (by (try simp only [List.map_toArray, List.map_cons, List.map_nil]); first | done | rfl | (simp only [List.length_drop, List.length_take]; rfl)) ?_
                        with_reducible refine (cfg_Taints.calls k5 _ _ l0 (rd t102 x11_2) (rdOf ByteArray.empty t112 x17_5) t120 _ ?side1 ?side2 A59.out).mono ?_
                        (case side1 => repeat (first | exact (Kd.C_below HR0.out HB.out) | (with_reducible refine Kd.C_alloc ?_ _) | (with_reducible refine Kd.C_drewN ?_ _) | (with_reducible refine Kd.C_drew ?_)))
                        (case side2 => exact HC0.out)
                        rintro e w63 ⟨rfl, hb⟩
                        have HS0_ := (hb.cell (blt_ (hHeld.1))).trans (hHeld.1)
                        have HS1_ := (hb.cell (blt_ (hHeld.2))).trans (hHeld.2)
                        refine ⟨_, rfl, ?_⟩
                        replace HO_10 := am (Kd.R_below (by (with_reducible repeat (first | apply Ra | apply Rn | apply Rd)); exact HO_10.out) hb)
                        replace HO_16 := am (Kd.R_below (by (with_reducible repeat (first | apply Ra | apply Rn | apply Rd)); exact HO_16.out) hb)
                        replace BK107 := am (blk_below (g := gb107) (o := .cells #[.int .i64 ((rd_T30 l0 (rd t102 x11_2)).kind), .string ((rd_T30 l0 (rd t102 x11_2)).x), .string ((rd_T30 l0 (rd t102 x11_2)).y), .string ((rd_T30 l0 (rd t102 x11_2)).z), .string ((rd_T30 l0 (rd t102 x11_2)).op), .int .i64 ((rd_T30 l0 (rd t102 x11_2)).n), .int .i64 ((rd_T30 l0 (rd t102 x11_2)).a), .int .i64 ((rd_T30 l0 (rd t102 x11_2)).b)] 30 (0, 0)) (by (with_reducible repeat (first | refine bN ?_ _ | refine bD ?_ | refine bA ?_ _)); exact BK107.out) hb)
                        replace HB := am (below_step (by repeat (first | (with_reducible first | exact HB.out | apply lA | apply lN | apply lD | refine lS ?_ GE107.out) | exact HB.out)) hb)
                        (try clear hb)
                        (try clear hb2)
                        (try clear hk)
                        (try clear hi)
                        refine hK.out _ _ ⟨HS0_, HS1_⟩ (fun hHeld => ?_)
                        clear hK K
                        refine norm_ (a' := ?_) ?_ ?_
                        rotate_left
                        ·show Act.put _ (some 116) _ = _
                         simp only [Act.put, sA, sZ, sS, i64_w, i32_w]
                         rfl
                        refine pure_ (i := 12) (N := some 117) (v := ?_) (a' := ?_) (bl 14 8191) rfl rfl (any_of HT_.out (by kernel_rfl)) (fun _ _ _ h => h) (Or.inl ⟨by rfl, ?_⟩) ?_ ?_
                        rotate_left
                        ·intro w'
                         go_simp
                         with_reducible rfl
                        rotate_left
                        ·simp only [Act.put, sA, sZ, sS, i64_w, i32_w]
                         rfl
                        refine pure_ (i := 13) (N := some 8) (v := ?_) (a' := ?_) (bl 14 16383) rfl rfl (any_of HT_.out (by kernel_rfl)) (fun _ _ _ h => h) (Or.inl ⟨by rfl, ?_⟩) ?_ ?_
                        rotate_left
                        ·intro w'
                         go_simp
                         with_reducible rfl
                        rotate_left
                        ·simp only [Act.put, sA, sZ, sS, i64_w, i32_w]
                         rfl
                        refine done_ (done_of HT_.out (by kernel_rfl)) ?_
                        try go_wp2
                        go_roundg k5
                        case measure => have := HJ4.out; have := HK2.out; have := HJ16.out; have := HJ22.out; have := HK5.out; omega
                        case rel => exact ⟨(t120), (wrap64 (x17_5 + 1)), (by first | rfl | (simp; done) | (simp [*]; done)), (by first | rfl | (simp; done) | (simp [*]; done)), H', ⟨by have := HJ4.out; have := HK2.out; have := HJ16.out; have := HJ22.out; have := HK5.out; omega⟩, ⟨by (with_reducible repeat (first | apply Ra | apply Rn | apply Rd)); exact HO_10.out⟩, ⟨by (with_reducible repeat (first | apply Ra | apply Rn | apply Rd)); exact HO_16.out⟩, ⟨by (with_reducible repeat (first | refine bN ?_ _ | refine bD ?_ | refine bA ?_ _)); exact BK107.out⟩, ⟨by repeat (first | (with_reducible first | exact HB.out | apply lA | apply lN | apply lD | refine lS ?_ GE107.out) | exact HB.out)⟩⟩
                       ·rw [if_neg c58] at H
                        exact absurd H (by simp)
                      ·rw [if_neg c57] at H
                       exact absurd H (by simp)
                     ·rw [if_neg c56] at H
                      exact absurd H (by simp)
                   ·rw [if_neg c51] at H
                    have c51b0 : (((rd_T30 l0 (rd t102 x11_2)).kind) == 3) = false := beq_eq_false_iff_ne.mpr c51
                    have c51b1 : (((rd_T30 l0 (rd t102 x11_2)).kind) != 3) = true := bne_iff_ne.mpr c51
                    have H' := am H
                    clear H
                    obtain ⟨Ao64, co64, eo64⟩ := Kd.R_slice HO_16.out
                    subst eo64
                    have hcz65_0 : wr.cell? ⟨gb107, 0, none⟩ = some (.int .i64 ((rd_T30 l0 (rd t102 x11_2)).kind)) := (blk_cell BK107.out 0).trans rfl
                    have hcz65_1 : wr.cell? ⟨gb107, 1, none⟩ = some (.string ((rd_T30 l0 (rd t102 x11_2)).x)) := (blk_cell BK107.out 1).trans rfl
                    have hcz65_2 : wr.cell? ⟨gb107, 2, none⟩ = some (.string ((rd_T30 l0 (rd t102 x11_2)).y)) := (blk_cell BK107.out 2).trans rfl
                    have hcz65_3 : wr.cell? ⟨gb107, 3, none⟩ = some (.string ((rd_T30 l0 (rd t102 x11_2)).z)) := (blk_cell BK107.out 3).trans rfl
                    have hcz65_4 : wr.cell? ⟨gb107, 4, none⟩ = some (.string ((rd_T30 l0 (rd t102 x11_2)).op)) := (blk_cell BK107.out 4).trans rfl
                    have hcz65_5 : wr.cell? ⟨gb107, 5, none⟩ = some (.int .i64 ((rd_T30 l0 (rd t102 x11_2)).n)) := (blk_cell BK107.out 5).trans rfl
                    have hcz65_6 : wr.cell? ⟨gb107, 6, none⟩ = some (.int .i64 ((rd_T30 l0 (rd t102 x11_2)).a)) := (blk_cell BK107.out 6).trans rfl
                    have hcz65_7 : wr.cell? ⟨gb107, 7, none⟩ = some (.int .i64 ((rd_T30 l0 (rd t102 x11_2)).b)) := (blk_cell BK107.out 7).trans rfl
                    have hfz65_0 := blk_frozen BK107.out 0
                    have hfz65_1 := blk_frozen BK107.out 1
                    have hfz65_2 := blk_frozen BK107.out 2
                    have hfz65_3 := blk_frozen BK107.out 3
                    have hfz65_4 := blk_frozen BK107.out 4
                    have hfz65_5 := blk_frozen BK107.out 5
                    have hfz65_6 := blk_frozen BK107.out 6
                    have hfz65_7 := blk_frozen BK107.out 7
                    go_wp2
                    go_roundg k5
                    case measure => have := HJ4.out; have := HK2.out; have := HJ16.out; have := HJ22.out; have := HK5.out; omega
                    case rel => exact ⟨(x8_5), (wrap64 (x11_2 + 1)), (by first | rfl | (simp; done) | (simp [*]; done)), (by first | rfl | (simp; done) | (simp [*]; done)), H', ⟨by have := HJ4.out; have := HK2.out; have := HJ16.out; have := HJ22.out; have := HK5.out; omega⟩, ⟨by (with_reducible repeat (first | apply Ra | apply Rn | apply Rd)); exact HO_10.out⟩, ⟨by repeat (first | (with_reducible first | exact HB.out | apply lA | apply lN | apply lD | refine lS ?_ GE107.out) | exact HB.out)⟩⟩
                 ·replace c37 := Bool.eq_false_iff.mpr c37
                  subst c37
                  have H1 : (lambrequinlaw20_CfgTaint.l0 k5 l0 a1 a2 t101 x8_5 false t102 (wrap64 (x11_2 + 1))) = some r := by rw [if_neg (show ¬ (false = true) by decide)] at H; exact H
                  clear H
                  have H := H1
                  clear H1
                  have H' := am H
                  clear H
                  obtain ⟨Ao66, co66, eo66⟩ := Kd.R_slice HO_16.out
                  subst eo66
                  go_wp2
                  go_roundg k5
                  case measure => have := HJ4.out; have := HK2.out; have := HJ16.out; have := HJ22.out; have := HK5.out; omega
                  case rel => exact ⟨(x8_5), (wrap64 (x11_2 + 1)), (by first | rfl | (simp; done) | (simp [*]; done)), (by first | rfl | (simp; done) | (simp [*]; done)), H', ⟨by have := HJ4.out; have := HK2.out; have := HJ16.out; have := HJ22.out; have := HK5.out; omega⟩, ⟨by (with_reducible repeat (first | apply Ra | apply Rn | apply Rd)); exact HO_10.out⟩, ⟨by repeat (first | (with_reducible first | exact HB.out | apply lA | apply lN | apply lD | refine lS ?_ GE107.out) | exact HB.out)⟩⟩
                ·rw [if_neg c36] at H
                 have c36b0 : decide (x17_5 < (t112.length : Int)) = false := decide_eq_false c36
                 clear c36
                 have H' := am H
                 clear H
                 obtain ⟨Ao67, co67, eo67⟩ := Kd.R_slice HO_16.out
                 subst eo67
                 go_wp2
                 go_roundg k5
                 case measure => have := HJ4.out; have := HK2.out; have := HJ16.out; have := HJ22.out; have := HK5.out; omega
                 case rel => exact ⟨(x8_5), (wrap64 (x11_2 + 1)), (by first | rfl | (simp; done) | (simp [*]; done)), (by first | rfl | (simp; done) | (simp [*]; done)), H', ⟨by have := HJ4.out; have := HK2.out; have := HJ16.out; have := HJ22.out; have := HK5.out; omega⟩, ⟨by (with_reducible repeat (first | apply Ra | apply Rn | apply Rd)); exact HO_10.out⟩, ⟨by repeat (first | (with_reducible first | exact HB.out | apply lA | apply lN | apply lD | refine lS ?_ GE107.out) | exact HB.out)⟩⟩
         ·rw [if_neg c15] at H
          exact absurd H (by simp)
        ·rw [if_neg c14] at H
         exact absurd H (by simp)
       ·rw [if_neg c13] at H
        exact absurd H (by simp)
      ·rw [if_neg c12] at H
       have c12b0 : decide (x11_2 < (t102.length : Int)) = false := decide_eq_false c12
       clear c12
       have H' := am H
       clear H
       obtain ⟨Ao68, co68, eo68⟩ := Kd.R_slice HO_10.out
       subst eo68
       go_wp2
       go_loopg [9, 18] k2 (fun kq v9 v18 w' => ∃ (x9_3 : Bool) (x18_3 : Int), v9 = .bool x9_3 ∧ v18 = .int .i64 x18_3 ∧ Aside0 (lambrequinlaw20_CfgTaint.l2 kq l0 a1 a2 t101 x8_2 x9_3 x18_3 = some r) ∧ Aside0 (kq ≤ k2) ∧ Aside0 (Below w.heap.size w w'))
       case atStart => exact ⟨(false), (0), (by first | rfl | (simp; done) | (simp [*]; done)), (by first | rfl | (simp; done) | (simp [*]; done)), H', ⟨Nat.le_refl _⟩, ⟨by repeat (first | (with_reducible first | exact HB.out | apply lA | apply lN | apply lD) | exact HB.out)⟩⟩
       case round =>
        clear H'
        try clear c1
        try clear p1
        try clear q1
        try clear hx1
        try clear p2
        try clear c3
        try clear c4
        try clear c5
        try clear p6
        try clear p11
        try clear q11
        try clear hx11
        try clear c12
        try clear c12b0
        try clear c13
        try clear c14
        try clear c15
        try clear c36
        try clear c36b0
        try clear c37
        try clear c38
        try clear c38b0
        try clear c38b1
        try clear c40
        try clear c43
        try clear c44
        try clear c45
        try clear c51
        try clear c51b0
        try clear c51b1
        try clear c52
        try clear c56
        try clear c56b0
        try clear c57
        try clear c57b0
        try clear c58
        try clear c58b0
        try clear p64
        try clear hcz54_0
        try clear hcz54_1
        try clear hcz54_2
        try clear hcz54_3
        try clear hcz54_4
        try clear hcz54_5
        try clear hcz54_6
        try clear hcz54_7
        try clear hcz61_0
        try clear hcz61_1
        try clear hcz61_2
        try clear hcz61_3
        try clear hcz61_4
        try clear hcz61_5
        try clear hcz61_6
        try clear hcz61_7
        try clear hcz65_0
        try clear hcz65_1
        try clear hcz65_2
        try clear hcz65_3
        try clear hcz65_4
        try clear hcz65_5
        try clear hcz65_6
        try clear hcz65_7
        try clear hfz48_0
        try clear hfz48_1
        try clear hfz48_2
        try clear hfz48_3
        try clear hfz48_4
        try clear hfz48_5
        try clear hfz48_6
        try clear hfz48_7
        try clear hfz54_0
        try clear hfz54_1
        try clear hfz54_2
        try clear hfz54_3
        try clear hfz54_4
        try clear hfz54_5
        try clear hfz54_6
        try clear hfz54_7
        try clear hfz61_0
        try clear hfz61_1
        try clear hfz61_2
        try clear hfz61_3
        try clear hfz61_4
        try clear hfz61_5
        try clear hfz61_6
        try clear hfz61_7
        try clear hfz65_0
        try clear hfz65_1
        try clear hfz65_2
        try clear hfz65_3
        try clear hfz65_4
        try clear hfz65_5
        try clear hfz65_6
        try clear hfz65_7
        try clear hx115_0
        try clear hx116_0
        try clear hx118_0
        try clear hx119_0
        try clear p115
        try clear p116
        try clear p118
        try clear p119
        try clear q115
        try clear q116
        try clear q118
        try clear q119
        obtain ⟨x9_3, x18_3, rfl, rfl, HA, HK3, HB⟩ := hrel
        cases gk with
        | zero => exact absurd HA.out (by simp [lambrequinlaw20_CfgTaint.l2])
        | succ k3 =>
         have H := HA.out
         clear HA
         simp only [lambrequinlaw20_CfgTaint.l2] at H
         by_cases c69 : x18_3 < (l0.length : Int)
         ·rw [if_pos c69] at H
          have c69b0 : decide (x18_3 < (l0.length : Int)) = true := decide_eq_true c69
          clear c69
          by_cases c70 : x9_3 = true
          ·subst c70
           have H1 : (lambrequinlaw20_CfgTaint.l2 k3 l0 a1 a2 t101 x8_2 true (wrap64 (x18_3 + 1))) = some r := by rw [if_pos rfl] at H; exact H
           clear H
           have H := H1
           clear H1
           have H' := am H
           clear H
           go_wp2
           go_roundg k3
           case measure => have := HJ4.out; have := HK2.out; have := HK3.out; omega
           case rel => exact ⟨(true), (wrap64 (x18_3 + 1)), (by first | rfl | (simp; done) | (simp [*]; done)), (by first | rfl | (simp; done) | (simp [*]; done)), H', ⟨by have := HJ4.out; have := HK2.out; have := HK3.out; omega⟩, ⟨by repeat (first | (with_reducible first | exact HB.out | apply lA | apply lN | apply lD) | exact HB.out)⟩⟩
          ·replace c70 := Bool.eq_false_iff.mpr c70
           subst c70
           have H1 : (if 0 ≤ x18_3 then (lambrequinlaw20_CfgTaint.l2 k3 l0 a1 a2 t101 x8_2 (((rd_T30 l0 x18_3).kind) == 4) (wrap64 (x18_3 + 1))) else (none)) = some r := by rw [if_neg (show ¬ (false = true) by decide)] at H; exact H
           clear H
           have H := H1
           clear H1
           by_cases c71 : 0 ≤ x18_3
           ·rw [if_pos c71] at H
            have c71b0 : decide (0 ≤ x18_3) = true := decide_eq_true c71
            clear c71
            have H' := am H
            clear H
            have p121 : 0 ≤ (x18_3 : Int) := of_decide_eq_true (by first | (with_reducible assumption) | assumption)
            have q121 : x18_3 < (l0.length : Int) := of_decide_eq_true (by first | (with_reducible assumption) | assumption)
            obtain ⟨ad121, e121, hx121_0, hx121_1, hx121_2, hx121_3, hx121_4, hx121_5, hx121_6, hx121_7⟩ := at_T30 HR0.out x18_3 p121 q121
            cases e121
            replace hx121_0 := (HB.out.cell (blt_ hx121_0)).trans hx121_0
            replace hx121_1 := (HB.out.cell (blt_ hx121_1)).trans hx121_1
            replace hx121_2 := (HB.out.cell (blt_ hx121_2)).trans hx121_2
            replace hx121_3 := (HB.out.cell (blt_ hx121_3)).trans hx121_3
            replace hx121_4 := (HB.out.cell (blt_ hx121_4)).trans hx121_4
            replace hx121_5 := (HB.out.cell (blt_ hx121_5)).trans hx121_5
            replace hx121_6 := (HB.out.cell (blt_ hx121_6)).trans hx121_6
            replace hx121_7 := (HB.out.cell (blt_ hx121_7)).trans hx121_7
            replace p121 := eq_true p121
            replace q121 := eq_true q121
            go_wp2
            go_roundg k3
            case measure => have := HJ4.out; have := HK2.out; have := HK3.out; omega
            case rel => exact ⟨((((rd_T30 l0 x18_3).kind) == 4)), (wrap64 (x18_3 + 1)), (by first | rfl | (simp; done) | (simp [*]; done)), (by first | rfl | (simp; done) | (simp [*]; done)), H', ⟨by have := HJ4.out; have := HK2.out; have := HK3.out; omega⟩, ⟨by repeat (first | (with_reducible first | exact HB.out | apply lA | apply lN | apply lD) | exact HB.out)⟩⟩
           ·rw [if_neg c71] at H
            exact absurd H (by simp)
         ·rw [if_neg c69] at H
          have c69b0 : decide (x18_3 < (l0.length : Int)) = false := decide_eq_false c69
          clear c69
          replace H := Option.bind_eq_some_iff.mp H
          obtain ⟨t122, A720, H⟩ := H
          replace H : (if t101 = true then (if (t122 == x8_2) = true then (if x9_3 = true then (some true) else (some (!t122))) else (some false)) else (some false)) = some r := H
          have A72 := am A720
          clear A720
          by_cases c73 : t101 = true
          ·subst c73
           have H1 : (if (t122 == x8_2) = true then (if x9_3 = true then (some true) else (some (!t122))) else (some false)) = some r := by rw [if_pos rfl] at H; exact H
           clear H
           have H := H1
           clear H1
           by_cases c74 : (t122 == x8_2) = true
           ·rw [if_pos c74] at H
            have c74b0 : (t122 == x8_2) = true := c74
            (try (have c74b1 : decide (t122 = x8_2) = true := by simpa using c74))
            (try (have c74b2 : (t122 == x8_2) = true := by simpa using c74))
            clear c74
            by_cases c75 : x9_3 = true
            ·subst c75
             have H1 : (some true) = some r := by rw [if_pos rfl] at H; exact H
             clear H
             have H := H1
             clear H1
             obtain rfl := Option.some.inj H
             go_wp2_with (first | ((with_reducible refine gate_callee (f := 40) rfl ?_); refine goesL_ (some 136) rfl rfl Try.func40 (by kernel_rfl) rfl #[.slice A0 l0.length c0, .int .i64 a1, .string a2] rfl (by (try simp only [List.map_toArray, List.map_cons, List.map_nil]); first | done | rfl | (simp only [List.length_drop, List.length_take]; rfl)) ?_; (with_reducible refine (cfg_Taints.calls k3 _ _ l0 a1 a2 t122 _ ?side1 ?side2 A72.out).mono ?_); (case side1 => repeat (first | exact (Kd.C_below HR0.out HB.out) | (with_reducible refine Kd.C_alloc ?_ _) | (with_reducible refine Kd.C_drewN ?_ _) | (with_reducible refine Kd.C_drew ?_))); (case side2 => exact HC0.out); rintro e w76 ⟨rfl, hb⟩; refine ⟨_, rfl, ?_⟩; replace HB := am (below_step (by repeat (first | (with_reducible first | exact HB.out | apply lA | apply lN | apply lD) | exact HB.out)) hb); (try clear hb); (try clear hb2); (try clear hk); (try clear hi)))
             go_ret
             exact ⟨by first | rfl | (simp [errW_none, errW_some] <;> rfl) | (simp [*, errW_none, errW_some] <;> rfl), by repeat (first | (with_reducible first | exact HB.out | apply lA | apply lN | apply lD) | exact HB.out)⟩
            ·replace c75 := Bool.eq_false_iff.mpr c75
             subst c75
             have H1 : (some (!t122)) = some r := by rw [if_neg (show ¬ (false = true) by decide)] at H; exact H
             clear H
             have H := H1
             clear H1
             obtain rfl := Option.some.inj H
             go_wp2_with (first | ((with_reducible refine gate_callee (f := 40) rfl ?_); refine goesL_ (some 136) rfl rfl Try.func40 (by kernel_rfl) rfl #[.slice A0 l0.length c0, .int .i64 a1, .string a2] rfl (by (try simp only [List.map_toArray, List.map_cons, List.map_nil]); first | done | rfl | (simp only [List.length_drop, List.length_take]; rfl)) ?_; (with_reducible refine (cfg_Taints.calls k3 _ _ l0 a1 a2 t122 _ ?side1 ?side2 A72.out).mono ?_); (case side1 => repeat (first | exact (Kd.C_below HR0.out HB.out) | (with_reducible refine Kd.C_alloc ?_ _) | (with_reducible refine Kd.C_drewN ?_ _) | (with_reducible refine Kd.C_drew ?_))); (case side2 => exact HC0.out); rintro e w77 ⟨rfl, hb⟩; refine ⟨_, rfl, ?_⟩; replace HB := am (below_step (by repeat (first | (with_reducible first | exact HB.out | apply lA | apply lN | apply lD) | exact HB.out)) hb); (try clear hb); (try clear hb2); (try clear hk); (try clear hi)))
             go_ret
             exact ⟨by first | rfl | (simp [errW_none, errW_some] <;> rfl) | (simp [*, errW_none, errW_some] <;> rfl), by repeat (first | (with_reducible first | exact HB.out | apply lA | apply lN | apply lD) | exact HB.out)⟩
           ·rw [if_neg c74] at H
            have c74b0 : (t122 == x8_2) = false := by simpa using c74
            (try (have c74b1 : decide (t122 = x8_2) = false := by simpa using c74))
            (try (have c74b2 : (t122 == x8_2) = false := by simpa using c74))
            (try (have c74b3 : ¬ (t122 = x8_2) := by simpa using c74))
            clear c74
            obtain rfl := Option.some.inj H
            go_wp2_with (first | ((with_reducible refine gate_callee (f := 40) rfl ?_); refine goesL_ (some 136) rfl rfl Try.func40 (by kernel_rfl) rfl #[.slice A0 l0.length c0, .int .i64 a1, .string a2] rfl (by (try simp only [List.map_toArray, List.map_cons, List.map_nil]); first | done | rfl | (simp only [List.length_drop, List.length_take]; rfl)) ?_; (with_reducible refine (cfg_Taints.calls k3 _ _ l0 a1 a2 t122 _ ?side1 ?side2 A72.out).mono ?_); (case side1 => repeat (first | exact (Kd.C_below HR0.out HB.out) | (with_reducible refine Kd.C_alloc ?_ _) | (with_reducible refine Kd.C_drewN ?_ _) | (with_reducible refine Kd.C_drew ?_))); (case side2 => exact HC0.out); rintro e w78 ⟨rfl, hb⟩; refine ⟨_, rfl, ?_⟩; replace HB := am (below_step (by repeat (first | (with_reducible first | exact HB.out | apply lA | apply lN | apply lD) | exact HB.out)) hb); (try clear hb); (try clear hb2); (try clear hk); (try clear hi)))
            go_ret
            exact ⟨by first | rfl | (simp [errW_none, errW_some] <;> rfl) | (simp [*, errW_none, errW_some] <;> rfl), by repeat (first | (with_reducible first | exact HB.out | apply lA | apply lN | apply lD) | exact HB.out)⟩
          ·replace c73 := Bool.eq_false_iff.mpr c73
           subst c73
           have H1 : (some false) = some r := by rw [if_neg (show ¬ (false = true) by decide)] at H; exact H
           clear H
           have H := H1
           clear H1
           obtain rfl := Option.some.inj H
           go_wp2_with (first | ((with_reducible refine gate_callee (f := 40) rfl ?_); refine goesL_ (some 136) rfl rfl Try.func40 (by kernel_rfl) rfl #[.slice A0 l0.length c0, .int .i64 a1, .string a2] rfl (by (try simp only [List.map_toArray, List.map_cons, List.map_nil]); first | done | rfl | (simp only [List.length_drop, List.length_take]; rfl)) ?_; (with_reducible refine (cfg_Taints.calls k3 _ _ l0 a1 a2 t122 _ ?side1 ?side2 A72.out).mono ?_); (case side1 => repeat (first | exact (Kd.C_below HR0.out HB.out) | (with_reducible refine Kd.C_alloc ?_ _) | (with_reducible refine Kd.C_drewN ?_ _) | (with_reducible refine Kd.C_drew ?_))); (case side2 => exact HC0.out); rintro e w79 ⟨rfl, hb⟩; refine ⟨_, rfl, ?_⟩; replace HB := am (below_step (by repeat (first | (with_reducible first | exact HB.out | apply lA | apply lN | apply lD) | exact HB.out)) hb); (try clear hb); (try clear hb2); (try clear hk); (try clear hi)))
           go_ret
           exact ⟨by first | rfl | (simp [errW_none, errW_some] <;> rfl) | (simp [*, errW_none, errW_some] <;> rfl), by repeat (first | (with_reducible first | exact HB.out | apply lA | apply lN | apply lD) | exact HB.out)⟩
end Go.Proofs.Ytnepgcbgkhikkaa.H
/- CfgTaint: a flow without sources taints nothing; a name is tainted ahead of a statement just if a source, a copy or an operation, or a name that is kept, brings it there. Conditions: the statement's own. -/
namespace Go.Proofs.Ytnepgcbgkhikkaa.H
open Go.RowKit Go.Proofs.YtnepgcbgkhikkaaW.PrintWords
set_option linter.unusedVariables false
set_option linter.unusedSimpArgs false
set_option linter.unusedSectionVars false
open Classical in
noncomputable def tB (l : List Stmt) (n : Int) (x : ByteArray) : Bool := decide (taintP l n x)
theorem tB_iff {l : List Stmt} {n : Int} {x : ByteArray} : tB l n x = true ↔ taintP l n x := by unfold tB; simp
theorem tB_ev (l : List Stmt) (n : Int) (x : ByteArray) (hl : l.length ≤ 1000) : Ev (fun k => cfg_Taints.f k l n x) (tB l n x) := ev_of (Taints_ev l n x hl) tB_iff
noncomputable def conT (l : List Stmt) (x : ByteArray) (m : Int) : Bool :=
  if defB (at_ l m) x = true then (decide ((at_ l m).kind = 4) || (decide (opK (at_ l m)) && (usesS (at_ l m)).any (tB l m))) else tB l m x
theorem conT_iff {l : List Stmt} {x : ByteArray} {m : Int} : conT l x m = true ↔ hands l m x (taintP l) := by
  unfold conT hands
  by_cases c : defB (at_ l m) x = true
  · rw [if_pos c]
    simp only [c, Bool.or_eq_true, decide_eq_true_eq, Bool.and_eq_true, List.any_eq_true, tB_iff, true_and]
    simp
  · rw [if_neg c]
    have c' : defB (at_ l m) x = false := by simpa using c
    rw [tB_iff, c']
    simp
section
variable (l : List Stmt) (n : Int) (x : ByteArray) (hl : l.length ≤ 25)
include hl
theorem Ct_l2 (s : Bool) (hs : tB l n x = s) : ∀ (r : List Stmt) (i : Nat) (src : Bool), l.drop i = r → (src = true ↔ ∃ st ∈ l.take i, st.kind = 4) → (tB l n x = true → ∃ st ∈ l, st.kind = 4) →
    Ev (fun k => lambrequinlaw20_CfgTaint.l2 k l n x true s src i) true
  | [], i, src, h, hi, hz => by
    have hd := drop_end h
    refine Ev.step (fun k => by rw [lambrequinlaw20_CfgTaint.l2]) (Ev.neg hd (Ev.bind (tB_ev l n x (by omega)) (Ev.pos rfl (Ev.pos (beq_iff_eq.2 hs) ?_))))
    cases src with
    | true => exact Ev.pos rfl (Ev.now _)
    | false =>
      refine Ev.neg (by simp) (Ev.some ?_)
      cases ht : tB l n x with
      | false => rfl
      | true =>
        have h2 := hz ht
        rw [List.take_of_length_le (by omega)] at hi
        exact absurd (hi.2 h2) (by simp)
  | y :: r, i, src, h, hi, hz => by
    obtain ⟨h1, h2, h3, h4, h5⟩ := drop_more h (by omega)
    have hy : l[i]? = some y := by
      have := congrArg (fun z => z[0]?) h
      simpa using this
    refine Ev.step (fun k => by rw [lambrequinlaw20_CfgTaint.l2]) (Ev.pos h1 ?_)
    rw [h5]
    have step : ∀ b : Bool, (b = true ↔ (src = true ∨ y.kind = 4)) → (b = true ↔ ∃ st ∈ l.take (i + 1), st.kind = 4) := by
      intro b hb
      rw [hb, hi, List.take_add_one, hy]
      constructor
      · rintro (⟨st, h1, h2⟩ | h)
        · exact ⟨st, by simp [h1], h2⟩
        · exact ⟨y, by simp, h⟩
      · rintro ⟨st, h1, h2⟩
        rcases List.mem_append.1 h1 with h1 | h1
        · exact .inl ⟨st, h1, h2⟩
        · have : st = y := by simpa using h1
          exact .inr (this ▸ h2)
    cases src with
    | true => exact Ev.pos rfl (Ct_l2 s hs r (i + 1) true h4 (step true (by simp)) hz)
    | false =>
      refine Ev.neg (by simp) (Ev.pos h2 ?_)
      rw [show rd_T30 l i = y from h3 _]
      exact Ct_l2 s hs r (i + 1) _ h4 (step _ (by simp)) hz
theorem Ct_l1 (fr : List Int) (i : Nat) (m : Int) (hm : rd fr i = m) (hi : i < fr.length) (hfr : fr.length ≤ 1000) (st : Stmt) (own : Bool) : ∀ (r : List ByteArray) (j : Nat) (s : Bool), (usesS st).drop j = r →
    (∀ s' : Bool, s' = (s || (own && (decide (opK st) && r.any (tB l m)))) → Ev (fun k => lambrequinlaw20_CfgTaint.l0 k l n x true s' false fr ((i + 1 : Nat) : Int)) true) →
    Ev (fun k => lambrequinlaw20_CfgTaint.l1 k l n x true s false fr i own (usesS st) j st.kind st.x st.y st.z st.op st.n st.a st.b) true
  | [], j, s, h, go => by
    refine Ev.step (fun k => by rw [lambrequinlaw20_CfgTaint.l1]) (Ev.neg (drop_end h) ?_)
    rw [wrap_up (by omega)]
    exact go s (by simp)
  | u :: r, j, s, h, go => by
    have hu := usesS_len st
    obtain ⟨h1, h2, h3, h4, h5⟩ := drop_more h (by omega)
    refine Ev.step (fun k => by rw [lambrequinlaw20_CfgTaint.l1]) (Ev.pos h1 ?_)
    rw [h5, wrap_up (n := i) (by omega)]
    cases own with
    | false => exact Ev.neg (by simp) (go s (by simp))
    | true =>
      refine Ev.pos rfl ?_
      have rest : opK st → ∀ s' : Bool, s' = (s || tB l m u) → Ev (fun k => lambrequinlaw20_CfgTaint.l1 k l n x true s' false fr i true (usesS st) ((j + 1 : Nat) : Int) st.kind st.x st.y st.z st.op st.n st.a st.b) true := by
        intro ho s' hs'
        refine Ct_l1 fr i m hm hi hfr st true r (j + 1) s' h4 (fun q hq => go q ?_)
        rw [hq, hs']
        simp [ho, Bool.or_assoc]
      have one : opK st → Ev (fun k => if s = true then lambrequinlaw20_CfgTaint.l1 k l n x true true false fr i true (usesS st) ((j + 1 : Nat) : Int) st.kind st.x st.y st.z st.op st.n st.a st.b else if 0 ≤ (i : Int) then if (i : Int) < (fr.length : Int) then if 0 ≤ (j : Int) then (cfg_Taints.f k l (rd fr i) (rdOf ByteArray.empty (usesS st) j)).bind fun t117 => lambrequinlaw20_CfgTaint.l1 k l n x true t117 false fr i true (usesS st) ((j + 1 : Nat) : Int) st.kind st.x st.y st.z st.op st.n st.a st.b else none else none else none) true := by
        intro ho
        cases s with
        | true => exact Ev.pos rfl (rest ho true (by simp))
        | false =>
          refine Ev.neg (by simp) (Ev.pos (by omega) (Ev.pos (by omega) (Ev.pos h2 ?_)))
          rw [hm, show rdOf ByteArray.empty (usesS st) j = u from h3 _]
          exact Ev.bind (tB_ev l m u (by omega)) (rest ho _ (by simp))
      by_cases k2 : st.kind = 2
      · exact Ev.pos k2 (one (.inl k2))
      · refine Ev.neg k2 ?_
        by_cases k3 : st.kind = 3
        · exact Ev.pos k3 (one (.inr k3))
        · exact Ev.neg k3 (go s (by simp [opK, k2, k3]))
theorem Ct_l0 (fr : List Int) (hfr : fr.length ≤ 1000) (hin : ∀ m ∈ fr, 0 ≤ m ∧ m < (l.length : Int)) (go : ∀ s : Bool, tB l n x = s → Ev (fun k => lambrequinlaw20_CfgTaint.l2 k l n x true s false 0) true) : ∀ (r : List Int) (i : Nat) (s : Bool), fr.drop i = r → tB l n x = (s || r.any (conT l x)) →
    Ev (fun k => lambrequinlaw20_CfgTaint.l0 k l n x true s false fr i) true
  | [], i, s, h, hs => by
    refine Ev.step (fun k => by rw [lambrequinlaw20_CfgTaint.l0]) (Ev.neg (drop_end h) ?_)
    exact go s (by simpa using hs)
  | m :: r, i, s, h, hs => by
    obtain ⟨h1, h2, h3, h4, h5⟩ := drop_more h (by omega)
    have hm : m ∈ fr := List.mem_of_mem_drop (by rw [h]; exact List.mem_cons_self)
    obtain ⟨m0, m1⟩ := hin m hm
    have hrd : rd fr i = m := h3 _
    refine Ev.step (fun k => by rw [lambrequinlaw20_CfgTaint.l0]) (Ev.pos h1 (Ev.pos h2 ?_))
    rw [hrd]
    refine Ev.pos m0 (Ev.pos m1 (Ev.pure (Def_eq (at_ l m)) ?_))
    have j3 : ∀ (own s1 : Bool), own = defB (at_ l m) x → (s1 || (own && (decide (opK (at_ l m)) && (usesS (at_ l m)).any (tB l m)))) = (s || conT l x m) → Ev (fun k => lambrequinlaw20_CfgTaint.j3 k l n x true s1 false fr i own (at_ l m).kind (at_ l m).x (at_ l m).y (at_ l m).z (at_ l m).op (at_ l m).n (at_ l m).a (at_ l m).b) true := by
      intro own s1 ho e
      refine Ev.step (fun k => by rw [lambrequinlaw20_CfgTaint.j3]) (Ev.pure (Uses_eq (at_ l m)) ?_)
      refine Ct_l1 l n x hl fr i m hrd (by omega) hfr (at_ l m) own (usesS (at_ l m)) 0 s1 rfl (fun s' hs' => ?_)
      refine Ct_l0 fr hfr hin go r (i + 1) s' h4 ?_
      rw [hs', e, hs]
      simp [Bool.or_assoc]
    have j2 : ∀ own : Bool, own = defB (at_ l m) x → Ev (fun k => lambrequinlaw20_CfgTaint.j2 k l n x true s false fr i own (at_ l m).kind (at_ l m).x (at_ l m).y (at_ l m).z (at_ l m).op (at_ l m).n (at_ l m).a (at_ l m).b) true := by
      intro own ho
      refine Ev.step (fun k => by rw [lambrequinlaw20_CfgTaint.j2]) ?_
      cases s with
      | true => exact Ev.pos rfl (j3 own true ho (by simp))
      | false =>
        refine Ev.neg (by simp) ?_
        unfold conT at j3
        rw [← ho] at j3
        cases own with
        | true =>
          refine Ev.pos rfl ?_
          by_cases k4 : (at_ l m).kind = 4
          · exact Ev.pos k4 (j3 true true rfl (by simp [k4]))
          · exact Ev.neg k4 (j3 true false rfl (by simp [k4]))
        | false =>
          refine Ev.neg (by simp) (Ev.pos h2 (Ev.pos h1 ?_))
          rw [hrd]
          exact Ev.bind (tB_ev l m x (by omega)) (j3 false _ rfl (by simp))
    by_cases hd : (defN (at_ l m)).2 = true
    · refine Ev.pos hd (j2 _ ?_)
      rw [Bool.eq_iff_iff, defB_iff, beq_iff_eq, lib_ba_eq]
      simp [hd]
    · refine Ev.neg hd (j2 false ?_)
      symm
      rw [← Bool.not_eq_true, defB_iff]
      simp [hd]
end
theorem CfgTaint_pure (x0 : List Stmt) (y0 : x0.length * 96 ≤ 140737488351232) (a1 : Int) (w1 : (Lit.int .i64 a1).wf = true) (a2 : ByteArray) (w2 : a2.size ≤ 140737488351232) :
    ∃ k, lambrequinlaw20_CfgTaint.f k x0 a1 a2 = some true := by
  refine Ev.rounds (g := fun k => lambrequinlaw20_CfgTaint.f k x0 a1 a2) ?_
  unfold lambrequinlaw20_CfgTaint.f
  refine Ev.bind shown20_ev ?_
  have out : Ev (fun k => lambrequinlaw20_CfgTaint.j0 k x0 a1 a2 true true) true := Ev.step (fun k => by rw [lambrequinlaw20_CfgTaint.j0]) (Ev.pos rfl (Ev.now _))
  by_cases c : (x0.length : Int) > 25
  · exact Ev.pos c out
  · refine Ev.neg c ?_
    by_cases c1 : a1 < 0
    · exact Ev.pos c1 out
    · refine Ev.neg c1 ?_
      by_cases c2 : a1 ≥ (x0.length : Int)
      · rw [decide_eq_true c2]; exact out
      · rw [decide_eq_false c2]
        have hl : x0.length ≤ 25 := by omega
        refine Ev.step (fun k => by rw [lambrequinlaw20_CfgTaint.j0]) (Ev.neg (by simp) (Ev.bind (Prev_ev x0 a1 (by omega)) ?_))
        have hp := prv_len x0 a1
        refine Ct_l0 x0 a1 a2 hl (prv x0 a1) (by omega) (fun m hm => (nxt_within (mem_prv.1 hm)).2.2) (fun s hs => ?_) (prv x0 a1) 0 false rfl ?_
        · exact Ct_l2 x0 a1 a2 hl s hs x0 0 false rfl (by simp) (fun h => taint_source (tB_iff.1 h))
        · rw [Bool.false_or, Bool.eq_iff_iff, tB_iff, List.any_eq_true, taint_iff]
          constructor
          · rintro ⟨m, h1, h2⟩; exact ⟨m, mem_prv.2 h1, conT_iff.2 h2⟩
          · rintro ⟨m, h1, h2⟩; exact ⟨m, mem_prv.1 h1, conT_iff.1 h2⟩
theorem CfgTaint_walk (w : World) (x0 : (List Stmt)) (A0 : Option Addr) (c0 : Nat) (l0 : x0.length ≤ c0) (g0 : Kd.C k30 w A0 x0.length x0) (y0 : x0.length * 96 ≤ 140737488351232) (a1 : Int) (w1 : (Lit.int .i64 a1).wf = true) (a2 : ByteArray) (w2 : a2.size ≤ 140737488351232) :
    Calls Try.prog 13 #[.slice A0 x0.length c0, .int .i64 a1, .string a2] w fun e w' => e = .returned (.bool true) ∧ Below w.heap.size w w' := by
  obtain ⟨k, h⟩ := CfgTaint_pure x0 y0 a1 w1 a2 w2
  exact (lambrequinlaw20_CfgTaint.calls k A0 c0 x0 a1 a2 true w g0 l0 h).mono (fun e w' h' => ⟨h'.1, h'.2⟩)
end Go.Proofs.Ytnepgcbgkhikkaa.H
namespace Go.Proofs.Ytnepgcbgkhikkaa.H
open Go.RowKit Go.Proofs.YtnepgcbgkhikkaaW.PrintWords
set_option linter.unusedVariables false
/-- no longer than the model's longest text -/
def bStr (s : ByteArray) : Prop := s.size ≤ 9223372036854775807
/-- What an argument of a type holds, read as the kind kd; B: how long its texts are. -/
structure Opens {α : Type} (P : Program) (t : TypeId) (kd : Kd α) (B : α → Prop) : Prop where
  size : P.cellsOf t = kd.sz
  opened : ∀ {H : Type} {enc : TypeId × Value → H} {w : World} {base : Nat} {sp : Nat → Bool} {held : Bool} {fuel : Nat} {cs : List Value} {x : DataW H × List MemPlace},
    DataW.trod enc P w base sp held fuel t cs = some x → ∃ a, kd.K w a cs ∧ B a
theorem Opens.as {α : Type} {P : Program} {t : TypeId} {kd : Kd α} {B B' : α → Prop} (h : Opens P t kd B) (hB : ∀ a, B a → B' a) : Opens P t kd B' :=
  ⟨h.size, fun hx => by obtain ⟨a, ha, hb⟩ := h.opened hx; exact ⟨a, ha, hB a hb⟩⟩
theorem opens_bool {P : Program} {t : TypeId} (ht : P.underlying t = some .bool) (hs : P.cellsOf t = 1) : Opens P t Kd.bool (fun _ => True) :=
  ⟨hs, fun h => by obtain ⟨b, rfl, _⟩ := DataW.trod_bool ht h; exact ⟨b, rfl, trivial⟩⟩
theorem opens_int {P : Program} {t : TypeId} {k : IntKind} (ht : P.underlying t = some (.int k)) (hs : P.cellsOf t = 1) : Opens P t (Kd.int k) (fun _ => True) :=
  ⟨hs, fun h => by obtain ⟨b, rfl, _⟩ := DataW.trod_int ht h; exact ⟨b, rfl, trivial⟩⟩
theorem opens_string {P : Program} {t : TypeId} (ht : P.underlying t = some .string) (hs : P.cellsOf t = 1) : Opens P t Kd.string bStr :=
  ⟨hs, fun h => by obtain ⟨b, rfl, _, hb⟩ := DataW.trod_string ht h; exact ⟨b, rfl, hb⟩⟩
theorem list_of {α : Type} (p : Nat → α → Prop) : ∀ n : Nat, (∀ i, i < n → ∃ y, p i y) → ∃ l : List α, l.length = n ∧ ∀ i y, l[i]? = some y → p i y
  | 0, _ => ⟨[], rfl, fun i y h => by simp at h⟩
  | n + 1, h => by
    obtain ⟨l, hl, hp⟩ := list_of p n (fun i hi => h i (by omega))
    obtain ⟨y, hy⟩ := h n (by omega)
    refine ⟨l ++ [y], by simp [hl], fun i z hz => ?_⟩
    rcases Nat.lt_trichotomy i n with hi | rfl | hi
    · rw [List.getElem?_append_left (by omega)] at hz
      exact hp i z hz
    · rw [List.getElem?_append_right (by omega), hl, Nat.sub_self] at hz
      simp at hz
      subst hz
      exact hy
    · rw [List.getElem?_eq_none (by simp [hl]; omega)] at hz
      simp at hz
theorem addr_add_add (a : Addr) (i j : Nat) : (a.add i).add j = a.add (i + j) := by
  unfold Addr.add
  by_cases hi : i = 0 <;> by_cases hj : j = 0 <;> simp [hi, hj, Nat.add_assoc]
theorem opens_slice {α : Type} {P : Program} {t e : TypeId} {kd : Kd α} {B : α → Prop} (ht : P.underlying t = some (.slice e)) (hs : P.cellsOf t = 1) (he : Opens P e kd B) (q : Nat) : Opens P t (Kd.slice q kd) (fun l => l.length ≤ 9223372036854775807 ∧ ∀ y ∈ l, B y) := by
  refine ⟨hs, fun {H enc w base sp held fuel cs x} h => ?_⟩
  rcases DataW.trod_slice ht h with ⟨rfl, _⟩ | ⟨a, len, cap, elems, rest, n, _, rfl, _, _, hl, hm, hlen, hel, _⟩
  · exact ⟨[], ⟨none, 0, rfl, Nat.le_refl _, rfl, by simp, fun h => absurd h (by simp)⟩, by simp, by simp⟩
  · obtain ⟨l, hll, hp⟩ := list_of (fun i y => B y ∧ ∃ c, c.length = kd.sz ∧ kd.K w y c ∧ ∀ j u, c[j]? = some u → w.cell? (a.add (i * kd.sz + j)) = some u) len (fun i hi => by
      have h1 := hel i hi
      rw [List.getElem?_eq_getElem (by omega)] at h1
      obtain ⟨cs', h2, h3⟩ := Option.bind_eq_some_iff.1 h1
      obtain ⟨y, hy, hby⟩ := he.opened h3
      obtain ⟨_, h4, h5⟩ := World.cells?_some h2
      refine ⟨y, hby, cs', by rw [h4, he.size], hy, fun j u hu => ?_⟩
      have hj : j < P.cellsOf e := by rw [← h4]; exact (List.getElem?_eq_some_iff.1 hu).1
      rw [← addr_add_add, ← he.size, h5 j hj, hu])
    subst hll
    refine ⟨l, ⟨some a, cap, rfl, hl, rfl, Nat.le_trans hl (Nat.le_trans hm (by decide)), fun _ => ⟨a, rfl, fun j p hj => (hp j p hj).2⟩⟩, Nat.le_trans hl (Nat.le_trans hm (by decide)), fun y hy => ?_⟩
    obtain ⟨i, hi, rfl⟩ := List.mem_iff_getElem.1 hy
    exact (hp i _ (List.getElem?_eq_getElem hi)).1
theorem opens_iso {α β : Type} {P : Program} {t : TypeId} {kd : Kd α} {B : α → Prop} (h : Opens P t kd B) (f : β → α) (hf : ∀ b, ∃ a, f a = b) : Opens P t (Kd.iso kd f) (fun b => B (f b)) :=
  ⟨h.size, fun hx => by obtain ⟨a, ha⟩ := h.opened hx; obtain ⟨b, rfl⟩ := hf a; exact ⟨b, ha⟩⟩
/-- The fields of a struct from the offset o on. -/
structure OpensL {α : Type} (P : Program) (fs : List Field) (o : Nat) (kd : Kd α) (B : α → Prop) : Prop where
  opened : ∀ {H : Type} {enc : TypeId × Value → H} {w : World} {base : Nat} {sp : Nat → Bool} {held : Bool} {fuel : Nat} (cs : List Value), cs.length = o + kd.sz →
    (∀ f ∈ fs, ∃ x, DataW.trod enc P w base sp held fuel f.type ((cs.drop f.offset).take (P.cellsOf f.type)) = some x) → ∃ a, kd.K w a (cs.drop o) ∧ B a
theorem opensL_one {α : Type} {P : Program} {f : Field} {o : Nat} {kd : Kd α} {B : α → Prop} (ho : f.offset = o) (h : Opens P f.type kd B) : OpensL P [f] o kd B := by
  refine ⟨fun {H enc w base sp held fuel} cs hcs hf => ?_⟩
  obtain ⟨x, hx⟩ := hf f (by simp)
  obtain ⟨a, ha, hb⟩ := h.opened hx
  rw [ho, h.size, List.take_of_length_le (by simp [hcs])] at ha
  exact ⟨a, ha, hb⟩
theorem opensL_cons {α β : Type} {P : Program} {f : Field} {fs : List Field} {o : Nat} {kd : Kd α} {kd' : Kd β} {B : α → Prop} {B' : β → Prop} (ho : f.offset = o) (h : Opens P f.type kd B) (hr : OpensL P fs (o + kd.sz) kd' B') : OpensL P (f :: fs) o (Kd.pair kd kd') (fun p => B p.1 ∧ B' p.2) := by
  refine ⟨fun {H enc w base sp held fuel} cs hcs hf => ?_⟩
  obtain ⟨x, hx⟩ := hf f (by simp)
  obtain ⟨a, ha, hba⟩ := h.opened hx
  have hcs' : cs.length = o + kd.sz + kd'.sz := by rw [hcs]; show o + (kd.sz + kd'.sz) = _; omega
  obtain ⟨b, hb, hbb⟩ := hr.opened cs hcs' (fun g hg => hf g (by simp [hg]))
  rw [ho, h.size] at ha
  refine ⟨(a, b), ⟨(cs.drop o).take kd.sz, (cs.drop (o + kd.sz)), ?_, ha, hb⟩, hba, hbb⟩
  rw [← List.drop_drop, List.take_append_drop]
theorem opens_struct {α : Type} {P : Program} {t : TypeId} {fs : List Field} {kd : Kd α} {B : α → Prop} (ht : P.underlying t = some (.struct ⟨fs⟩)) (hs : P.cellsOf t = kd.sz) (h : OpensL P fs 0 kd B) : Opens P t kd B := by
  refine ⟨hs, fun {H enc w base sp held fuel cs x} hx => ?_⟩
  obtain ⟨xs, n, _, _, hl, hlen, hf⟩ := DataW.trod_struct ht hx
  obtain ⟨a, ha, hb⟩ := h.opened (enc := enc) (w := w) (base := base) (sp := sp) (held := held) (fuel := n) cs (by rw [hl, hs]; omega) (fun f hfm => by
    obtain ⟨i, hi, rfl⟩ := List.mem_iff_getElem.1 hfm
    have h1 := hf i fs[i] (by simp [hi])
    exact ⟨xs[i]'(by rw [hlen]; simpa using hi), by rw [h1, List.getElem?_eq_getElem]⟩)
  exact ⟨a, by simpa using ha, hb⟩
theorem opens_isoL {α β : Type} {P : Program} {fs : List Field} {o : Nat} {kd : Kd α} {B : α → Prop} (h : OpensL P fs o kd B) (f : β → α) (hf : ∀ b, ∃ a, f a = b) : OpensL P fs o (Kd.iso kd f) (fun b => B (f b)) := by
  refine ⟨fun {H enc w base sp held fuel} cs hcs hx => ?_⟩
  obtain ⟨a, ha⟩ := h.opened cs hcs hx
  obtain ⟨b, rfl⟩ := hf a
  exact ⟨b, ha⟩
/-- an argument's value, opened -/
theorem Opens.argB {α : Type} {P : Program} {t : TypeId} {kd : Kd α} {B : α → Prop} (h : Opens P t kd B) {H : Type} {enc : TypeId × Value → H} {w : World} {base : Nat} {sp : Nat → Bool} {held : Bool} {v : Value} {d : DataW H} {ps : List MemPlace}
    (hv : DataW.Trod enc P w base sp held t v d ps) : ∃ a, kd.K w a v.cells.toList ∧ B a := by
  obtain ⟨fuel, hf⟩ := hv
  exact h.opened hf
theorem Opens.arg {α : Type} {P : Program} {t : TypeId} {kd : Kd α} {B : α → Prop} (h : Opens P t kd B) {H : Type} {enc : TypeId × Value → H} {w : World} {base : Nat} {sp : Nat → Bool} {held : Bool} {v : Value} {d : DataW H} {ps : List MemPlace}
    (hv : DataW.Trod enc P w base sp held t v d ps) : ∃ a, kd.K w a v.cells.toList := by
  obtain ⟨a, ha, _⟩ := h.argB hv
  exact ⟨a, ha⟩
/-- An argument's row is no longer than its weight allows. -/
theorem sized_row {H : Type} {enc : TypeId × Value → H} {P : Program} {W : World} {base : Nat} {spare : Nat → Bool} {held : Bool} {t e : TypeId} {a : Option Addr} {len cap : Nat} {d : DataW H} {ps : List MemPlace} {ts : List TypeId} {ds : List (DataW H)} {j : Nat}
    (hsz : (DataW.weightsEach P ts ds).all (· ≤ reachBytes) = true) (ht : ts[j]? = some t) (hd : ds[j]? = some d) (hu : P.underlying t = some (.slice e)) {B : Nat} (hB : P.bytesOf e = B)
    (h : DataW.Trod enc P W base spare held t (.slice a len cap) d ps) : len * B ≤ 140737488351232 := by
  obtain ⟨fuel, hf⟩ := h
  rcases DataW.trod_slice hu hf with ⟨hcs, _⟩ | ⟨x, l, c, elems, rest, n, _, hcs, hx, _, hl, _, hlen, _⟩
  · simp [Value.cells] at hcs
    obtain ⟨rfl, rfl, rfl⟩ := hcs
    simp
  · simp [Value.cells] at hcs
    obtain ⟨rfl, rfl, rfl⟩ := hcs
    obtain ⟨rfl, _⟩ := Prod.mk.inj hx
    have z := sized_slice hsz ht hd hu
    rw [hB, List.length_map, List.length_map, hlen] at z
    exact Nat.le_trans (Nat.mul_le_mul_right _ (Nat.le_add_right _ _)) z
def bStmt (x : Stmt) : Prop := True ∧ bStr (x.x) ∧ bStr (x.y) ∧ bStr (x.z) ∧ bStr (x.op) ∧ True ∧ True ∧ True
theorem opens_Stmt : Opens Try.prog 30 k30 bStmt :=
  Opens.as (opens_struct Try.underlying30 (by kernel_rfl) (opens_isoL (opensL_cons rfl (opens_int (by kernel_rfl) (by kernel_rfl)) (opensL_cons rfl (opens_string (by kernel_rfl) (by kernel_rfl)) (opensL_cons rfl (opens_string (by kernel_rfl) (by kernel_rfl)) (opensL_cons rfl (opens_string (by kernel_rfl) (by kernel_rfl)) (opensL_cons rfl (opens_string (by kernel_rfl) (by kernel_rfl)) (opensL_cons rfl (opens_int (by kernel_rfl) (by kernel_rfl)) (opensL_cons rfl (opens_int (by kernel_rfl) (by kernel_rfl)) (opensL_one rfl (opens_int (by kernel_rfl) (by kernel_rfl)))))))))) _ (fun b => ⟨⟨b.1, b.2.1, b.2.2.1, b.2.2.2.1, b.2.2.2.2.1, b.2.2.2.2.2.1, b.2.2.2.2.2.2.1, b.2.2.2.2.2.2.2⟩, rfl⟩))) (fun _ h => h)
def bVar (x : Var) : Prop := bStr (x.name) ∧ True ∧ True ∧ True
theorem opens_Var : Opens Try.prog 54 k54 bVar :=
  Opens.as (opens_struct Try.underlying54 (by kernel_rfl) (opens_isoL (opensL_cons rfl (opens_string (by kernel_rfl) (by kernel_rfl)) (opensL_cons rfl (opens_int (by kernel_rfl) (by kernel_rfl)) (opensL_cons rfl (opens_int (by kernel_rfl) (by kernel_rfl)) (opensL_one rfl (opens_bool (by kernel_rfl) (by kernel_rfl)))))) _ (fun b => ⟨⟨b.1, b.2.1, b.2.2.1, b.2.2.2⟩, rfl⟩))) (fun _ h => h)
def bVisit (x : Visit) : Prop := True ∧ (x.vars.length ≤ 9223372036854775807 ∧ ∀ y ∈ x.vars, bVar (y))
theorem opens_Visit : Opens Try.prog 52 k52 bVisit :=
  Opens.as (opens_struct Try.underlying52 (by kernel_rfl) (opens_isoL (opensL_cons rfl (opens_int (by kernel_rfl) (by kernel_rfl)) (opensL_one rfl (opens_slice (by kernel_rfl) (by kernel_rfl) opens_Var 54))) _ (fun b => ⟨⟨b.1, b.2⟩, rfl⟩))) (fun _ h => h)
def bScript (x : Script) : Prop := (x.l.length ≤ 9223372036854775807 ∧ ∀ y ∈ x.l, bStmt (y)) ∧ (x.ins.length ≤ 9223372036854775807 ∧ ∀ y ∈ x.ins, True) ∧ (x.ora.length ≤ 9223372036854775807 ∧ ∀ y ∈ x.ora, True) ∧ True
theorem opens_Script : Opens Try.prog 43 k43 bScript :=
  Opens.as (opens_struct Try.underlying43 (by kernel_rfl) (opens_isoL (opensL_cons rfl (opens_slice (by kernel_rfl) (by kernel_rfl) opens_Stmt 30) (opensL_cons rfl (opens_slice (by kernel_rfl) (by kernel_rfl) (opens_int (t := 2) (by kernel_rfl) (by kernel_rfl)) 2) (opensL_cons rfl (opens_slice (by kernel_rfl) (by kernel_rfl) (opens_bool (t := 4) (by kernel_rfl) (by kernel_rfl)) 4) (opensL_one rfl (opens_int (by kernel_rfl) (by kernel_rfl)))))) _ (fun b => ⟨⟨b.1, b.2.1, b.2.2.1, b.2.2.2⟩, rfl⟩))) (fun _ h => h)
def bRVar (x : RVar) : Prop := bStr (x.name) ∧ True ∧ True ∧ True
theorem opens_RVar : Opens Try.prog 68 k68 bRVar :=
  Opens.as (opens_struct Try.underlying68 (by kernel_rfl) (opens_isoL (opensL_cons rfl (opens_string (by kernel_rfl) (by kernel_rfl)) (opensL_cons rfl (opens_int (by kernel_rfl) (by kernel_rfl)) (opensL_cons rfl (opens_int (by kernel_rfl) (by kernel_rfl)) (opensL_one rfl (opens_bool (by kernel_rfl) (by kernel_rfl)))))) _ (fun b => ⟨⟨b.1, b.2.1, b.2.2.1, b.2.2.2⟩, rfl⟩))) (fun _ h => h)
def bRVisit (x : RVisit) : Prop := True ∧ (x.vars.length ≤ 9223372036854775807 ∧ ∀ y ∈ x.vars, bRVar (y))
theorem opens_RVisit : Opens Try.prog 67 k67 bRVisit :=
  Opens.as (opens_struct Try.underlying67 (by kernel_rfl) (opens_isoL (opensL_cons rfl (opens_int (by kernel_rfl) (by kernel_rfl)) (opensL_one rfl (opens_slice (by kernel_rfl) (by kernel_rfl) opens_RVar 68))) _ (fun b => ⟨⟨b.1, b.2⟩, rfl⟩))) (fun _ h => h)
def bRState (x : RState) : Prop := True ∧ (x.vars.length ≤ 9223372036854775807 ∧ ∀ y ∈ x.vars, bRVar (y)) ∧ (x.ins.length ≤ 9223372036854775807 ∧ ∀ y ∈ x.ins, True) ∧ (x.ora.length ≤ 9223372036854775807 ∧ ∀ y ∈ x.ora, True)
theorem opens_RState : Opens Try.prog 77 k77 bRState :=
  Opens.as (opens_struct Try.underlying77 (by kernel_rfl) (opens_isoL (opensL_cons rfl (opens_int (by kernel_rfl) (by kernel_rfl)) (opensL_cons rfl (opens_slice (by kernel_rfl) (by kernel_rfl) opens_RVar 68) (opensL_cons rfl (opens_slice (by kernel_rfl) (by kernel_rfl) (opens_int (t := 2) (by kernel_rfl) (by kernel_rfl)) 2) (opensL_one rfl (opens_slice (by kernel_rfl) (by kernel_rfl) (opens_bool (t := 4) (by kernel_rfl) (by kernel_rfl)) 4))))) _ (fun b => ⟨⟨b.1, b.2.1, b.2.2.1, b.2.2.2⟩, rfl⟩))) (fun _ h => h)
end Go.Proofs.Ytnepgcbgkhikkaa.H
namespace Go.Proofs.Ytnepgcbgkhikkaa.cfgTaint
open Go.ChangeShapes Go.WideShapes Go.ChangeAt Go.RowKit Go.Proofs.Ytnepgcbgkhikkaa.H Go.Proofs.YtnepgcbgkhikkaaW.PrintWords
open Go.ChangeMaps (open_string shut_string)
set_option linter.unusedVariables false
theorem own : ownKnob Try.prog.godebug = none := by kernel_rfl
theorem laidOut : laidOutB Try.prog = true := by kernel_rfl
set_option maxRecDepth 100000 in
theorem lifted (os : Os) (started : os.Started) (H : Type) (enc : TypeId × Value → H) :
    ReturnsInHanded {} Try.checked os 13 .any (Rows.cfgTaintSpec.pre6 enc Try.prog Try.f13 Rows.cfgTaintRow.domain false) (Rows.cfgTaintSpec.post enc Try.prog Try.f13 false true false false) := by
  refine returnsInHanded_of_change_sized (C := Try.checked) own started (by kernel_rfl) Try.func13
    (ChangeSpec.witness6 (enc := enc) (C := Try.checked) false ⟨#[], #[.slice none 0 0, .int .i64 0, .string ⟨#[]⟩], []⟩ 8 (by kernel_rfl) (by kernel_rfl) (by kernel_rfl) (by kernel_rfl)) ?_
  intro W base args ds gs before hval0 hW hcnd hsz0 _
  have hsz : (DataW.weightsEach Try.prog (Try.f13.params.toList ++ Rows.cfgTaintSpec.plain.varTypes Try.prog) (ds ++ gs)).all (· ≤ reachBytes) = true := hsz0
  have hval : ∀ (j : Nat) t v, Try.f13.params[j]? = some t → args[j]? = some v → Value.okWide Try.prog W .any base t v := hval0
  have hW' := hW
  obtain ⟨p, q, hA0, hV, rfl, hfz, hnd⟩ := hW
  have hA : DataW.TrodAll enc Try.prog W 0 (fun _ => true) true Try.f13.params.toList args.toList ds p := hA0
  rw [Try.params13] at hA hval hsz
  obtain ⟨v0, vs0, d0, ds0, p0, q0, hargs, rfl, rfl, h0, r0⟩ := trodAll_cons hA
  obtain ⟨v1, vs1, d1, ds1, p1, q1, rfl, rfl, rfl, h1, r1⟩ := trodAll_cons r0
  obtain ⟨v2, vs2, d2, ds2, p2, q2, rfl, rfl, rfl, h2, r2⟩ := trodAll_cons r1
  obtain ⟨rfl, rfl, rfl⟩ := trodAll_nil r2
  obtain rfl : args = #[v0, v1, v2] := by cases args; simp_all
  obtain ⟨rfl, rfl⟩ := trodVars_none hV
  have k0 := h0
  have lt0 : ∀ x ∈ p0, x.block < W.heap.size := by obtain ⟨m, hm⟩ := k0; exact DataW.trod_lt m _ _ _ hm
  obtain ⟨a0, len0, cap0, rfl⟩ := okWide_slice Try.underlying22 (hval 0 22 v0 rfl rfl)
  have y0 := sized_row hsz (j := 0) (t := 22) rfl rfl Try.underlying22 (B := 96) (by kernel_rfl) h0
  obtain ⟨x0, A0, c0, e0, l0, g0⟩ := (opens_slice Try.underlying22 (by kernel_rfl) opens_Stmt 30).arg k0
  simp only [Value.cells, List.cons.injEq, and_true, Value.slice.injEq] at e0
  obtain ⟨rfl, rfl, rfl⟩ := e0
  obtain ⟨a1, rfl, rfl, rfl, w1⟩ := open_int Try.underlying3 (hval 1 3 v1 rfl rfl) h1
  obtain ⟨a2, rfl, rfl, rfl, y2⟩ := open_string Try.underlying9 (hval 2 9 v2 rfl rfl) h2
  have w2 : a2.size ≤ 140737488351232 := by
    have z := sized_string hsz (j := 2) (t := 9) rfl rfl
    rw [Array.length_toList] at z
    exact z
  clear hA0 hval0 hsz0 hsz
  refine (CfgTaint_walk W x0 a0 cap0 l0 g0 y0 a1 w1 a2 w2).mono fun e W' ⟨he, bel⟩ => ?_
  subst he
  exact ⟨_, rfl, _, _, _, [], _, [], hW', trodAll_mk1 (shut_bool Try.underlying4 _), (trodAll_cons_mk (Below.trod laidOut (by kernel_rfl) (of_decide_eq_true (by kernel_rfl)) k0 bel lt0) (trodAll_cons_mk (shut_int Try.underlying3 w1) (trodAll_cons_mk (shut_string Try.underlying9 y2) trodAll_mk0))), rfl, bel.frame _, fun h => by cases h⟩
theorem over : Rows.cfgTaintRow.holds Try.pinned (OpenSpec.ofChange Rows.cfgTaintSpec) :=
  OpenClaim.holds_of_wide 13 Try.f13 rfl rfl rfl rfl rfl rfl rfl ⟨rfl, rfl, rfl, rfl, rfl⟩ rfl rfl rfl rfl rfl (by kernel_rfl) Try.func13 (by kernel_rfl)
    (of_decide_eq_true (by kernel_rfl)) (by unfold Func.isWrapper; first | (rw [if_pos (by decide +kernel)]; kernel_rfl) | (rw [if_neg (by decide +kernel)]; exact ⟨rfl, rfl⟩))
    (fun os started H enc _ => lifted os started H enc)
theorem proved : Rows.CfgTaintSaid := over
end Go.Proofs.Ytnepgcbgkhikkaa.cfgTaint
namespace Go.Proofs.Ytnepgcbgkhikkaa
theorem cfgTaint_holds : Rows.CfgTaintSaid := cfgTaint.proved
#print axioms cfgTaint_holds
end Go.Proofs.Ytnepgcbgkhikkaa
