/- RowFactsSorted of the seat's law FactsSorted: the law holds, under the statement's own conditions. -/
import Derived.Test.YtoekfmdcplphmaaNXFactsSorted
set_option linter.unusedVariables false
set_option linter.unusedSimpArgs false
set_option linter.unusedSectionVars false
namespace Go.Proofs.Ytoekfmdcplphmaa.H
open Go.RowKit Go.Proofs.YtoekfmdcplphmaaW.PrintWords Go.Proofs.YtoekfmdcplphmaaW.PrintLast Go.Proofs.YtoekfmdcplphmaaW.PrintMore
attribute [local go_sem] max2_int min2_int max_two min_two max_three min_three max_four min_four
mutual
def facts_one.l0 : Nat → List (Fact) → List Int → Int → Int → Int → ByteArray → ByteArray → ByteArray → ByteArray → Int → Int → Int → Bool → ByteArray → Int → Option ((List (Fact)))
 | 0, _, _, _, _, _, _, _, _, _, _, _, _, _, _, _ => none
 | k + 1, x7, x29, x30, x31, x106000, x106001, x106002, x106003, x106004, x106005, x106006, x106007, x107000, x107001, x107002 => if x31 < x30 then (if 0 ≤ x31 then (if x31 < (x29.length : Int) then ((value_Int.f (rd x29 x31)).bind fun bt121 => ((facts_fact.f (⟨#[110, 101, 120, 116]⟩ : ByteArray) (([(⟨x107000, x107001, x107002⟩ : Val), (⟨bt121.1, bt121.2.1, bt121.2.2⟩ : Val)] : List (Val)))).bind fun bt127 => (if x7.length < 3518437208883 then (facts_one.l0 k (x7 ++ [(⟨bt127.1, bt127.2⟩ : Fact)]) x29 x30 (wrap64 (x31 + 1)) x106000 x106001 x106002 x106003 x106004 x106005 x106006 x106007 x107000 x107001 x107002) else (none)))) else (none)) else (none)) else ((cfg_Uses.f x106000 x106001 x106002 x106003 x106004 x106005 x106006 x106007).bind fun t134 => (facts_one.l1 k x7 t134 t134 (t134.length : Int) 0 x106000 x106001 x106002 x106003 x106004 x106005 x106006 x106007 x107000 x107001 x107002))
def facts_one.l1 : Nat → List (Fact) → List ByteArray → List ByteArray → Int → Int → Int → ByteArray → ByteArray → ByteArray → ByteArray → Int → Int → Int → Bool → ByteArray → Int → Option ((List (Fact)))
 | 0, _, _, _, _, _, _, _, _, _, _, _, _, _, _, _, _ => none
 | k + 1, x7, x10, x46, x47, x48, x106000, x106001, x106002, x106003, x106004, x106005, x106006, x106007, x107000, x107001, x107002 => if x48 < x47 then (if 0 ≤ x48 then (if x48 < (x46.length : Int) then ((value_Sym.f (rdOf ByteArray.empty x46 x48)).bind fun bt138 => ((facts_fact.f (⟨#[117, 115, 101]⟩ : ByteArray) (([(⟨x107000, x107001, x107002⟩ : Val), (⟨bt138.1, bt138.2.1, bt138.2.2⟩ : Val)] : List (Val)))).bind fun bt144 => (if x7.length < 3518437208883 then ((some (x7 ++ [(⟨bt144.1, bt144.2⟩ : Fact)] : List (Fact))).bind fun y148 => (if x106000 = 6 then ((value_Sym.f (rdOf ByteArray.empty x46 x48)).bind fun bt151 => ((facts_fact.f (⟨#[115, 105, 110, 107]⟩ : ByteArray) (([(⟨x107000, x107001, x107002⟩ : Val), (⟨bt151.1, bt151.2.1, bt151.2.2⟩ : Val)] : List (Val)))).bind fun bt157 => (if y148.length < 3518437208883 then (facts_one.l1 k (y148 ++ [(⟨bt157.1, bt157.2⟩ : Fact)]) x10 x46 x47 (wrap64 (x48 + 1)) x106000 x106001 x106002 x106003 x106004 x106005 x106006 x106007 x107000 x107001 x107002) else (none)))) else (facts_one.l1 k y148 x10 x46 x47 (wrap64 (x48 + 1)) x106000 x106001 x106002 x106003 x106004 x106005 x106006 x106007 x107000 x107001 x107002))) else (none)))) else (none)) else (none)) else ((cfg_Def.f x106000 x106001 x106002 x106003 x106004 x106005 x106006 x106007).bind fun bt164 => (if bt164.2 = true then ((value_Sym.f bt164.1).bind fun bt166 => ((facts_fact.f (⟨#[100, 101, 102]⟩ : ByteArray) (([(⟨x107000, x107001, x107002⟩ : Val), (⟨bt166.1, bt166.2.1, bt166.2.2⟩ : Val)] : List (Val)))).bind fun bt172 => (if x7.length < 3518437208883 then ((some (x7 ++ [(⟨bt172.1, bt172.2⟩ : Fact)] : List (Fact))).bind fun y176 => (if x106000 = 4 then ((value_Sym.f bt164.1).bind fun bt179 => ((facts_fact.f (⟨#[115, 111, 117, 114, 99, 101]⟩ : ByteArray) (([(⟨x107000, x107001, x107002⟩ : Val), (⟨bt179.1, bt179.2.1, bt179.2.2⟩ : Val)] : List (Val)))).bind fun bt185 => (if y176.length < 3518437208883 then (some (y176 ++ [(⟨bt185.1, bt185.2⟩ : Fact)])) else (none)))) else (if x106000 = 2 then (facts_one.j2 k y176 x10 bt164.1 (x106000 == 2) x107000 x107001 x107002) else (facts_one.j2 k y176 x10 bt164.1 (x106000 == 3) x107000 x107001 x107002)))) else (none)))) else (some x7)))
def facts_one.j2 : Nat → List (Fact) → List ByteArray → ByteArray → Bool → Bool → ByteArray → Int → Option ((List (Fact)))
 | 0, _, _, _, _, _, _, _ => none
 | k + 1, x7, x10, x13, x100, x107000, x107001, x107002 => if x100 = true then (facts_one.l2 k x7 x13 x10 (x10.length : Int) 0 x107000 x107001 x107002) else (some x7)
def facts_one.l2 : Nat → List (Fact) → ByteArray → List ByteArray → Int → Int → Bool → ByteArray → Int → Option ((List (Fact)))
 | 0, _, _, _, _, _, _, _, _ => none
 | k + 1, x7, x13, x103, x104, x105, x107000, x107001, x107002 => if x105 < x104 then (if 0 ≤ x105 then (if x105 < (x103.length : Int) then ((value_Sym.f x13).bind fun bt193 => ((value_Sym.f (rdOf ByteArray.empty x103 x105)).bind fun bt196 => ((facts_fact.f (⟨#[102, 108, 111, 119]⟩ : ByteArray) (([(⟨x107000, x107001, x107002⟩ : Val), (⟨bt193.1, bt193.2.1, bt193.2.2⟩ : Val), (⟨bt196.1, bt196.2.1, bt196.2.2⟩ : Val)] : List (Val)))).bind fun bt202 => (if x7.length < 3518437208883 then (facts_one.l2 k (x7 ++ [(⟨bt202.1, bt202.2⟩ : Fact)]) x13 x103 x104 (wrap64 (x105 + 1)) x107000 x107001 x107002) else (none))))) else (none)) else (none)) else (some x7)
end
def facts_one.f (k : Nat) (l0 : List (Stmt)) (a1 : Int) : Option ((List (Fact))) := if 0 ≤ a1 then (if a1 < (l0.length : Int) then ((value_Int.f a1).bind fun bt102 => ((facts_fact.f (⟨#[110, 111, 100, 101]⟩ : ByteArray) (([(⟨bt102.1, bt102.2.1, bt102.2.2⟩ : Val)] : List (Val)))).bind fun bt110 => ((cfg_Next.f l0 a1).bind fun t117 => (facts_one.l0 k (([(⟨bt110.1, bt110.2⟩ : Fact)] : List (Fact))) t117 (t117.length : Int) 0 ((rd_T33 l0 a1).kind) ((rd_T33 l0 a1).x) ((rd_T33 l0 a1).y) ((rd_T33 l0 a1).z) ((rd_T33 l0 a1).op) ((rd_T33 l0 a1).n) ((rd_T33 l0 a1).a) ((rd_T33 l0 a1).b) bt102.1 bt102.2.1 bt102.2.2)))) else (none)) else (none)
theorem facts_one.mono_l : ∀ k, (∀ y0 y1 y2 y3 y4 y5 y6 y7 y8 y9 y10 y11 y12 y13 y14, LeO (facts_one.l0 k y0 y1 y2 y3 y4 y5 y6 y7 y8 y9 y10 y11 y12 y13 y14) (facts_one.l0 (k + 1) y0 y1 y2 y3 y4 y5 y6 y7 y8 y9 y10 y11 y12 y13 y14)) ∧ (∀ y0 y1 y2 y3 y4 y5 y6 y7 y8 y9 y10 y11 y12 y13 y14 y15, LeO (facts_one.l1 k y0 y1 y2 y3 y4 y5 y6 y7 y8 y9 y10 y11 y12 y13 y14 y15) (facts_one.l1 (k + 1) y0 y1 y2 y3 y4 y5 y6 y7 y8 y9 y10 y11 y12 y13 y14 y15)) ∧ (∀ y0 y1 y2 y3 y4 y5 y6, LeO (facts_one.j2 k y0 y1 y2 y3 y4 y5 y6) (facts_one.j2 (k + 1) y0 y1 y2 y3 y4 y5 y6)) ∧ (∀ y0 y1 y2 y3 y4 y5 y6 y7, LeO (facts_one.l2 k y0 y1 y2 y3 y4 y5 y6 y7) (facts_one.l2 (k + 1) y0 y1 y2 y3 y4 y5 y6 y7))
 | 0 => ⟨fun _ _ _ _ _ _ _ _ _ _ _ _ _ _ _ r h => by simp [facts_one.l0] at h, fun _ _ _ _ _ _ _ _ _ _ _ _ _ _ _ _ r h => by simp [facts_one.l1] at h, fun _ _ _ _ _ _ _ r h => by simp [facts_one.j2] at h, fun _ _ _ _ _ _ _ _ r h => by simp [facts_one.l2] at h⟩
 | k + 1 => by
  obtain ⟨ih0, ih1, ih2, ih3⟩ := facts_one.mono_l k
  refine ⟨?_, ?_, ?_, ?_⟩
  ·intro y0 y1 y2 y3 y4 y5 y6 y7 y8 y9 y10 y11 y12 y13 y14
   unfold facts_one.l0
   repeat' first
   | (with_reducible exact ih0 _ _ _ _ _ _ _ _ _ _ _ _ _ _ _)
   | (with_reducible exact ih1 _ _ _ _ _ _ _ _ _ _ _ _ _ _ _ _)
   | (with_reducible exact ih2 _ _ _ _ _ _ _)
   | (with_reducible exact ih3 _ _ _ _ _ _ _ _)
   | (with_reducible exact LeO.refl _)
   | (with_reducible exact LeO.none _)
   | (with_reducible refine LeO.ite ?_ ?_)
   | (with_reducible refine LeO.bind ?_ (fun _ => ?_))
   | exact ih0 _ _ _ _ _ _ _ _ _ _ _ _ _ _ _
   | exact ih1 _ _ _ _ _ _ _ _ _ _ _ _ _ _ _ _
   | exact ih2 _ _ _ _ _ _ _
   | exact ih3 _ _ _ _ _ _ _ _
   | exact LeO.none _
   | refine LeO.ite ?_ ?_
   | refine LeO.bind ?_ (fun _ => ?_)
  ·intro y0 y1 y2 y3 y4 y5 y6 y7 y8 y9 y10 y11 y12 y13 y14 y15
   unfold facts_one.l1
   repeat' first
   | (with_reducible exact ih0 _ _ _ _ _ _ _ _ _ _ _ _ _ _ _)
   | (with_reducible exact ih1 _ _ _ _ _ _ _ _ _ _ _ _ _ _ _ _)
   | (with_reducible exact ih2 _ _ _ _ _ _ _)
   | (with_reducible exact ih3 _ _ _ _ _ _ _ _)
   | (with_reducible exact LeO.refl _)
   | (with_reducible exact LeO.none _)
   | (with_reducible refine LeO.ite ?_ ?_)
   | (with_reducible refine LeO.bind ?_ (fun _ => ?_))
   | exact ih0 _ _ _ _ _ _ _ _ _ _ _ _ _ _ _
   | exact ih1 _ _ _ _ _ _ _ _ _ _ _ _ _ _ _ _
   | exact ih2 _ _ _ _ _ _ _
   | exact ih3 _ _ _ _ _ _ _ _
   | exact LeO.none _
   | refine LeO.ite ?_ ?_
   | refine LeO.bind ?_ (fun _ => ?_)
  ·intro y0 y1 y2 y3 y4 y5 y6
   unfold facts_one.j2
   repeat' first
   | (with_reducible exact ih0 _ _ _ _ _ _ _ _ _ _ _ _ _ _ _)
   | (with_reducible exact ih1 _ _ _ _ _ _ _ _ _ _ _ _ _ _ _ _)
   | (with_reducible exact ih2 _ _ _ _ _ _ _)
   | (with_reducible exact ih3 _ _ _ _ _ _ _ _)
   | (with_reducible exact LeO.refl _)
   | (with_reducible exact LeO.none _)
   | (with_reducible refine LeO.ite ?_ ?_)
   | (with_reducible refine LeO.bind ?_ (fun _ => ?_))
   | exact ih0 _ _ _ _ _ _ _ _ _ _ _ _ _ _ _
   | exact ih1 _ _ _ _ _ _ _ _ _ _ _ _ _ _ _ _
   | exact ih2 _ _ _ _ _ _ _
   | exact ih3 _ _ _ _ _ _ _ _
   | exact LeO.none _
   | refine LeO.ite ?_ ?_
   | refine LeO.bind ?_ (fun _ => ?_)
  ·intro y0 y1 y2 y3 y4 y5 y6 y7
   unfold facts_one.l2
   repeat' first
   | (with_reducible exact ih0 _ _ _ _ _ _ _ _ _ _ _ _ _ _ _)
   | (with_reducible exact ih1 _ _ _ _ _ _ _ _ _ _ _ _ _ _ _ _)
   | (with_reducible exact ih2 _ _ _ _ _ _ _)
   | (with_reducible exact ih3 _ _ _ _ _ _ _ _)
   | (with_reducible exact LeO.refl _)
   | (with_reducible exact LeO.none _)
   | (with_reducible refine LeO.ite ?_ ?_)
   | (with_reducible refine LeO.bind ?_ (fun _ => ?_))
   | exact ih0 _ _ _ _ _ _ _ _ _ _ _ _ _ _ _
   | exact ih1 _ _ _ _ _ _ _ _ _ _ _ _ _ _ _ _
   | exact ih2 _ _ _ _ _ _ _
   | exact ih3 _ _ _ _ _ _ _ _
   | exact LeO.none _
   | refine LeO.ite ?_ ?_
   | refine LeO.bind ?_ (fun _ => ?_)
theorem facts_one.mono : ∀ a0 a1 k, LeO (facts_one.f k a0 a1) (facts_one.f (k + 1) a0 a1) := by
 intro a0 a1 k
 obtain ⟨ih0, ih1, ih2, ih3⟩ := facts_one.mono_l k
 unfold facts_one.f
 repeat' first
   | (with_reducible exact ih0 _ _ _ _ _ _ _ _ _ _ _ _ _ _ _)
   | (with_reducible exact ih1 _ _ _ _ _ _ _ _ _ _ _ _ _ _ _ _)
   | (with_reducible exact ih2 _ _ _ _ _ _ _)
   | (with_reducible exact ih3 _ _ _ _ _ _ _ _)
   | (with_reducible exact LeO.refl _)
   | (with_reducible exact LeO.none _)
   | (with_reducible refine LeO.ite ?_ ?_)
   | (with_reducible refine LeO.bind ?_ (fun _ => ?_))
   | exact ih0 _ _ _ _ _ _ _ _ _ _ _ _ _ _ _
   | exact ih1 _ _ _ _ _ _ _ _ _ _ _ _ _ _ _ _
   | exact ih2 _ _ _ _ _ _ _
   | exact ih3 _ _ _ _ _ _ _ _
   | exact LeO.none _
   | refine LeO.ite ?_ ?_
   | refine LeO.bind ?_ (fun _ => ?_)
def facts_one.T1 : Bool × List (List Nat × List Nat) := (true, [([], []), ([], []), ([0, 1], [0, 1]), ([2], [2]), ([], []), ([4], [4]), ([], []), ([], []), ([6, 3, 5, 0, 1, 2, 3, 6, 7], [3, 6]), ([7, 5, 8, 0, 1, 2, 3, 4, 5, 6, 7, 8], [5, 7])])
def facts_one.B1 : List Nat := [0, 0, 3, 7, 0, 16, 0, 0, 255, 511]
theorem facts_one.tab1 : rtab .any (opsOf Try.f18 1) = facts_one.T1 := by kernel_rfl
theorem facts_one.bits1 : waitsOk facts_one.T1.2 facts_one.B1 = true := by kernel_rfl
def facts_one.T6 : Bool × List (List Nat × List Nat) := (true, [([], []), ([], []), ([], []), ([2], [2]), ([1, 3], [1, 3]), ([4, 3], [4]), ([5], [5]), ([0, 6, 5], [0, 6]), ([7, 7, 0, 1, 2, 3, 4, 5, 6, 7], [0, 7])])
def facts_one.B6 : List Nat := [0, 0, 0, 4, 14, 30, 62, 127, 255]
theorem facts_one.tab6 : rtab .any (opsOf Try.f18 6) = facts_one.T6 := by kernel_rfl
theorem facts_one.bits6 : waitsOk facts_one.T6.2 facts_one.B6 = true := by kernel_rfl
def facts_one.T12 : Bool × List (List Nat × List Nat) := (true, [([], []), ([], []), ([], []), ([2], [2]), ([1, 3], [1, 3]), ([4, 3], [4]), ([5], [5]), ([0, 6, 5], [0, 6]), ([7, 7, 0, 1, 2, 3, 4, 5, 6, 7], [0, 7])])
def facts_one.B12 : List Nat := [0, 0, 0, 4, 14, 30, 62, 127, 255]
theorem facts_one.tab12 : rtab .any (opsOf Try.f18 12) = facts_one.T12 := by kernel_rfl
theorem facts_one.bits12 : waitsOk facts_one.T12.2 facts_one.B12 = true := by kernel_rfl
def facts_one.T14 : Bool × List (List Nat × List Nat) := (true, [([], []), ([], []), ([], []), ([2], [2]), ([1, 3], [1, 3]), ([4, 3], [4]), ([5], [5]), ([0, 6, 5], [0, 6]), ([7, 7, 0, 1, 2, 3, 4, 5, 6, 7], [0, 7])])
def facts_one.B14 : List Nat := [0, 0, 0, 4, 14, 30, 62, 127, 255]
theorem facts_one.tab14 : rtab .any (opsOf Try.f18 14) = facts_one.T14 := by kernel_rfl
theorem facts_one.bits14 : waitsOk facts_one.T14.2 facts_one.B14 = true := by kernel_rfl
def facts_one.T19 : Bool × List (List Nat × List Nat) := (true, [([], []), ([], []), ([], []), ([2], [2]), ([1, 3], [1, 3]), ([4, 3], [4]), ([5], [5]), ([0, 6, 5], [0, 6]), ([7, 7, 0, 1, 2, 3, 4, 5, 6, 7], [0, 7])])
def facts_one.B19 : List Nat := [0, 0, 0, 4, 14, 30, 62, 127, 255]
theorem facts_one.tab19 : rtab .any (opsOf Try.f18 19) = facts_one.T19 := by kernel_rfl
theorem facts_one.bits19 : waitsOk facts_one.T19.2 facts_one.B19 = true := by kernel_rfl
def facts_one.T22 : Bool × List (List Nat × List Nat) := (true, [([], []), ([], []), ([], []), ([2], [2]), ([1, 3], [1, 3]), ([4, 3], [4]), ([5], [5]), ([0, 6, 5], [0, 6]), ([7, 7, 0, 1, 2, 3, 4, 5, 6, 7], [0, 7])])
def facts_one.B22 : List Nat := [0, 0, 0, 4, 14, 30, 62, 127, 255]
theorem facts_one.tab22 : rtab .any (opsOf Try.f18 22) = facts_one.T22 := by kernel_rfl
theorem facts_one.bits22 : waitsOk facts_one.T22.2 facts_one.B22 = true := by kernel_rfl
def facts_one.T28 : Bool × List (List Nat × List Nat) := (true, [([], []), ([], []), ([], []), ([2], [2]), ([], []), ([4, 3], [4]), ([1, 3, 5], [1, 3, 5]), ([6, 5], [6]), ([7], [7]), ([0, 8, 7], [0, 8]), ([9, 9, 0, 1, 2, 3, 4, 5, 6, 7, 8, 9], [0, 9])])
def facts_one.B28 : List Nat := [0, 0, 0, 4, 0, 28, 62, 126, 254, 511, 1023]
theorem facts_one.tab28 : rtab .any (opsOf Try.f18 28) = facts_one.T28 := by kernel_rfl
theorem facts_one.bits28 : waitsOk facts_one.T28.2 facts_one.B28 = true := by kernel_rfl
set_option maxHeartbeats 8000000 in
set_option maxRecDepth 100000 in
theorem facts_one.calls (k : Nat) (A0 : Option Addr) (c0 : Nat) (l0 : List (Stmt)) (a1 : Int) (r : List (Fact)) (w : World) (hr0 : Kd.C k33 w A0 l0.length l0) (hc0 : l0.length ≤ c0) (h : facts_one.f k l0 a1 = some r) :
  Calls Try.prog 18 #[.slice A0 l0.length c0, .int .i64 a1] w fun e w' => ∃ v0_ : Value, e = .returned (v0_) ∧ Kd.N k44 44 w' w.heap.size (fun k_ => (w.heap.size ≤ k_)) v0_ r ∧ Below w.heap.size w w' := by
 have hu33 := Try.underlying33
 have hu28 := Try.underlying28
 have HR0 := am hr0
 have HC0 := am hc0
 clear hr0 hc0
 have HB := am (Below.refl w.heap.size w)
 have H : (if 0 ≤ a1 then (if a1 < (l0.length : Int) then ((value_Int.f a1).bind fun bt102 => ((facts_fact.f (⟨#[110, 111, 100, 101]⟩ : ByteArray) (([(⟨bt102.1, bt102.2.1, bt102.2.2⟩ : Val)] : List (Val)))).bind fun bt110 => ((cfg_Next.f l0 a1).bind fun t117 => (facts_one.l0 k (([(⟨bt110.1, bt110.2⟩ : Fact)] : List (Fact))) t117 (t117.length : Int) 0 ((rd_T33 l0 a1).kind) ((rd_T33 l0 a1).x) ((rd_T33 l0 a1).y) ((rd_T33 l0 a1).z) ((rd_T33 l0 a1).op) ((rd_T33 l0 a1).n) ((rd_T33 l0 a1).a) ((rd_T33 l0 a1).b) bt102.1 bt102.2.1 bt102.2.2)))) else (none)) else (none)) = some r := h
 clear h
 by_cases c3 : 0 ≤ a1
 ·rw [if_pos c3] at H
  have c3b0 : decide (0 ≤ a1) = true := decide_eq_true c3
  clear c3
  by_cases c4 : a1 < (l0.length : Int)
  ·rw [if_pos c4] at H
   have c4b0 : decide (a1 < (l0.length : Int)) = true := decide_eq_true c4
   clear c4
   replace H := Option.bind_eq_some_iff.mp H
   obtain ⟨⟨t102, t103, t104⟩, A50, H⟩ := H
   replace H : ((facts_fact.f (⟨#[110, 111, 100, 101]⟩ : ByteArray) (([(⟨t102, t103, t104⟩ : Val)] : List (Val)))).bind fun bt110 => ((cfg_Next.f l0 a1).bind fun t117 => (facts_one.l0 k (([(⟨bt110.1, bt110.2⟩ : Fact)] : List (Fact))) t117 (t117.length : Int) 0 ((rd_T33 l0 a1).kind) ((rd_T33 l0 a1).x) ((rd_T33 l0 a1).y) ((rd_T33 l0 a1).z) ((rd_T33 l0 a1).op) ((rd_T33 l0 a1).n) ((rd_T33 l0 a1).a) ((rd_T33 l0 a1).b) t102 t103 t104))) = some r := H
   have A5 := am A50
   clear A50
   obtain ⟨y107, hy107⟩ : ∃ y_ : List (Val), y_ = (([(⟨t102, t103, t104⟩ : Val)] : List (Val))) := ⟨_, rfl⟩
   replace H : ((facts_fact.f (⟨#[110, 111, 100, 101]⟩ : ByteArray) y107).bind fun bt110 => ((cfg_Next.f l0 a1).bind fun t117 => (facts_one.l0 k (([(⟨bt110.1, bt110.2⟩ : Fact)] : List (Fact))) t117 (t117.length : Int) 0 ((rd_T33 l0 a1).kind) ((rd_T33 l0 a1).x) ((rd_T33 l0 a1).y) ((rd_T33 l0 a1).z) ((rd_T33 l0 a1).op) ((rd_T33 l0 a1).n) ((rd_T33 l0 a1).a) ((rd_T33 l0 a1).b) t102 t103 t104))) = some r := by first | (rw [hy107]; with_reducible exact H) | (have H2_ := (Option.bind_some _ _).symm.trans H; rw [hy107]; with_reducible exact H2_) | (have H2_ := (Option.bind_some _ _).symm.trans H; with_reducible exact H2_) | with_reducible exact H | (rw [hy107]; exact H) | exact H
   have Ny107 := am hy107
   clear hy107
   replace H := Option.bind_eq_some_iff.mp H
   obtain ⟨⟨t110, t111⟩, A60, H⟩ := H
   replace H : ((cfg_Next.f l0 a1).bind fun t117 => (facts_one.l0 k (([(⟨t110, t111⟩ : Fact)] : List (Fact))) t117 (t117.length : Int) 0 ((rd_T33 l0 a1).kind) ((rd_T33 l0 a1).x) ((rd_T33 l0 a1).y) ((rd_T33 l0 a1).z) ((rd_T33 l0 a1).op) ((rd_T33 l0 a1).n) ((rd_T33 l0 a1).a) ((rd_T33 l0 a1).b) t102 t103 t104)) = some r := H
   have A6 := am A60
   clear A60
   obtain ⟨y114, hy114⟩ : ∃ y_ : List (Fact), y_ = (([(⟨t110, t111⟩ : Fact)] : List (Fact))) := ⟨_, rfl⟩
   replace H : ((cfg_Next.f l0 a1).bind fun t117 => (facts_one.l0 k y114 t117 (t117.length : Int) 0 ((rd_T33 l0 a1).kind) ((rd_T33 l0 a1).x) ((rd_T33 l0 a1).y) ((rd_T33 l0 a1).z) ((rd_T33 l0 a1).op) ((rd_T33 l0 a1).n) ((rd_T33 l0 a1).a) ((rd_T33 l0 a1).b) t102 t103 t104)) = some r := by first | (rw [hy114]; with_reducible exact H) | (have H2_ := (Option.bind_some _ _).symm.trans H; rw [hy114]; with_reducible exact H2_) | (have H2_ := (Option.bind_some _ _).symm.trans H; with_reducible exact H2_) | with_reducible exact H | (rw [hy114]; exact H) | exact H
   have Ny114 := am hy114
   clear hy114
   replace H := Option.bind_eq_some_iff.mp H
   obtain ⟨t117, A70, H⟩ := H
   replace H : (facts_one.l0 k y114 t117 (t117.length : Int) 0 ((rd_T33 l0 a1).kind) ((rd_T33 l0 a1).x) ((rd_T33 l0 a1).y) ((rd_T33 l0 a1).z) ((rd_T33 l0 a1).op) ((rd_T33 l0 a1).n) ((rd_T33 l0 a1).a) ((rd_T33 l0 a1).b) t102 t103 t104) = some r := H
   have A7 := am A70
   clear A70
   have H' := am H
   clear H
   go_enter Try.func18, Try.ntmps18
   try go_wp2
   replace HB := am (below_drew1 HB.out)
   have p101 : 0 ≤ (a1 : Int) := dt_
   have q101 : a1 < (l0.length : Int) := dt_
   obtain ⟨ad101, e101, hx101_0, hx101_1, hx101_2, hx101_3, hx101_4, hx101_5, hx101_6, hx101_7⟩ := at_T33 HR0.out a1 p101 q101
   have hw101_7 := hx101_7
   have hw101_6 := hx101_6
   have hw101_5 := hx101_5
   have hw101_4 := hx101_4
   have hw101_3 := hx101_3
   have hw101_2 := hx101_2
   have hw101_1 := hx101_1
   have hw101_0 := hx101_0
   cases e101
   replace hx101_0 := up_ HB.out hx101_0
   replace hx101_1 := up_ HB.out hx101_1
   replace hx101_2 := up_ HB.out hx101_2
   replace hx101_3 := up_ HB.out hx101_3
   replace hx101_4 := up_ HB.out hx101_4
   replace hx101_5 := up_ HB.out hx101_5
   replace hx101_6 := up_ HB.out hx101_6
   replace hx101_7 := up_ HB.out hx101_7
   replace p101 := eq_true p101
   replace q101 := eq_true q101
   refine start_ (n := 10) (S := fun w' => w'.cell? (ad101.add ((a1).toNat * 8)) = some (.int .i64 ((rd_T33 l0 a1).kind)) ∧ w'.cell? ⟨(ad101.add ((a1).toNat * 8)).block, (ad101.add ((a1).toNat * 8)).off + 1, none⟩ = some (.string ((rd_T33 l0 a1).x)) ∧ w'.cell? ⟨(ad101.add ((a1).toNat * 8)).block, (ad101.add ((a1).toNat * 8)).off + 2, none⟩ = some (.string ((rd_T33 l0 a1).y)) ∧ w'.cell? ⟨(ad101.add ((a1).toNat * 8)).block, (ad101.add ((a1).toNat * 8)).off + 3, none⟩ = some (.string ((rd_T33 l0 a1).z)) ∧ w'.cell? ⟨(ad101.add ((a1).toNat * 8)).block, (ad101.add ((a1).toNat * 8)).off + 4, none⟩ = some (.string ((rd_T33 l0 a1).op)) ∧ w'.cell? ⟨(ad101.add ((a1).toNat * 8)).block, (ad101.add ((a1).toNat * 8)).off + 5, none⟩ = some (.int .i64 ((rd_T33 l0 a1).n)) ∧ w'.cell? ⟨(ad101.add ((a1).toNat * 8)).block, (ad101.add ((a1).toNat * 8)).off + 6, none⟩ = some (.int .i64 ((rd_T33 l0 a1).a)) ∧ w'.cell? ⟨(ad101.add ((a1).toNat * 8)).block, (ad101.add ((a1).toNat * 8)).off + 7, none⟩ = some (.int .i64 ((rd_T33 l0 a1).b))) (ds := []) (bl 10 0) (by kernel_rfl) rfl rfl ⟨(up_ HB.out hw101_0), (up_ HB.out hw101_1), (up_ HB.out hw101_2), (up_ HB.out hw101_3), (up_ HB.out hw101_4), (up_ HB.out hw101_5), (up_ HB.out hw101_6), (up_ HB.out hw101_7)⟩ (fun hHeld => ?_); refine with_tabW facts_one.tab1 facts_one.bits1 (fun HT_ HW_ => ?_)
   generalize w.drew = w8 at HB hx101_0 hx101_1 hx101_2 hx101_3 hx101_4 hx101_5 hx101_6 hx101_7 hHeld ⊢
   refine pure_ (i := 0) (N := some 17) (v := ?_) (a' := ?_) (bl 10 1) rfl rfl (any_of HT_.out (by kernel_rfl)) (fun _ _ _ h => h) (Or.inl ⟨by rfl, ?_⟩) ?_ ?_
   rotate_left
   ·intro w'
    go_simp
    with_reducible rfl
   rotate_left
   ·simp only [Act.put, sA, sZ, sS, i64_w, i32_w]
    rfl
   refine pure_ (i := 1) (N := some 18) (v := ?_) (a' := ?_) (bl 10 3) rfl rfl (any_of HT_.out (by kernel_rfl)) (fun _ _ _ h => h) (Or.inl ⟨by rfl, ?_⟩) ?_ ?_
   rotate_left
   ·intro w'
    go_simp
    with_reducible rfl
   rotate_left
   ·simp only [Act.put, sA, sZ, sS, i64_w, i32_w]
    rfl
   refine pure_ (i := 2) (N := some 19) (v := ?_) (a' := ?_) (bl 10 7) rfl rfl (any_of HT_.out (by kernel_rfl)) (fun _ _ _ h => h) (Or.inl ⟨by rfl, ?_⟩) ?_ ?_
   rotate_left
   ·intro w'
    go_simp
    with_reducible rfl
   rotate_left
   ·simp only [Act.put, sA, sZ, sS, i64_w, i32_w]
    rfl
   refine pure_ (i := 4) (N := some 21) (v := ?_) (a' := ?_) (bl 10 23) rfl rfl (any_of HT_.out (by kernel_rfl)) (fun _ _ _ h => h) (Or.inl ⟨by rfl, ?_⟩) ?_ ?_
   rotate_left
   ·intro w'
    go_simp
    with_reducible rfl
   rotate_left
   ·simp only [Act.put, sA, sZ, sS, i64_w, i32_w]
    rfl
   refine take_ (i := 3) (N := some 20) (v := ?_) (a' := ?_) (bl 10 31) rfl rfl (take_ofW HT_.out HW_.out (by kernel_rfl)) (fun _ _ _ h => h) (Or.inl ⟨by rfl, ?_⟩) hHeld ?_ ?_
   rotate_left
   ·rintro w' ⟨s0, s1, s2, s3, s4, s5, s6, s7⟩
    go_simp
    with_reducible rfl
   rotate_left
   ·simp only [Act.put, sA, sZ, sS, i64_w, i32_w]
    rfl
   refine join_ (σ := Nat × Nat) 2 (bl 10 255) (fun s_ => [(22, .agg #[.bool t102, .string t103, .int .i64 t104]), (5, .pointer (some ⟨s_.1, 0, none⟩)), (6, .pointer (some ⟨s_.2, 0, none⟩))]) (fun s_ w' => (w'.cell? (ad101.add ((a1).toNat * 8)) = some (.int .i64 ((rd_T33 l0 a1).kind)) ∧ w'.cell? ⟨(ad101.add ((a1).toNat * 8)).block, (ad101.add ((a1).toNat * 8)).off + 1, none⟩ = some (.string ((rd_T33 l0 a1).x)) ∧ w'.cell? ⟨(ad101.add ((a1).toNat * 8)).block, (ad101.add ((a1).toNat * 8)).off + 2, none⟩ = some (.string ((rd_T33 l0 a1).y)) ∧ w'.cell? ⟨(ad101.add ((a1).toNat * 8)).block, (ad101.add ((a1).toNat * 8)).off + 3, none⟩ = some (.string ((rd_T33 l0 a1).z)) ∧ w'.cell? ⟨(ad101.add ((a1).toNat * 8)).block, (ad101.add ((a1).toNat * 8)).off + 4, none⟩ = some (.string ((rd_T33 l0 a1).op)) ∧ w'.cell? ⟨(ad101.add ((a1).toNat * 8)).block, (ad101.add ((a1).toNat * 8)).off + 5, none⟩ = some (.int .i64 ((rd_T33 l0 a1).n)) ∧ w'.cell? ⟨(ad101.add ((a1).toNat * 8)).block, (ad101.add ((a1).toNat * 8)).off + 6, none⟩ = some (.int .i64 ((rd_T33 l0 a1).a)) ∧ w'.cell? ⟨(ad101.add ((a1).toNat * 8)).block, (ad101.add ((a1).toNat * 8)).off + 7, none⟩ = some (.int .i64 ((rd_T33 l0 a1).b))) ∧ (w'.heap[s_.1]? = some (.cells #[.int .i64 0, .string (⟨#[]⟩ : ByteArray), .string (⟨#[]⟩ : ByteArray), .string (⟨#[]⟩ : ByteArray), .string (⟨#[]⟩ : ByteArray), .int .i64 0, .int .i64 0, .int .i64 0] 33 (0, 0))) ∧ (w'.heap[s_.2]? = some (.cells #[.bool false, .string (⟨#[]⟩ : ByteArray), .int .i64 0] 28 (0, 0))) ∧ (w.heap.size ≤ s_.1) ∧ (w.heap.size ≤ s_.1) ∧ (s_.2 ≠ s_.1) ∧ (s_.1 ≠ s_.2) ∧ (w.heap.size ≤ s_.2) ∧ (w.heap.size ≤ s_.2) ∧ (Below w.heap.size w w')) ?_ ?_
   rotate_left
   ·intro hJ5_6_7
    refine join_ (σ := Nat) 3 (bl 10 127) (fun s_ => [(22, .agg #[.bool t102, .string t103, .int .i64 t104]), (5, .pointer (some ⟨s_, 0, none⟩))]) (fun s_ w' => (w'.cell? (ad101.add ((a1).toNat * 8)) = some (.int .i64 ((rd_T33 l0 a1).kind)) ∧ w'.cell? ⟨(ad101.add ((a1).toNat * 8)).block, (ad101.add ((a1).toNat * 8)).off + 1, none⟩ = some (.string ((rd_T33 l0 a1).x)) ∧ w'.cell? ⟨(ad101.add ((a1).toNat * 8)).block, (ad101.add ((a1).toNat * 8)).off + 2, none⟩ = some (.string ((rd_T33 l0 a1).y)) ∧ w'.cell? ⟨(ad101.add ((a1).toNat * 8)).block, (ad101.add ((a1).toNat * 8)).off + 3, none⟩ = some (.string ((rd_T33 l0 a1).z)) ∧ w'.cell? ⟨(ad101.add ((a1).toNat * 8)).block, (ad101.add ((a1).toNat * 8)).off + 4, none⟩ = some (.string ((rd_T33 l0 a1).op)) ∧ w'.cell? ⟨(ad101.add ((a1).toNat * 8)).block, (ad101.add ((a1).toNat * 8)).off + 5, none⟩ = some (.int .i64 ((rd_T33 l0 a1).n)) ∧ w'.cell? ⟨(ad101.add ((a1).toNat * 8)).block, (ad101.add ((a1).toNat * 8)).off + 6, none⟩ = some (.int .i64 ((rd_T33 l0 a1).a)) ∧ w'.cell? ⟨(ad101.add ((a1).toNat * 8)).block, (ad101.add ((a1).toNat * 8)).off + 7, none⟩ = some (.int .i64 ((rd_T33 l0 a1).b))) ∧ (w'.heap[s_]? = some (.cells #[.int .i64 0, .string (⟨#[]⟩ : ByteArray), .string (⟨#[]⟩ : ByteArray), .string (⟨#[]⟩ : ByteArray), .string (⟨#[]⟩ : ByteArray), .int .i64 0, .int .i64 0, .int .i64 0] 33 (0, 0))) ∧ (w.heap.size ≤ s_) ∧ (w.heap.size ≤ s_) ∧ (Below w.heap.size w w')) ?_ ?_
    rotate_left
    ·intro hJ5_6
     refine join_ (σ := Nat) 3 (bl 10 191) (fun s_ => [(22, .agg #[.bool t102, .string t103, .int .i64 t104]), (6, .pointer (some ⟨s_, 0, none⟩))]) (fun s_ w' => (w'.cell? (ad101.add ((a1).toNat * 8)) = some (.int .i64 ((rd_T33 l0 a1).kind)) ∧ w'.cell? ⟨(ad101.add ((a1).toNat * 8)).block, (ad101.add ((a1).toNat * 8)).off + 1, none⟩ = some (.string ((rd_T33 l0 a1).x)) ∧ w'.cell? ⟨(ad101.add ((a1).toNat * 8)).block, (ad101.add ((a1).toNat * 8)).off + 2, none⟩ = some (.string ((rd_T33 l0 a1).y)) ∧ w'.cell? ⟨(ad101.add ((a1).toNat * 8)).block, (ad101.add ((a1).toNat * 8)).off + 3, none⟩ = some (.string ((rd_T33 l0 a1).z)) ∧ w'.cell? ⟨(ad101.add ((a1).toNat * 8)).block, (ad101.add ((a1).toNat * 8)).off + 4, none⟩ = some (.string ((rd_T33 l0 a1).op)) ∧ w'.cell? ⟨(ad101.add ((a1).toNat * 8)).block, (ad101.add ((a1).toNat * 8)).off + 5, none⟩ = some (.int .i64 ((rd_T33 l0 a1).n)) ∧ w'.cell? ⟨(ad101.add ((a1).toNat * 8)).block, (ad101.add ((a1).toNat * 8)).off + 6, none⟩ = some (.int .i64 ((rd_T33 l0 a1).a)) ∧ w'.cell? ⟨(ad101.add ((a1).toNat * 8)).block, (ad101.add ((a1).toNat * 8)).off + 7, none⟩ = some (.int .i64 ((rd_T33 l0 a1).b))) ∧ (w'.heap[s_]? = some (.cells #[.bool false, .string (⟨#[]⟩ : ByteArray), .int .i64 0] 28 (0, 0))) ∧ (w.heap.size ≤ s_) ∧ (w.heap.size ≤ s_) ∧ (Below w.heap.size w w')) ?_ ?_
     rotate_left
     ·intro hJ5_7
      refine join_ (σ := Nat × Nat) 3 (bl 10 223) (fun s_ => [(5, .pointer (some ⟨s_.1, 0, none⟩)), (6, .pointer (some ⟨s_.2, 0, none⟩))]) (fun s_ w' => (w'.cell? (ad101.add ((a1).toNat * 8)) = some (.int .i64 ((rd_T33 l0 a1).kind)) ∧ w'.cell? ⟨(ad101.add ((a1).toNat * 8)).block, (ad101.add ((a1).toNat * 8)).off + 1, none⟩ = some (.string ((rd_T33 l0 a1).x)) ∧ w'.cell? ⟨(ad101.add ((a1).toNat * 8)).block, (ad101.add ((a1).toNat * 8)).off + 2, none⟩ = some (.string ((rd_T33 l0 a1).y)) ∧ w'.cell? ⟨(ad101.add ((a1).toNat * 8)).block, (ad101.add ((a1).toNat * 8)).off + 3, none⟩ = some (.string ((rd_T33 l0 a1).z)) ∧ w'.cell? ⟨(ad101.add ((a1).toNat * 8)).block, (ad101.add ((a1).toNat * 8)).off + 4, none⟩ = some (.string ((rd_T33 l0 a1).op)) ∧ w'.cell? ⟨(ad101.add ((a1).toNat * 8)).block, (ad101.add ((a1).toNat * 8)).off + 5, none⟩ = some (.int .i64 ((rd_T33 l0 a1).n)) ∧ w'.cell? ⟨(ad101.add ((a1).toNat * 8)).block, (ad101.add ((a1).toNat * 8)).off + 6, none⟩ = some (.int .i64 ((rd_T33 l0 a1).a)) ∧ w'.cell? ⟨(ad101.add ((a1).toNat * 8)).block, (ad101.add ((a1).toNat * 8)).off + 7, none⟩ = some (.int .i64 ((rd_T33 l0 a1).b))) ∧ (w'.heap[s_.1]? = some (.cells #[.int .i64 0, .string (⟨#[]⟩ : ByteArray), .string (⟨#[]⟩ : ByteArray), .string (⟨#[]⟩ : ByteArray), .string (⟨#[]⟩ : ByteArray), .int .i64 0, .int .i64 0, .int .i64 0] 33 (0, 0))) ∧ (w'.heap[s_.2]? = some (.cells #[.bool false, .string (⟨#[]⟩ : ByteArray), .int .i64 0] 28 (0, 0))) ∧ (w.heap.size ≤ s_.1) ∧ (w.heap.size ≤ s_.1) ∧ (s_.2 ≠ s_.1) ∧ (s_.1 ≠ s_.2) ∧ (w.heap.size ≤ s_.2) ∧ (w.heap.size ≤ s_.2) ∧ (Below w.heap.size w w')) ?_ ?_
      rotate_left
      ·intro hJ6_7
       refine join_ (σ := Unit) 4 (bl 10 63) (fun s_ => [(22, .agg #[.bool t102, .string t103, .int .i64 t104])]) (fun s_ w' => (w'.cell? (ad101.add ((a1).toNat * 8)) = some (.int .i64 ((rd_T33 l0 a1).kind)) ∧ w'.cell? ⟨(ad101.add ((a1).toNat * 8)).block, (ad101.add ((a1).toNat * 8)).off + 1, none⟩ = some (.string ((rd_T33 l0 a1).x)) ∧ w'.cell? ⟨(ad101.add ((a1).toNat * 8)).block, (ad101.add ((a1).toNat * 8)).off + 2, none⟩ = some (.string ((rd_T33 l0 a1).y)) ∧ w'.cell? ⟨(ad101.add ((a1).toNat * 8)).block, (ad101.add ((a1).toNat * 8)).off + 3, none⟩ = some (.string ((rd_T33 l0 a1).z)) ∧ w'.cell? ⟨(ad101.add ((a1).toNat * 8)).block, (ad101.add ((a1).toNat * 8)).off + 4, none⟩ = some (.string ((rd_T33 l0 a1).op)) ∧ w'.cell? ⟨(ad101.add ((a1).toNat * 8)).block, (ad101.add ((a1).toNat * 8)).off + 5, none⟩ = some (.int .i64 ((rd_T33 l0 a1).n)) ∧ w'.cell? ⟨(ad101.add ((a1).toNat * 8)).block, (ad101.add ((a1).toNat * 8)).off + 6, none⟩ = some (.int .i64 ((rd_T33 l0 a1).a)) ∧ w'.cell? ⟨(ad101.add ((a1).toNat * 8)).block, (ad101.add ((a1).toNat * 8)).off + 7, none⟩ = some (.int .i64 ((rd_T33 l0 a1).b))) ∧ (Below w.heap.size w w')) ?_ ?_
       rotate_left
       ·intro hJ5
        refine join_ (σ := Nat) 4 (bl 10 95) (fun s_ => [(5, .pointer (some ⟨s_, 0, none⟩))]) (fun s_ w' => (w'.cell? (ad101.add ((a1).toNat * 8)) = some (.int .i64 ((rd_T33 l0 a1).kind)) ∧ w'.cell? ⟨(ad101.add ((a1).toNat * 8)).block, (ad101.add ((a1).toNat * 8)).off + 1, none⟩ = some (.string ((rd_T33 l0 a1).x)) ∧ w'.cell? ⟨(ad101.add ((a1).toNat * 8)).block, (ad101.add ((a1).toNat * 8)).off + 2, none⟩ = some (.string ((rd_T33 l0 a1).y)) ∧ w'.cell? ⟨(ad101.add ((a1).toNat * 8)).block, (ad101.add ((a1).toNat * 8)).off + 3, none⟩ = some (.string ((rd_T33 l0 a1).z)) ∧ w'.cell? ⟨(ad101.add ((a1).toNat * 8)).block, (ad101.add ((a1).toNat * 8)).off + 4, none⟩ = some (.string ((rd_T33 l0 a1).op)) ∧ w'.cell? ⟨(ad101.add ((a1).toNat * 8)).block, (ad101.add ((a1).toNat * 8)).off + 5, none⟩ = some (.int .i64 ((rd_T33 l0 a1).n)) ∧ w'.cell? ⟨(ad101.add ((a1).toNat * 8)).block, (ad101.add ((a1).toNat * 8)).off + 6, none⟩ = some (.int .i64 ((rd_T33 l0 a1).a)) ∧ w'.cell? ⟨(ad101.add ((a1).toNat * 8)).block, (ad101.add ((a1).toNat * 8)).off + 7, none⟩ = some (.int .i64 ((rd_T33 l0 a1).b))) ∧ (w'.heap[s_]? = some (.cells #[.int .i64 0, .string (⟨#[]⟩ : ByteArray), .string (⟨#[]⟩ : ByteArray), .string (⟨#[]⟩ : ByteArray), .string (⟨#[]⟩ : ByteArray), .int .i64 0, .int .i64 0, .int .i64 0] 33 (0, 0))) ∧ (w.heap.size ≤ s_) ∧ (w.heap.size ≤ s_) ∧ (Below w.heap.size w w')) ?_ ?_
        rotate_left
        ·intro hJ6
         refine join_ (σ := Nat) 4 (bl 10 159) (fun s_ => [(6, .pointer (some ⟨s_, 0, none⟩))]) (fun s_ w' => (w'.cell? (ad101.add ((a1).toNat * 8)) = some (.int .i64 ((rd_T33 l0 a1).kind)) ∧ w'.cell? ⟨(ad101.add ((a1).toNat * 8)).block, (ad101.add ((a1).toNat * 8)).off + 1, none⟩ = some (.string ((rd_T33 l0 a1).x)) ∧ w'.cell? ⟨(ad101.add ((a1).toNat * 8)).block, (ad101.add ((a1).toNat * 8)).off + 2, none⟩ = some (.string ((rd_T33 l0 a1).y)) ∧ w'.cell? ⟨(ad101.add ((a1).toNat * 8)).block, (ad101.add ((a1).toNat * 8)).off + 3, none⟩ = some (.string ((rd_T33 l0 a1).z)) ∧ w'.cell? ⟨(ad101.add ((a1).toNat * 8)).block, (ad101.add ((a1).toNat * 8)).off + 4, none⟩ = some (.string ((rd_T33 l0 a1).op)) ∧ w'.cell? ⟨(ad101.add ((a1).toNat * 8)).block, (ad101.add ((a1).toNat * 8)).off + 5, none⟩ = some (.int .i64 ((rd_T33 l0 a1).n)) ∧ w'.cell? ⟨(ad101.add ((a1).toNat * 8)).block, (ad101.add ((a1).toNat * 8)).off + 6, none⟩ = some (.int .i64 ((rd_T33 l0 a1).a)) ∧ w'.cell? ⟨(ad101.add ((a1).toNat * 8)).block, (ad101.add ((a1).toNat * 8)).off + 7, none⟩ = some (.int .i64 ((rd_T33 l0 a1).b))) ∧ (w'.heap[s_]? = some (.cells #[.bool false, .string (⟨#[]⟩ : ByteArray), .int .i64 0] 28 (0, 0))) ∧ (w.heap.size ≤ s_) ∧ (w.heap.size ≤ s_) ∧ (Below w.heap.size w w')) ?_ ?_
         rotate_left
         ·intro hJ7
          refine three_ (i := 5) (j := 6) (k := 7) (Ni := some 22) (Nj := some 5) (Nk := some 6) (bl 10 63) (bl 10 95) (bl 10 159) rfl rfl rfl rfl rfl rfl (three_of HT_.out (by kernel_rfl)) (by decide) (by decide) (by decide) (fun K hK => ?_) (fun K hK => ?_) (fun K hK => ?_)
          ·skip
           refine goes_ Try.func31 (by kernel_rfl) rfl #[.int .i64 a1] (by rfl) rfl rfl (by (try simp only [List.map_toArray, List.map_cons, List.map_nil]); first | done | rfl | (simp only [List.length_drop, List.length_take]; rfl)) ?_
           with_reducible refine (value_Int.calls a1 t102 t103 t104 _ A5.out).mono ?_
           rintro e w9 ⟨rfl, hb⟩
           refine ⟨_, rfl, ?_⟩
           replace HB := am (bs_ HB.out hb)
           (try clear hb)
           (try clear hb2)
           (try clear hk)
           (try clear hi)
           refine hK.out _ _ ⟨(up_ HB.out hw101_0), (up_ HB.out hw101_1), (up_ HB.out hw101_2), (up_ HB.out hw101_3), (up_ HB.out hw101_4), (up_ HB.out hw101_5), (up_ HB.out hw101_6), (up_ HB.out hw101_7)⟩ (fun hHeld => ?_)
           clear hK K
           refine norm_ (a' := ?_) ?_ ?_
           rotate_left
           ·show Act.put _ (some 22) _ = _
            simp only [Act.put, sA, sZ, sS, i64_w, i32_w]
            rfl
           exact norm_ (by first | (simp only [putAll, Act.put, List.setIfInBounds_toArray, List.set_cons_zero, List.set_cons_succ]; done) | (simp only [putAll, Act.put, List.setIfInBounds_toArray, List.set_cons_zero, List.set_cons_succ]; rfl)) (hJ5 () _ ⟨hHeld, (pL HB.out)⟩)
          ·skip
           refine box_step ?hg (N := 5) ?hd (cs := #[.int .i64 0, .string (⟨#[]⟩ : ByteArray), .string (⟨#[]⟩ : ByteArray), .string (⟨#[]⟩ : ByteArray), .string (⟨#[]⟩ : ByteArray), .int .i64 0, .int .i64 0, .int .i64 0]) (t := 33) ?hr ?_; (case hd => rfl); (case hg => rfl); (case hr => first | (go_simp; done) | (go_simp; rfl))
           intro gb105 hg w9 hbox hb
           have BK105 := am (hbox)
           have GW105 := am ((by rw [hg]; exact (below_size (pL HB.out)) : w.heap.size ≤ gb105))
           have GE105 := am ((by rw [hg]; exact (below_size (pL HB.out)) : w.heap.size ≤ gb105))
           replace HB := am (bs_ HB.out hb)
           clear hb hbox hg
           refine hK.out _ _ ⟨(up_ HB.out hw101_0), (up_ HB.out hw101_1), (up_ HB.out hw101_2), (up_ HB.out hw101_3), (up_ HB.out hw101_4), (up_ HB.out hw101_5), (up_ HB.out hw101_6), (up_ HB.out hw101_7)⟩ (fun hHeld => ?_)
           clear hK K
           refine norm_ (a' := ?_) ?_ ?_
           rotate_left
           ·show Act.put _ (some 5) _ = _
            simp only [Act.put, sA, sZ, sS, i64_w, i32_w]
            rfl
           exact norm_ (by first | (simp only [putAll, Act.put, List.setIfInBounds_toArray, List.set_cons_zero, List.set_cons_succ]; done) | (simp only [putAll, Act.put, List.setIfInBounds_toArray, List.set_cons_zero, List.set_cons_succ]; rfl)) (hJ6 (gb105) _ ⟨hHeld, (pB BK105.out), GW105.out, GE105.out, (pL HB.out)⟩)
          ·skip
           refine box_step ?hg (N := 6) ?hd (cs := #[.bool false, .string (⟨#[]⟩ : ByteArray), .int .i64 0]) (t := 28) ?hr ?_; (case hd => rfl); (case hg => rfl); (case hr => first | (go_simp; done) | (go_simp; rfl))
           intro gb106 hg w9 hbox hb
           have BK106 := am (hbox)
           have GW106 := am ((by rw [hg]; exact (below_size (pL HB.out)) : w.heap.size ≤ gb106))
           have GE106 := am ((by rw [hg]; exact (below_size (pL HB.out)) : w.heap.size ≤ gb106))
           replace HB := am (bs_ HB.out hb)
           clear hb hbox hg
           refine hK.out _ _ ⟨(up_ HB.out hw101_0), (up_ HB.out hw101_1), (up_ HB.out hw101_2), (up_ HB.out hw101_3), (up_ HB.out hw101_4), (up_ HB.out hw101_5), (up_ HB.out hw101_6), (up_ HB.out hw101_7)⟩ (fun hHeld => ?_)
           clear hK K
           refine norm_ (a' := ?_) ?_ ?_
           rotate_left
           ·show Act.put _ (some 6) _ = _
            simp only [Act.put, sA, sZ, sS, i64_w, i32_w]
            rfl
           exact norm_ (by first | (simp only [putAll, Act.put, List.setIfInBounds_toArray, List.set_cons_zero, List.set_cons_succ]; done) | (simp only [putAll, Act.put, List.setIfInBounds_toArray, List.set_cons_zero, List.set_cons_succ]; rfl)) (hJ7 (gb106) _ ⟨hHeld, (pB BK106.out), GW106.out, GE106.out, (pL HB.out)⟩)
         ·skip
          rintro gb106 w10 ⟨hS_, h0_, h1_, h2_, h3_⟩
          have BK106 : Aside0 (w10.heap[gb106]? = some (.cells #[.bool false, .string (⟨#[]⟩ : ByteArray), .int .i64 0] 28 (0, 0))) := ⟨h0_⟩
          have GW106 : Aside0 (w.heap.size ≤ gb106) := ⟨h1_⟩
          have GE106 : Aside0 (w.heap.size ≤ gb106) := ⟨h2_⟩
          replace HB : Aside0 (Below w.heap.size w w10) := ⟨h3_⟩
          clear h0_ h1_ h2_ h3_
          have hHeld : w10.cell? (ad101.add ((a1).toNat * 8)) = some (.int .i64 ((rd_T33 l0 a1).kind)) ∧ w10.cell? ⟨(ad101.add ((a1).toNat * 8)).block, (ad101.add ((a1).toNat * 8)).off + 1, none⟩ = some (.string ((rd_T33 l0 a1).x)) ∧ w10.cell? ⟨(ad101.add ((a1).toNat * 8)).block, (ad101.add ((a1).toNat * 8)).off + 2, none⟩ = some (.string ((rd_T33 l0 a1).y)) ∧ w10.cell? ⟨(ad101.add ((a1).toNat * 8)).block, (ad101.add ((a1).toNat * 8)).off + 3, none⟩ = some (.string ((rd_T33 l0 a1).z)) ∧ w10.cell? ⟨(ad101.add ((a1).toNat * 8)).block, (ad101.add ((a1).toNat * 8)).off + 4, none⟩ = some (.string ((rd_T33 l0 a1).op)) ∧ w10.cell? ⟨(ad101.add ((a1).toNat * 8)).block, (ad101.add ((a1).toNat * 8)).off + 5, none⟩ = some (.int .i64 ((rd_T33 l0 a1).n)) ∧ w10.cell? ⟨(ad101.add ((a1).toNat * 8)).block, (ad101.add ((a1).toNat * 8)).off + 6, none⟩ = some (.int .i64 ((rd_T33 l0 a1).a)) ∧ w10.cell? ⟨(ad101.add ((a1).toNat * 8)).block, (ad101.add ((a1).toNat * 8)).off + 7, none⟩ = some (.int .i64 ((rd_T33 l0 a1).b)) := hS_
          refine norm_ (a' := ?_) ?_ ?_
          rotate_left
          ·simp only [putAll, Act.put, List.setIfInBounds_toArray, List.set_cons_zero, List.set_cons_succ]
           rfl
          refine two_ (i := 5) (j := 6) (Ni := some 22) (Nj := some 5) (bl 10 191) (bl 10 223) rfl rfl rfl rfl (two_of HT_.out (by kernel_rfl)) (by decide) (by decide) (fun K hK => ?_) (fun K hK => ?_)
          ·skip
           refine goes_ Try.func31 (by kernel_rfl) rfl #[.int .i64 a1] (by rfl) rfl rfl (by (try simp only [List.map_toArray, List.map_cons, List.map_nil]); first | done | rfl | (simp only [List.length_drop, List.length_take]; rfl)) ?_
           with_reducible refine (value_Int.calls a1 t102 t103 t104 _ A5.out).mono ?_
           rintro e w11 ⟨rfl, hb⟩
           refine ⟨_, rfl, ?_⟩
           replace BK106 := am (bb_ BK106.out hb)
           replace HB := am (bs_ HB.out hb)
           (try clear hb)
           (try clear hb2)
           (try clear hk)
           (try clear hi)
           refine hK.out _ _ ⟨(up_ HB.out hw101_0), (up_ HB.out hw101_1), (up_ HB.out hw101_2), (up_ HB.out hw101_3), (up_ HB.out hw101_4), (up_ HB.out hw101_5), (up_ HB.out hw101_6), (up_ HB.out hw101_7)⟩ (fun hHeld => ?_)
           clear hK K
           refine norm_ (a' := ?_) ?_ ?_
           rotate_left
           ·show Act.put _ (some 22) _ = _
            simp only [Act.put, sA, sZ, sS, i64_w, i32_w]
            rfl
           exact norm_ (by first | (simp only [putAll, Act.put, List.setIfInBounds_toArray, List.set_cons_zero, List.set_cons_succ]; done) | (simp only [putAll, Act.put, List.setIfInBounds_toArray, List.set_cons_zero, List.set_cons_succ]; rfl)) (hJ5_7 (gb106) _ ⟨hHeld, (pB BK106.out), GW106.out, GE106.out, (pL HB.out)⟩)
          ·skip
           refine box_step ?hg (N := 5) ?hd (cs := #[.int .i64 0, .string (⟨#[]⟩ : ByteArray), .string (⟨#[]⟩ : ByteArray), .string (⟨#[]⟩ : ByteArray), .string (⟨#[]⟩ : ByteArray), .int .i64 0, .int .i64 0, .int .i64 0]) (t := 33) ?hr ?_; (case hd => rfl); (case hg => rfl); (case hr => first | (go_simp; done) | (go_simp; rfl))
           intro gb105 hg w11 hbox hb
           have BK105 := am (hbox)
           have GW105 := am ((by rw [hg]; exact (below_size (pL HB.out)) : w.heap.size ≤ gb105))
           have GE105 := am ((by rw [hg]; exact (below_size (pL HB.out)) : w.heap.size ≤ gb105))
           replace HB := am (bs_ HB.out hb)
           have NB106_105 := am ((by rw [hg]; exact Nat.ne_of_lt (blk_lt (pB BK106.out)) : gb106 ≠ gb105))
           have NB105_106 := am ((by rw [hg]; exact Nat.ne_of_gt (blk_lt (pB BK106.out)) : gb105 ≠ gb106))
           replace BK106 := am (bb_ BK106.out hb)
           clear hb hbox hg
           refine hK.out _ _ ⟨(up_ HB.out hw101_0), (up_ HB.out hw101_1), (up_ HB.out hw101_2), (up_ HB.out hw101_3), (up_ HB.out hw101_4), (up_ HB.out hw101_5), (up_ HB.out hw101_6), (up_ HB.out hw101_7)⟩ (fun hHeld => ?_)
           clear hK K
           refine norm_ (a' := ?_) ?_ ?_
           rotate_left
           ·show Act.put _ (some 5) _ = _
            simp only [Act.put, sA, sZ, sS, i64_w, i32_w]
            rfl
           exact norm_ (by first | (simp only [putAll, Act.put, List.setIfInBounds_toArray, List.set_cons_zero, List.set_cons_succ]; done) | (simp only [putAll, Act.put, List.setIfInBounds_toArray, List.set_cons_zero, List.set_cons_succ]; rfl)) (hJ6_7 (gb105, gb106) _ ⟨hHeld, (pB BK105.out), (pB BK106.out), GW105.out, GE105.out, NB106_105.out, NB105_106.out, GW106.out, GE106.out, (pL HB.out)⟩)
        ·skip
         rintro gb105 w10 ⟨hS_, h0_, h1_, h2_, h3_⟩
         have BK105 : Aside0 (w10.heap[gb105]? = some (.cells #[.int .i64 0, .string (⟨#[]⟩ : ByteArray), .string (⟨#[]⟩ : ByteArray), .string (⟨#[]⟩ : ByteArray), .string (⟨#[]⟩ : ByteArray), .int .i64 0, .int .i64 0, .int .i64 0] 33 (0, 0))) := ⟨h0_⟩
         have GW105 : Aside0 (w.heap.size ≤ gb105) := ⟨h1_⟩
         have GE105 : Aside0 (w.heap.size ≤ gb105) := ⟨h2_⟩
         replace HB : Aside0 (Below w.heap.size w w10) := ⟨h3_⟩
         clear h0_ h1_ h2_ h3_
         have hHeld : w10.cell? (ad101.add ((a1).toNat * 8)) = some (.int .i64 ((rd_T33 l0 a1).kind)) ∧ w10.cell? ⟨(ad101.add ((a1).toNat * 8)).block, (ad101.add ((a1).toNat * 8)).off + 1, none⟩ = some (.string ((rd_T33 l0 a1).x)) ∧ w10.cell? ⟨(ad101.add ((a1).toNat * 8)).block, (ad101.add ((a1).toNat * 8)).off + 2, none⟩ = some (.string ((rd_T33 l0 a1).y)) ∧ w10.cell? ⟨(ad101.add ((a1).toNat * 8)).block, (ad101.add ((a1).toNat * 8)).off + 3, none⟩ = some (.string ((rd_T33 l0 a1).z)) ∧ w10.cell? ⟨(ad101.add ((a1).toNat * 8)).block, (ad101.add ((a1).toNat * 8)).off + 4, none⟩ = some (.string ((rd_T33 l0 a1).op)) ∧ w10.cell? ⟨(ad101.add ((a1).toNat * 8)).block, (ad101.add ((a1).toNat * 8)).off + 5, none⟩ = some (.int .i64 ((rd_T33 l0 a1).n)) ∧ w10.cell? ⟨(ad101.add ((a1).toNat * 8)).block, (ad101.add ((a1).toNat * 8)).off + 6, none⟩ = some (.int .i64 ((rd_T33 l0 a1).a)) ∧ w10.cell? ⟨(ad101.add ((a1).toNat * 8)).block, (ad101.add ((a1).toNat * 8)).off + 7, none⟩ = some (.int .i64 ((rd_T33 l0 a1).b)) := hS_
         refine norm_ (a' := ?_) ?_ ?_
         rotate_left
         ·simp only [putAll, Act.put, List.setIfInBounds_toArray, List.set_cons_zero, List.set_cons_succ]
          rfl
         refine two_ (i := 5) (j := 7) (Ni := some 22) (Nj := some 6) (bl 10 127) (bl 10 223) rfl rfl rfl rfl (two_of HT_.out (by kernel_rfl)) (by decide) (by decide) (fun K hK => ?_) (fun K hK => ?_)
         ·skip
          refine goes_ Try.func31 (by kernel_rfl) rfl #[.int .i64 a1] (by rfl) rfl rfl (by (try simp only [List.map_toArray, List.map_cons, List.map_nil]); first | done | rfl | (simp only [List.length_drop, List.length_take]; rfl)) ?_
          with_reducible refine (value_Int.calls a1 t102 t103 t104 _ A5.out).mono ?_
          rintro e w11 ⟨rfl, hb⟩
          refine ⟨_, rfl, ?_⟩
          replace BK105 := am (bb_ BK105.out hb)
          replace HB := am (bs_ HB.out hb)
          (try clear hb)
          (try clear hb2)
          (try clear hk)
          (try clear hi)
          refine hK.out _ _ ⟨(up_ HB.out hw101_0), (up_ HB.out hw101_1), (up_ HB.out hw101_2), (up_ HB.out hw101_3), (up_ HB.out hw101_4), (up_ HB.out hw101_5), (up_ HB.out hw101_6), (up_ HB.out hw101_7)⟩ (fun hHeld => ?_)
          clear hK K
          refine norm_ (a' := ?_) ?_ ?_
          rotate_left
          ·show Act.put _ (some 22) _ = _
           simp only [Act.put, sA, sZ, sS, i64_w, i32_w]
           rfl
          exact norm_ (by first | (simp only [putAll, Act.put, List.setIfInBounds_toArray, List.set_cons_zero, List.set_cons_succ]; done) | (simp only [putAll, Act.put, List.setIfInBounds_toArray, List.set_cons_zero, List.set_cons_succ]; rfl)) (hJ5_6 (gb105) _ ⟨hHeld, (pB BK105.out), GW105.out, GE105.out, (pL HB.out)⟩)
         ·skip
          refine box_step ?hg (N := 6) ?hd (cs := #[.bool false, .string (⟨#[]⟩ : ByteArray), .int .i64 0]) (t := 28) ?hr ?_; (case hd => rfl); (case hg => rfl); (case hr => first | (go_simp; done) | (go_simp; rfl))
          intro gb106 hg w11 hbox hb
          have BK106 := am (hbox)
          have GW106 := am ((by rw [hg]; exact (below_size (pL HB.out)) : w.heap.size ≤ gb106))
          have GE106 := am ((by rw [hg]; exact (below_size (pL HB.out)) : w.heap.size ≤ gb106))
          replace HB := am (bs_ HB.out hb)
          have NB105_106 := am ((by rw [hg]; exact Nat.ne_of_lt (blk_lt (pB BK105.out)) : gb105 ≠ gb106))
          have NB106_105 := am ((by rw [hg]; exact Nat.ne_of_gt (blk_lt (pB BK105.out)) : gb106 ≠ gb105))
          replace BK105 := am (bb_ BK105.out hb)
          clear hb hbox hg
          refine hK.out _ _ ⟨(up_ HB.out hw101_0), (up_ HB.out hw101_1), (up_ HB.out hw101_2), (up_ HB.out hw101_3), (up_ HB.out hw101_4), (up_ HB.out hw101_5), (up_ HB.out hw101_6), (up_ HB.out hw101_7)⟩ (fun hHeld => ?_)
          clear hK K
          refine norm_ (a' := ?_) ?_ ?_
          rotate_left
          ·show Act.put _ (some 6) _ = _
           simp only [Act.put, sA, sZ, sS, i64_w, i32_w]
           rfl
          exact norm_ (by first | (simp only [putAll, Act.put, List.setIfInBounds_toArray, List.set_cons_zero, List.set_cons_succ]; done) | (simp only [putAll, Act.put, List.setIfInBounds_toArray, List.set_cons_zero, List.set_cons_succ]; rfl)) (hJ6_7 (gb105, gb106) _ ⟨hHeld, (pB BK105.out), (pB BK106.out), GW105.out, GE105.out, NB106_105.out, NB105_106.out, GW106.out, GE106.out, (pL HB.out)⟩)
       ·skip
        rintro _ w10 ⟨hS_, h0_⟩
        replace HB : Aside0 (Below w.heap.size w w10) := ⟨h0_⟩
        clear h0_
        have hHeld : w10.cell? (ad101.add ((a1).toNat * 8)) = some (.int .i64 ((rd_T33 l0 a1).kind)) ∧ w10.cell? ⟨(ad101.add ((a1).toNat * 8)).block, (ad101.add ((a1).toNat * 8)).off + 1, none⟩ = some (.string ((rd_T33 l0 a1).x)) ∧ w10.cell? ⟨(ad101.add ((a1).toNat * 8)).block, (ad101.add ((a1).toNat * 8)).off + 2, none⟩ = some (.string ((rd_T33 l0 a1).y)) ∧ w10.cell? ⟨(ad101.add ((a1).toNat * 8)).block, (ad101.add ((a1).toNat * 8)).off + 3, none⟩ = some (.string ((rd_T33 l0 a1).z)) ∧ w10.cell? ⟨(ad101.add ((a1).toNat * 8)).block, (ad101.add ((a1).toNat * 8)).off + 4, none⟩ = some (.string ((rd_T33 l0 a1).op)) ∧ w10.cell? ⟨(ad101.add ((a1).toNat * 8)).block, (ad101.add ((a1).toNat * 8)).off + 5, none⟩ = some (.int .i64 ((rd_T33 l0 a1).n)) ∧ w10.cell? ⟨(ad101.add ((a1).toNat * 8)).block, (ad101.add ((a1).toNat * 8)).off + 6, none⟩ = some (.int .i64 ((rd_T33 l0 a1).a)) ∧ w10.cell? ⟨(ad101.add ((a1).toNat * 8)).block, (ad101.add ((a1).toNat * 8)).off + 7, none⟩ = some (.int .i64 ((rd_T33 l0 a1).b)) := hS_
        refine norm_ (a' := ?_) ?_ ?_
        rotate_left
        ·simp only [putAll, Act.put, List.setIfInBounds_toArray, List.set_cons_zero, List.set_cons_succ]
         rfl
        refine two_ (i := 6) (j := 7) (Ni := some 5) (Nj := some 6) (bl 10 127) (bl 10 191) rfl rfl rfl rfl (two_of HT_.out (by kernel_rfl)) (by decide) (by decide) (fun K hK => ?_) (fun K hK => ?_)
        ·skip
         refine box_step ?hg (N := 5) ?hd (cs := #[.int .i64 0, .string (⟨#[]⟩ : ByteArray), .string (⟨#[]⟩ : ByteArray), .string (⟨#[]⟩ : ByteArray), .string (⟨#[]⟩ : ByteArray), .int .i64 0, .int .i64 0, .int .i64 0]) (t := 33) ?hr ?_; (case hd => rfl); (case hg => rfl); (case hr => first | (go_simp; done) | (go_simp; rfl))
         intro gb105 hg w11 hbox hb
         have BK105 := am (hbox)
         have GW105 := am ((by rw [hg]; exact (below_size (pL HB.out)) : w.heap.size ≤ gb105))
         have GE105 := am ((by rw [hg]; exact (below_size (pL HB.out)) : w.heap.size ≤ gb105))
         replace HB := am (bs_ HB.out hb)
         clear hb hbox hg
         refine hK.out _ _ ⟨(up_ HB.out hw101_0), (up_ HB.out hw101_1), (up_ HB.out hw101_2), (up_ HB.out hw101_3), (up_ HB.out hw101_4), (up_ HB.out hw101_5), (up_ HB.out hw101_6), (up_ HB.out hw101_7)⟩ (fun hHeld => ?_)
         clear hK K
         refine norm_ (a' := ?_) ?_ ?_
         rotate_left
         ·show Act.put _ (some 5) _ = _
          simp only [Act.put, sA, sZ, sS, i64_w, i32_w]
          rfl
         exact norm_ (by first | (simp only [putAll, Act.put, List.setIfInBounds_toArray, List.set_cons_zero, List.set_cons_succ]; done) | (simp only [putAll, Act.put, List.setIfInBounds_toArray, List.set_cons_zero, List.set_cons_succ]; rfl)) (hJ5_6 (gb105) _ ⟨hHeld, (pB BK105.out), GW105.out, GE105.out, (pL HB.out)⟩)
        ·skip
         refine box_step ?hg (N := 6) ?hd (cs := #[.bool false, .string (⟨#[]⟩ : ByteArray), .int .i64 0]) (t := 28) ?hr ?_; (case hd => rfl); (case hg => rfl); (case hr => first | (go_simp; done) | (go_simp; rfl))
         intro gb106 hg w11 hbox hb
         have BK106 := am (hbox)
         have GW106 := am ((by rw [hg]; exact (below_size (pL HB.out)) : w.heap.size ≤ gb106))
         have GE106 := am ((by rw [hg]; exact (below_size (pL HB.out)) : w.heap.size ≤ gb106))
         replace HB := am (bs_ HB.out hb)
         clear hb hbox hg
         refine hK.out _ _ ⟨(up_ HB.out hw101_0), (up_ HB.out hw101_1), (up_ HB.out hw101_2), (up_ HB.out hw101_3), (up_ HB.out hw101_4), (up_ HB.out hw101_5), (up_ HB.out hw101_6), (up_ HB.out hw101_7)⟩ (fun hHeld => ?_)
         clear hK K
         refine norm_ (a' := ?_) ?_ ?_
         rotate_left
         ·show Act.put _ (some 6) _ = _
          simp only [Act.put, sA, sZ, sS, i64_w, i32_w]
          rfl
         exact norm_ (by first | (simp only [putAll, Act.put, List.setIfInBounds_toArray, List.set_cons_zero, List.set_cons_succ]; done) | (simp only [putAll, Act.put, List.setIfInBounds_toArray, List.set_cons_zero, List.set_cons_succ]; rfl)) (hJ5_7 (gb106) _ ⟨hHeld, (pB BK106.out), GW106.out, GE106.out, (pL HB.out)⟩)
      ·skip
       rintro ⟨gb105, gb106⟩ w11 ⟨hS_, h0_, h1_, h2_, h3_, h4_, h5_, h6_, h7_, h8_⟩
       have BK105 : Aside0 (w11.heap[gb105]? = some (.cells #[.int .i64 0, .string (⟨#[]⟩ : ByteArray), .string (⟨#[]⟩ : ByteArray), .string (⟨#[]⟩ : ByteArray), .string (⟨#[]⟩ : ByteArray), .int .i64 0, .int .i64 0, .int .i64 0] 33 (0, 0))) := ⟨h0_⟩
       have BK106 : Aside0 (w11.heap[gb106]? = some (.cells #[.bool false, .string (⟨#[]⟩ : ByteArray), .int .i64 0] 28 (0, 0))) := ⟨h1_⟩
       have GW105 : Aside0 (w.heap.size ≤ gb105) := ⟨h2_⟩
       have GE105 : Aside0 (w.heap.size ≤ gb105) := ⟨h3_⟩
       have NB106_105 : Aside0 (gb106 ≠ gb105) := ⟨h4_⟩
       have NB105_106 : Aside0 (gb105 ≠ gb106) := ⟨h5_⟩
       have GW106 : Aside0 (w.heap.size ≤ gb106) := ⟨h6_⟩
       have GE106 : Aside0 (w.heap.size ≤ gb106) := ⟨h7_⟩
       replace HB : Aside0 (Below w.heap.size w w11) := ⟨h8_⟩
       clear h0_ h1_ h2_ h3_ h4_ h5_ h6_ h7_ h8_
       have hHeld : w11.cell? (ad101.add ((a1).toNat * 8)) = some (.int .i64 ((rd_T33 l0 a1).kind)) ∧ w11.cell? ⟨(ad101.add ((a1).toNat * 8)).block, (ad101.add ((a1).toNat * 8)).off + 1, none⟩ = some (.string ((rd_T33 l0 a1).x)) ∧ w11.cell? ⟨(ad101.add ((a1).toNat * 8)).block, (ad101.add ((a1).toNat * 8)).off + 2, none⟩ = some (.string ((rd_T33 l0 a1).y)) ∧ w11.cell? ⟨(ad101.add ((a1).toNat * 8)).block, (ad101.add ((a1).toNat * 8)).off + 3, none⟩ = some (.string ((rd_T33 l0 a1).z)) ∧ w11.cell? ⟨(ad101.add ((a1).toNat * 8)).block, (ad101.add ((a1).toNat * 8)).off + 4, none⟩ = some (.string ((rd_T33 l0 a1).op)) ∧ w11.cell? ⟨(ad101.add ((a1).toNat * 8)).block, (ad101.add ((a1).toNat * 8)).off + 5, none⟩ = some (.int .i64 ((rd_T33 l0 a1).n)) ∧ w11.cell? ⟨(ad101.add ((a1).toNat * 8)).block, (ad101.add ((a1).toNat * 8)).off + 6, none⟩ = some (.int .i64 ((rd_T33 l0 a1).a)) ∧ w11.cell? ⟨(ad101.add ((a1).toNat * 8)).block, (ad101.add ((a1).toNat * 8)).off + 7, none⟩ = some (.int .i64 ((rd_T33 l0 a1).b)) := hS_
       refine norm_ (a' := ?_) ?_ ?_
       rotate_left
       ·simp only [putAll, Act.put, List.setIfInBounds_toArray, List.set_cons_zero, List.set_cons_succ]
        rfl
       refine one_ (i := 5) (N := some 22) (bl 10 255) rfl rfl (one_of HT_.out (by kernel_rfl)) (by decide) (fun K hK => ?_)
       refine goes_ Try.func31 (by kernel_rfl) rfl #[.int .i64 a1] (by rfl) rfl rfl (by (try simp only [List.map_toArray, List.map_cons, List.map_nil]); first | done | rfl | (simp only [List.length_drop, List.length_take]; rfl)) ?_
       with_reducible refine (value_Int.calls a1 t102 t103 t104 _ A5.out).mono ?_
       rintro e w12 ⟨rfl, hb⟩
       refine ⟨_, rfl, ?_⟩
       replace BK105 := am (bb_ BK105.out hb)
       replace BK106 := am (bb_ BK106.out hb)
       replace HB := am (bs_ HB.out hb)
       (try clear hb)
       (try clear hb2)
       (try clear hk)
       (try clear hi)
       refine hK.out _ _ ⟨(up_ HB.out hw101_0), (up_ HB.out hw101_1), (up_ HB.out hw101_2), (up_ HB.out hw101_3), (up_ HB.out hw101_4), (up_ HB.out hw101_5), (up_ HB.out hw101_6), (up_ HB.out hw101_7)⟩ (fun hHeld => ?_)
       clear hK K
       refine norm_ (a' := ?_) ?_ ?_
       rotate_left
       ·show Act.put _ (some 22) _ = _
        simp only [Act.put, sA, sZ, sS, i64_w, i32_w]
        rfl
       exact norm_ (by first | (simp only [putAll, Act.put, List.setIfInBounds_toArray, List.set_cons_zero, List.set_cons_succ]; done) | (simp only [putAll, Act.put, List.setIfInBounds_toArray, List.set_cons_zero, List.set_cons_succ]; rfl)) (hJ5_6_7 (gb105, gb106) _ ⟨hHeld, (pB BK105.out), (pB BK106.out), GW105.out, GE105.out, NB106_105.out, NB105_106.out, GW106.out, GE106.out, (pL HB.out)⟩)
     ·skip
      rintro gb106 w11 ⟨hS_, h0_, h1_, h2_, h3_⟩
      have BK106 : Aside0 (w11.heap[gb106]? = some (.cells #[.bool false, .string (⟨#[]⟩ : ByteArray), .int .i64 0] 28 (0, 0))) := ⟨h0_⟩
      have GW106 : Aside0 (w.heap.size ≤ gb106) := ⟨h1_⟩
      have GE106 : Aside0 (w.heap.size ≤ gb106) := ⟨h2_⟩
      replace HB : Aside0 (Below w.heap.size w w11) := ⟨h3_⟩
      clear h0_ h1_ h2_ h3_
      have hHeld : w11.cell? (ad101.add ((a1).toNat * 8)) = some (.int .i64 ((rd_T33 l0 a1).kind)) ∧ w11.cell? ⟨(ad101.add ((a1).toNat * 8)).block, (ad101.add ((a1).toNat * 8)).off + 1, none⟩ = some (.string ((rd_T33 l0 a1).x)) ∧ w11.cell? ⟨(ad101.add ((a1).toNat * 8)).block, (ad101.add ((a1).toNat * 8)).off + 2, none⟩ = some (.string ((rd_T33 l0 a1).y)) ∧ w11.cell? ⟨(ad101.add ((a1).toNat * 8)).block, (ad101.add ((a1).toNat * 8)).off + 3, none⟩ = some (.string ((rd_T33 l0 a1).z)) ∧ w11.cell? ⟨(ad101.add ((a1).toNat * 8)).block, (ad101.add ((a1).toNat * 8)).off + 4, none⟩ = some (.string ((rd_T33 l0 a1).op)) ∧ w11.cell? ⟨(ad101.add ((a1).toNat * 8)).block, (ad101.add ((a1).toNat * 8)).off + 5, none⟩ = some (.int .i64 ((rd_T33 l0 a1).n)) ∧ w11.cell? ⟨(ad101.add ((a1).toNat * 8)).block, (ad101.add ((a1).toNat * 8)).off + 6, none⟩ = some (.int .i64 ((rd_T33 l0 a1).a)) ∧ w11.cell? ⟨(ad101.add ((a1).toNat * 8)).block, (ad101.add ((a1).toNat * 8)).off + 7, none⟩ = some (.int .i64 ((rd_T33 l0 a1).b)) := hS_
      refine norm_ (a' := ?_) ?_ ?_
      rotate_left
      ·simp only [putAll, Act.put, List.setIfInBounds_toArray, List.set_cons_zero, List.set_cons_succ]
       rfl
      refine one_ (i := 6) (N := some 5) (bl 10 255) rfl rfl (one_of HT_.out (by kernel_rfl)) (by decide) (fun K hK => ?_)
      refine box_step ?hg (N := 5) ?hd (cs := #[.int .i64 0, .string (⟨#[]⟩ : ByteArray), .string (⟨#[]⟩ : ByteArray), .string (⟨#[]⟩ : ByteArray), .string (⟨#[]⟩ : ByteArray), .int .i64 0, .int .i64 0, .int .i64 0]) (t := 33) ?hr ?_; (case hd => rfl); (case hg => rfl); (case hr => first | (go_simp; done) | (go_simp; rfl))
      intro gb105 hg w12 hbox hb
      have BK105 := am (hbox)
      have GW105 := am ((by rw [hg]; exact (below_size (pL HB.out)) : w.heap.size ≤ gb105))
      have GE105 := am ((by rw [hg]; exact (below_size (pL HB.out)) : w.heap.size ≤ gb105))
      replace HB := am (bs_ HB.out hb)
      have NB106_105 := am ((by rw [hg]; exact Nat.ne_of_lt (blk_lt (pB BK106.out)) : gb106 ≠ gb105))
      have NB105_106 := am ((by rw [hg]; exact Nat.ne_of_gt (blk_lt (pB BK106.out)) : gb105 ≠ gb106))
      replace BK106 := am (bb_ BK106.out hb)
      clear hb hbox hg
      refine hK.out _ _ ⟨(up_ HB.out hw101_0), (up_ HB.out hw101_1), (up_ HB.out hw101_2), (up_ HB.out hw101_3), (up_ HB.out hw101_4), (up_ HB.out hw101_5), (up_ HB.out hw101_6), (up_ HB.out hw101_7)⟩ (fun hHeld => ?_)
      clear hK K
      refine norm_ (a' := ?_) ?_ ?_
      rotate_left
      ·show Act.put _ (some 5) _ = _
       simp only [Act.put, sA, sZ, sS, i64_w, i32_w]
       rfl
      exact norm_ (by first | (simp only [putAll, Act.put, List.setIfInBounds_toArray, List.set_cons_zero, List.set_cons_succ]; done) | (simp only [putAll, Act.put, List.setIfInBounds_toArray, List.set_cons_zero, List.set_cons_succ]; rfl)) (hJ5_6_7 (gb105, gb106) _ ⟨hHeld, (pB BK105.out), (pB BK106.out), GW105.out, GE105.out, NB106_105.out, NB105_106.out, GW106.out, GE106.out, (pL HB.out)⟩)
    ·skip
     rintro gb105 w11 ⟨hS_, h0_, h1_, h2_, h3_⟩
     have BK105 : Aside0 (w11.heap[gb105]? = some (.cells #[.int .i64 0, .string (⟨#[]⟩ : ByteArray), .string (⟨#[]⟩ : ByteArray), .string (⟨#[]⟩ : ByteArray), .string (⟨#[]⟩ : ByteArray), .int .i64 0, .int .i64 0, .int .i64 0] 33 (0, 0))) := ⟨h0_⟩
     have GW105 : Aside0 (w.heap.size ≤ gb105) := ⟨h1_⟩
     have GE105 : Aside0 (w.heap.size ≤ gb105) := ⟨h2_⟩
     replace HB : Aside0 (Below w.heap.size w w11) := ⟨h3_⟩
     clear h0_ h1_ h2_ h3_
     have hHeld : w11.cell? (ad101.add ((a1).toNat * 8)) = some (.int .i64 ((rd_T33 l0 a1).kind)) ∧ w11.cell? ⟨(ad101.add ((a1).toNat * 8)).block, (ad101.add ((a1).toNat * 8)).off + 1, none⟩ = some (.string ((rd_T33 l0 a1).x)) ∧ w11.cell? ⟨(ad101.add ((a1).toNat * 8)).block, (ad101.add ((a1).toNat * 8)).off + 2, none⟩ = some (.string ((rd_T33 l0 a1).y)) ∧ w11.cell? ⟨(ad101.add ((a1).toNat * 8)).block, (ad101.add ((a1).toNat * 8)).off + 3, none⟩ = some (.string ((rd_T33 l0 a1).z)) ∧ w11.cell? ⟨(ad101.add ((a1).toNat * 8)).block, (ad101.add ((a1).toNat * 8)).off + 4, none⟩ = some (.string ((rd_T33 l0 a1).op)) ∧ w11.cell? ⟨(ad101.add ((a1).toNat * 8)).block, (ad101.add ((a1).toNat * 8)).off + 5, none⟩ = some (.int .i64 ((rd_T33 l0 a1).n)) ∧ w11.cell? ⟨(ad101.add ((a1).toNat * 8)).block, (ad101.add ((a1).toNat * 8)).off + 6, none⟩ = some (.int .i64 ((rd_T33 l0 a1).a)) ∧ w11.cell? ⟨(ad101.add ((a1).toNat * 8)).block, (ad101.add ((a1).toNat * 8)).off + 7, none⟩ = some (.int .i64 ((rd_T33 l0 a1).b)) := hS_
     refine norm_ (a' := ?_) ?_ ?_
     rotate_left
     ·simp only [putAll, Act.put, List.setIfInBounds_toArray, List.set_cons_zero, List.set_cons_succ]
      rfl
     refine one_ (i := 7) (N := some 6) (bl 10 255) rfl rfl (one_of HT_.out (by kernel_rfl)) (by decide) (fun K hK => ?_)
     refine box_step ?hg (N := 6) ?hd (cs := #[.bool false, .string (⟨#[]⟩ : ByteArray), .int .i64 0]) (t := 28) ?hr ?_; (case hd => rfl); (case hg => rfl); (case hr => first | (go_simp; done) | (go_simp; rfl))
     intro gb106 hg w12 hbox hb
     have BK106 := am (hbox)
     have GW106 := am ((by rw [hg]; exact (below_size (pL HB.out)) : w.heap.size ≤ gb106))
     have GE106 := am ((by rw [hg]; exact (below_size (pL HB.out)) : w.heap.size ≤ gb106))
     replace HB := am (bs_ HB.out hb)
     have NB105_106 := am ((by rw [hg]; exact Nat.ne_of_lt (blk_lt (pB BK105.out)) : gb105 ≠ gb106))
     have NB106_105 := am ((by rw [hg]; exact Nat.ne_of_gt (blk_lt (pB BK105.out)) : gb106 ≠ gb105))
     replace BK105 := am (bb_ BK105.out hb)
     clear hb hbox hg
     refine hK.out _ _ ⟨(up_ HB.out hw101_0), (up_ HB.out hw101_1), (up_ HB.out hw101_2), (up_ HB.out hw101_3), (up_ HB.out hw101_4), (up_ HB.out hw101_5), (up_ HB.out hw101_6), (up_ HB.out hw101_7)⟩ (fun hHeld => ?_)
     clear hK K
     refine norm_ (a' := ?_) ?_ ?_
     rotate_left
     ·show Act.put _ (some 6) _ = _
      simp only [Act.put, sA, sZ, sS, i64_w, i32_w]
      rfl
     exact norm_ (by first | (simp only [putAll, Act.put, List.setIfInBounds_toArray, List.set_cons_zero, List.set_cons_succ]; done) | (simp only [putAll, Act.put, List.setIfInBounds_toArray, List.set_cons_zero, List.set_cons_succ]; rfl)) (hJ5_6_7 (gb105, gb106) _ ⟨hHeld, (pB BK105.out), (pB BK106.out), GW105.out, GE105.out, NB106_105.out, NB105_106.out, GW106.out, GE106.out, (pL HB.out)⟩)
   rintro ⟨gb105, gb106⟩ w12 ⟨hS_, h0_, h1_, h2_, h3_, h4_, h5_, h6_, h7_, h8_⟩
   have BK105 : Aside0 (w12.heap[gb105]? = some (.cells #[.int .i64 0, .string (⟨#[]⟩ : ByteArray), .string (⟨#[]⟩ : ByteArray), .string (⟨#[]⟩ : ByteArray), .string (⟨#[]⟩ : ByteArray), .int .i64 0, .int .i64 0, .int .i64 0] 33 (0, 0))) := ⟨h0_⟩
   have BK106 : Aside0 (w12.heap[gb106]? = some (.cells #[.bool false, .string (⟨#[]⟩ : ByteArray), .int .i64 0] 28 (0, 0))) := ⟨h1_⟩
   have GW105 : Aside0 (w.heap.size ≤ gb105) := ⟨h2_⟩
   have GE105 : Aside0 (w.heap.size ≤ gb105) := ⟨h3_⟩
   have NB106_105 : Aside0 (gb106 ≠ gb105) := ⟨h4_⟩
   have NB105_106 : Aside0 (gb105 ≠ gb106) := ⟨h5_⟩
   have GW106 : Aside0 (w.heap.size ≤ gb106) := ⟨h6_⟩
   have GE106 : Aside0 (w.heap.size ≤ gb106) := ⟨h7_⟩
   replace HB : Aside0 (Below w.heap.size w w12) := ⟨h8_⟩
   clear h0_ h1_ h2_ h3_ h4_ h5_ h6_ h7_ h8_
   have hHeld : w12.cell? (ad101.add ((a1).toNat * 8)) = some (.int .i64 ((rd_T33 l0 a1).kind)) ∧ w12.cell? ⟨(ad101.add ((a1).toNat * 8)).block, (ad101.add ((a1).toNat * 8)).off + 1, none⟩ = some (.string ((rd_T33 l0 a1).x)) ∧ w12.cell? ⟨(ad101.add ((a1).toNat * 8)).block, (ad101.add ((a1).toNat * 8)).off + 2, none⟩ = some (.string ((rd_T33 l0 a1).y)) ∧ w12.cell? ⟨(ad101.add ((a1).toNat * 8)).block, (ad101.add ((a1).toNat * 8)).off + 3, none⟩ = some (.string ((rd_T33 l0 a1).z)) ∧ w12.cell? ⟨(ad101.add ((a1).toNat * 8)).block, (ad101.add ((a1).toNat * 8)).off + 4, none⟩ = some (.string ((rd_T33 l0 a1).op)) ∧ w12.cell? ⟨(ad101.add ((a1).toNat * 8)).block, (ad101.add ((a1).toNat * 8)).off + 5, none⟩ = some (.int .i64 ((rd_T33 l0 a1).n)) ∧ w12.cell? ⟨(ad101.add ((a1).toNat * 8)).block, (ad101.add ((a1).toNat * 8)).off + 6, none⟩ = some (.int .i64 ((rd_T33 l0 a1).a)) ∧ w12.cell? ⟨(ad101.add ((a1).toNat * 8)).block, (ad101.add ((a1).toNat * 8)).off + 7, none⟩ = some (.int .i64 ((rd_T33 l0 a1).b)) := hS_
   refine norm_ (a' := ?_) ?_ ?_
   rotate_left
   ·simp only [putAll, Act.put, List.setIfInBounds_toArray, List.set_cons_zero, List.set_cons_succ]
    rfl
   refine one_ (i := 8) (N := none) (bl 10 511) rfl rfl (one_of HT_.out (by kernel_rfl)) (by decide) (fun K hK => ?_)
   have hs13 : w12.cell? ⟨gb105, 0, none⟩ = some (.int .i64 0) := (blk_cell BK105.out 0).trans rfl
   have hfs13 := blk_frozen BK105.out 0
   have hns13_1 := NB106_105.out
   have hms13_1 := NB105_106.out
   have hs14 : w12.cell? ⟨gb105, 1, none⟩ = some (.string (⟨#[]⟩ : ByteArray)) := (blk_cell BK105.out 1).trans rfl
   have hfs14 := blk_frozen BK105.out 1
   have hns14_1 := NB106_105.out
   have hms14_1 := NB105_106.out
   have hs15 : w12.cell? ⟨gb105, 2, none⟩ = some (.string (⟨#[]⟩ : ByteArray)) := (blk_cell BK105.out 2).trans rfl
   have hfs15 := blk_frozen BK105.out 2
   have hns15_1 := NB106_105.out
   have hms15_1 := NB105_106.out
   have hs16 : w12.cell? ⟨gb105, 3, none⟩ = some (.string (⟨#[]⟩ : ByteArray)) := (blk_cell BK105.out 3).trans rfl
   have hfs16 := blk_frozen BK105.out 3
   have hns16_1 := NB106_105.out
   have hms16_1 := NB105_106.out
   have hs17 : w12.cell? ⟨gb105, 4, none⟩ = some (.string (⟨#[]⟩ : ByteArray)) := (blk_cell BK105.out 4).trans rfl
   have hfs17 := blk_frozen BK105.out 4
   have hns17_1 := NB106_105.out
   have hms17_1 := NB105_106.out
   have hs18 : w12.cell? ⟨gb105, 5, none⟩ = some (.int .i64 0) := (blk_cell BK105.out 5).trans rfl
   have hfs18 := blk_frozen BK105.out 5
   have hns18_1 := NB106_105.out
   have hms18_1 := NB105_106.out
   have hs19 : w12.cell? ⟨gb105, 6, none⟩ = some (.int .i64 0) := (blk_cell BK105.out 6).trans rfl
   have hfs19 := blk_frozen BK105.out 6
   have hns19_1 := NB106_105.out
   have hms19_1 := NB105_106.out
   have hs20 : w12.cell? ⟨gb105, 7, none⟩ = some (.int .i64 0) := (blk_cell BK105.out 7).trans rfl
   have hfs20 := blk_frozen BK105.out 7
   have hns20_1 := NB106_105.out
   have hms20_1 := NB105_106.out
   refine skip_ (w1 := ?_) ?hA_ ?hB_ ?_ ?_
   (case hA_ => kernel_rfl)
   (case hB_ => rfl)
   rotate_left
   ·go_simp
    rfl
   refine hK.out _ _ ⟨(by repeat (first | (with_reducible exact (hHeld.1)) | refine (cell_far (p := ⟨gb105, _, none⟩) (by first | exact Nat.ne_of_lt (Nat.lt_of_lt_of_le (by have := blt_ hw101_0; first | rwa [add_block] at this | exact this) GW105.out) | (rw [add_block]; exact Nat.ne_of_lt (Nat.lt_of_lt_of_le (by have := blt_ hw101_0; first | rwa [add_block] at this | exact this) GW105.out)) | (show (Addr.add _ _).block ≠ _; rw [add_block]; exact Nat.ne_of_lt (Nat.lt_of_lt_of_le (by have := blt_ hw101_0; first | rwa [add_block] at this | exact this) GW105.out)) | (dsimp only; exact Nat.ne_of_lt (Nat.lt_of_lt_of_le (by have := blt_ hw101_0; first | rwa [add_block] at this | exact this) GW105.out))) _).trans ?_ | exact (hHeld.1))), (by repeat (first | (with_reducible exact (hHeld.2.1)) | refine (cell_far (p := ⟨gb105, _, none⟩) (by first | exact Nat.ne_of_lt (Nat.lt_of_lt_of_le (by have := blt_ hw101_1; first | rwa [add_block] at this | exact this) GW105.out) | (rw [add_block]; exact Nat.ne_of_lt (Nat.lt_of_lt_of_le (by have := blt_ hw101_1; first | rwa [add_block] at this | exact this) GW105.out)) | (show (Addr.add _ _).block ≠ _; rw [add_block]; exact Nat.ne_of_lt (Nat.lt_of_lt_of_le (by have := blt_ hw101_1; first | rwa [add_block] at this | exact this) GW105.out)) | (dsimp only; exact Nat.ne_of_lt (Nat.lt_of_lt_of_le (by have := blt_ hw101_1; first | rwa [add_block] at this | exact this) GW105.out))) _).trans ?_ | exact (hHeld.2.1))), (by repeat (first | (with_reducible exact (hHeld.2.2.1)) | refine (cell_far (p := ⟨gb105, _, none⟩) (by first | exact Nat.ne_of_lt (Nat.lt_of_lt_of_le (by have := blt_ hw101_2; first | rwa [add_block] at this | exact this) GW105.out) | (rw [add_block]; exact Nat.ne_of_lt (Nat.lt_of_lt_of_le (by have := blt_ hw101_2; first | rwa [add_block] at this | exact this) GW105.out)) | (show (Addr.add _ _).block ≠ _; rw [add_block]; exact Nat.ne_of_lt (Nat.lt_of_lt_of_le (by have := blt_ hw101_2; first | rwa [add_block] at this | exact this) GW105.out)) | (dsimp only; exact Nat.ne_of_lt (Nat.lt_of_lt_of_le (by have := blt_ hw101_2; first | rwa [add_block] at this | exact this) GW105.out))) _).trans ?_ | exact (hHeld.2.2.1))), (by repeat (first | (with_reducible exact (hHeld.2.2.2.1)) | refine (cell_far (p := ⟨gb105, _, none⟩) (by first | exact Nat.ne_of_lt (Nat.lt_of_lt_of_le (by have := blt_ hw101_3; first | rwa [add_block] at this | exact this) GW105.out) | (rw [add_block]; exact Nat.ne_of_lt (Nat.lt_of_lt_of_le (by have := blt_ hw101_3; first | rwa [add_block] at this | exact this) GW105.out)) | (show (Addr.add _ _).block ≠ _; rw [add_block]; exact Nat.ne_of_lt (Nat.lt_of_lt_of_le (by have := blt_ hw101_3; first | rwa [add_block] at this | exact this) GW105.out)) | (dsimp only; exact Nat.ne_of_lt (Nat.lt_of_lt_of_le (by have := blt_ hw101_3; first | rwa [add_block] at this | exact this) GW105.out))) _).trans ?_ | exact (hHeld.2.2.2.1))), (by repeat (first | (with_reducible exact (hHeld.2.2.2.2.1)) | refine (cell_far (p := ⟨gb105, _, none⟩) (by first | exact Nat.ne_of_lt (Nat.lt_of_lt_of_le (by have := blt_ hw101_4; first | rwa [add_block] at this | exact this) GW105.out) | (rw [add_block]; exact Nat.ne_of_lt (Nat.lt_of_lt_of_le (by have := blt_ hw101_4; first | rwa [add_block] at this | exact this) GW105.out)) | (show (Addr.add _ _).block ≠ _; rw [add_block]; exact Nat.ne_of_lt (Nat.lt_of_lt_of_le (by have := blt_ hw101_4; first | rwa [add_block] at this | exact this) GW105.out)) | (dsimp only; exact Nat.ne_of_lt (Nat.lt_of_lt_of_le (by have := blt_ hw101_4; first | rwa [add_block] at this | exact this) GW105.out))) _).trans ?_ | exact (hHeld.2.2.2.2.1))), (by repeat (first | (with_reducible exact (hHeld.2.2.2.2.2.1)) | refine (cell_far (p := ⟨gb105, _, none⟩) (by first | exact Nat.ne_of_lt (Nat.lt_of_lt_of_le (by have := blt_ hw101_5; first | rwa [add_block] at this | exact this) GW105.out) | (rw [add_block]; exact Nat.ne_of_lt (Nat.lt_of_lt_of_le (by have := blt_ hw101_5; first | rwa [add_block] at this | exact this) GW105.out)) | (show (Addr.add _ _).block ≠ _; rw [add_block]; exact Nat.ne_of_lt (Nat.lt_of_lt_of_le (by have := blt_ hw101_5; first | rwa [add_block] at this | exact this) GW105.out)) | (dsimp only; exact Nat.ne_of_lt (Nat.lt_of_lt_of_le (by have := blt_ hw101_5; first | rwa [add_block] at this | exact this) GW105.out))) _).trans ?_ | exact (hHeld.2.2.2.2.2.1))), (by repeat (first | (with_reducible exact (hHeld.2.2.2.2.2.2.1)) | refine (cell_far (p := ⟨gb105, _, none⟩) (by first | exact Nat.ne_of_lt (Nat.lt_of_lt_of_le (by have := blt_ hw101_6; first | rwa [add_block] at this | exact this) GW105.out) | (rw [add_block]; exact Nat.ne_of_lt (Nat.lt_of_lt_of_le (by have := blt_ hw101_6; first | rwa [add_block] at this | exact this) GW105.out)) | (show (Addr.add _ _).block ≠ _; rw [add_block]; exact Nat.ne_of_lt (Nat.lt_of_lt_of_le (by have := blt_ hw101_6; first | rwa [add_block] at this | exact this) GW105.out)) | (dsimp only; exact Nat.ne_of_lt (Nat.lt_of_lt_of_le (by have := blt_ hw101_6; first | rwa [add_block] at this | exact this) GW105.out))) _).trans ?_ | exact (hHeld.2.2.2.2.2.2.1))), (by repeat (first | (with_reducible exact (hHeld.2.2.2.2.2.2.2)) | refine (cell_far (p := ⟨gb105, _, none⟩) (by first | exact Nat.ne_of_lt (Nat.lt_of_lt_of_le (by have := blt_ hw101_7; first | rwa [add_block] at this | exact this) GW105.out) | (rw [add_block]; exact Nat.ne_of_lt (Nat.lt_of_lt_of_le (by have := blt_ hw101_7; first | rwa [add_block] at this | exact this) GW105.out)) | (show (Addr.add _ _).block ≠ _; rw [add_block]; exact Nat.ne_of_lt (Nat.lt_of_lt_of_le (by have := blt_ hw101_7; first | rwa [add_block] at this | exact this) GW105.out)) | (dsimp only; exact Nat.ne_of_lt (Nat.lt_of_lt_of_le (by have := blt_ hw101_7; first | rwa [add_block] at this | exact this) GW105.out))) _).trans ?_ | exact (hHeld.2.2.2.2.2.2.2)))⟩ (fun hHeld => ?_)
   clear hK K
   refine one_ (i := 9) (N := none) (bl 10 1023) rfl rfl (one_of HT_.out (by kernel_rfl)) (by decide) (fun K hK => ?_)
   have hs21 : w12.cell? ⟨gb106, 0, none⟩ = some (.bool false) := (blk_cell BK106.out 0).trans rfl
   have hfs21 := blk_frozen BK106.out 0
   have hns21_0 := NB105_106.out
   have hms21_0 := NB106_105.out
   have hs22 : w12.cell? ⟨gb106, 1, none⟩ = some (.string (⟨#[]⟩ : ByteArray)) := (blk_cell BK106.out 1).trans rfl
   have hfs22 := blk_frozen BK106.out 1
   have hns22_0 := NB105_106.out
   have hms22_0 := NB106_105.out
   have hs23 : w12.cell? ⟨gb106, 2, none⟩ = some (.int .i64 0) := (blk_cell BK106.out 2).trans rfl
   have hfs23 := blk_frozen BK106.out 2
   have hns23_0 := NB105_106.out
   have hms23_0 := NB106_105.out
   refine skip_ (w1 := ?_) ?hA_ ?hB_ ?_ ?_
   (case hA_ => kernel_rfl)
   (case hB_ => rfl)
   rotate_left
   ·go_simp
    rfl
   refine hK.out _ _ ⟨(by repeat (first | (with_reducible exact (hHeld.1)) | refine (cell_far (p := ⟨gb106, _, none⟩) (by first | exact Nat.ne_of_lt (Nat.lt_of_lt_of_le (by have := blt_ hw101_0; first | rwa [add_block] at this | exact this) GW106.out) | (rw [add_block]; exact Nat.ne_of_lt (Nat.lt_of_lt_of_le (by have := blt_ hw101_0; first | rwa [add_block] at this | exact this) GW106.out)) | (show (Addr.add _ _).block ≠ _; rw [add_block]; exact Nat.ne_of_lt (Nat.lt_of_lt_of_le (by have := blt_ hw101_0; first | rwa [add_block] at this | exact this) GW106.out)) | (dsimp only; exact Nat.ne_of_lt (Nat.lt_of_lt_of_le (by have := blt_ hw101_0; first | rwa [add_block] at this | exact this) GW106.out))) _).trans ?_ | exact (hHeld.1))), (by repeat (first | (with_reducible exact (hHeld.2.1)) | refine (cell_far (p := ⟨gb106, _, none⟩) (by first | exact Nat.ne_of_lt (Nat.lt_of_lt_of_le (by have := blt_ hw101_1; first | rwa [add_block] at this | exact this) GW106.out) | (rw [add_block]; exact Nat.ne_of_lt (Nat.lt_of_lt_of_le (by have := blt_ hw101_1; first | rwa [add_block] at this | exact this) GW106.out)) | (show (Addr.add _ _).block ≠ _; rw [add_block]; exact Nat.ne_of_lt (Nat.lt_of_lt_of_le (by have := blt_ hw101_1; first | rwa [add_block] at this | exact this) GW106.out)) | (dsimp only; exact Nat.ne_of_lt (Nat.lt_of_lt_of_le (by have := blt_ hw101_1; first | rwa [add_block] at this | exact this) GW106.out))) _).trans ?_ | exact (hHeld.2.1))), (by repeat (first | (with_reducible exact (hHeld.2.2.1)) | refine (cell_far (p := ⟨gb106, _, none⟩) (by first | exact Nat.ne_of_lt (Nat.lt_of_lt_of_le (by have := blt_ hw101_2; first | rwa [add_block] at this | exact this) GW106.out) | (rw [add_block]; exact Nat.ne_of_lt (Nat.lt_of_lt_of_le (by have := blt_ hw101_2; first | rwa [add_block] at this | exact this) GW106.out)) | (show (Addr.add _ _).block ≠ _; rw [add_block]; exact Nat.ne_of_lt (Nat.lt_of_lt_of_le (by have := blt_ hw101_2; first | rwa [add_block] at this | exact this) GW106.out)) | (dsimp only; exact Nat.ne_of_lt (Nat.lt_of_lt_of_le (by have := blt_ hw101_2; first | rwa [add_block] at this | exact this) GW106.out))) _).trans ?_ | exact (hHeld.2.2.1))), (by repeat (first | (with_reducible exact (hHeld.2.2.2.1)) | refine (cell_far (p := ⟨gb106, _, none⟩) (by first | exact Nat.ne_of_lt (Nat.lt_of_lt_of_le (by have := blt_ hw101_3; first | rwa [add_block] at this | exact this) GW106.out) | (rw [add_block]; exact Nat.ne_of_lt (Nat.lt_of_lt_of_le (by have := blt_ hw101_3; first | rwa [add_block] at this | exact this) GW106.out)) | (show (Addr.add _ _).block ≠ _; rw [add_block]; exact Nat.ne_of_lt (Nat.lt_of_lt_of_le (by have := blt_ hw101_3; first | rwa [add_block] at this | exact this) GW106.out)) | (dsimp only; exact Nat.ne_of_lt (Nat.lt_of_lt_of_le (by have := blt_ hw101_3; first | rwa [add_block] at this | exact this) GW106.out))) _).trans ?_ | exact (hHeld.2.2.2.1))), (by repeat (first | (with_reducible exact (hHeld.2.2.2.2.1)) | refine (cell_far (p := ⟨gb106, _, none⟩) (by first | exact Nat.ne_of_lt (Nat.lt_of_lt_of_le (by have := blt_ hw101_4; first | rwa [add_block] at this | exact this) GW106.out) | (rw [add_block]; exact Nat.ne_of_lt (Nat.lt_of_lt_of_le (by have := blt_ hw101_4; first | rwa [add_block] at this | exact this) GW106.out)) | (show (Addr.add _ _).block ≠ _; rw [add_block]; exact Nat.ne_of_lt (Nat.lt_of_lt_of_le (by have := blt_ hw101_4; first | rwa [add_block] at this | exact this) GW106.out)) | (dsimp only; exact Nat.ne_of_lt (Nat.lt_of_lt_of_le (by have := blt_ hw101_4; first | rwa [add_block] at this | exact this) GW106.out))) _).trans ?_ | exact (hHeld.2.2.2.2.1))), (by repeat (first | (with_reducible exact (hHeld.2.2.2.2.2.1)) | refine (cell_far (p := ⟨gb106, _, none⟩) (by first | exact Nat.ne_of_lt (Nat.lt_of_lt_of_le (by have := blt_ hw101_5; first | rwa [add_block] at this | exact this) GW106.out) | (rw [add_block]; exact Nat.ne_of_lt (Nat.lt_of_lt_of_le (by have := blt_ hw101_5; first | rwa [add_block] at this | exact this) GW106.out)) | (show (Addr.add _ _).block ≠ _; rw [add_block]; exact Nat.ne_of_lt (Nat.lt_of_lt_of_le (by have := blt_ hw101_5; first | rwa [add_block] at this | exact this) GW106.out)) | (dsimp only; exact Nat.ne_of_lt (Nat.lt_of_lt_of_le (by have := blt_ hw101_5; first | rwa [add_block] at this | exact this) GW106.out))) _).trans ?_ | exact (hHeld.2.2.2.2.2.1))), (by repeat (first | (with_reducible exact (hHeld.2.2.2.2.2.2.1)) | refine (cell_far (p := ⟨gb106, _, none⟩) (by first | exact Nat.ne_of_lt (Nat.lt_of_lt_of_le (by have := blt_ hw101_6; first | rwa [add_block] at this | exact this) GW106.out) | (rw [add_block]; exact Nat.ne_of_lt (Nat.lt_of_lt_of_le (by have := blt_ hw101_6; first | rwa [add_block] at this | exact this) GW106.out)) | (show (Addr.add _ _).block ≠ _; rw [add_block]; exact Nat.ne_of_lt (Nat.lt_of_lt_of_le (by have := blt_ hw101_6; first | rwa [add_block] at this | exact this) GW106.out)) | (dsimp only; exact Nat.ne_of_lt (Nat.lt_of_lt_of_le (by have := blt_ hw101_6; first | rwa [add_block] at this | exact this) GW106.out))) _).trans ?_ | exact (hHeld.2.2.2.2.2.2.1))), (by repeat (first | (with_reducible exact (hHeld.2.2.2.2.2.2.2)) | refine (cell_far (p := ⟨gb106, _, none⟩) (by first | exact Nat.ne_of_lt (Nat.lt_of_lt_of_le (by have := blt_ hw101_7; first | rwa [add_block] at this | exact this) GW106.out) | (rw [add_block]; exact Nat.ne_of_lt (Nat.lt_of_lt_of_le (by have := blt_ hw101_7; first | rwa [add_block] at this | exact this) GW106.out)) | (show (Addr.add _ _).block ≠ _; rw [add_block]; exact Nat.ne_of_lt (Nat.lt_of_lt_of_le (by have := blt_ hw101_7; first | rwa [add_block] at this | exact this) GW106.out)) | (dsimp only; exact Nat.ne_of_lt (Nat.lt_of_lt_of_le (by have := blt_ hw101_7; first | rwa [add_block] at this | exact this) GW106.out))) _).trans ?_ | exact (hHeld.2.2.2.2.2.2.2)))⟩ (fun hHeld => ?_)
   clear hK K
   refine done_ (done_of HT_.out (by kernel_rfl)) ?_
   have hnb24 := NB106_105.out
   have hnc24 := NB105_106.out
   obtain ⟨hcz25_0, hcz25_1, hcz25_2, hfz25_0, hfz25_1, hfz25_2⟩ := bc3 BK106.out
   try go_wp2_with (first | ((with_reducible refine gate_dst (N := 24) rfl ?_); refine Kd.R_lit k28 _ 28 ?hg (N := 24) ?hd (xs := ([(⟨t102, t103, t104⟩ : Val)] : List (Val))) (inner := [.bool t102, .string t103, .int .i64 t104]) (ok := fun _ => True) (okp := fun _ => True) ?hr ?hp (fun _ hk => hk) trivial (Below.refl _ _) (Nat.le_refl _) (by simp) ?_; (case hd => rfl); (case hg => rfl); (case hr => first | (go_simp; done) | (go_simp; rfl)); (case hp => exact (Reps.c3 (show Kd.M k28 _ _ _ (⟨t102, t103, t104⟩ : Val) [.bool t102, .string t103, .int .i64 t104] from (k28_mkM _ _ _ (⟨t102, t103, t104⟩ : Val) )) (Reps.none _ _))); intro v108 w26 ho27 hb hg_ hnew_; clear hg_ hnew_; (first | rw [← Ny107.out] at ho27 | (simp only [Int.reduceToNat] at ho27; rw [← Ny107.out] at ho27)); have HO109 := am (Kd.R_lower (Kd.R_newB (Kd.R_newM (M := fun k_ => (w.heap.size ≤ k_)) ho27 (below_size (pL HB.out)) (fun k_ h_ => h_)) (g := gb106) (o := .cells #[.bool t102, .string t103, .int .i64 t104] 28 (0, 0)) (by (with_reducible repeat (first | refine bN ?_ _ | refine bD ?_ | refine bA ?_ _)); refine blk_put (cs := #[.bool t102, .string t103, .int .i64 0]) ?_ 2 _ rfl; (with_reducible repeat (first | refine bN ?_ _ | refine bD ?_ | refine bA ?_ _)); refine blk_put (cs := #[.bool t102, .string (⟨#[]⟩ : ByteArray), .int .i64 0]) ?_ 1 _ rfl; (with_reducible repeat (first | refine bN ?_ _ | refine bD ?_ | refine bA ?_ _)); refine blk_put (cs := #[.bool false, .string (⟨#[]⟩ : ByteArray), .int .i64 0]) ?_ 0 _ rfl; (with_reducible repeat (first | refine bN ?_ _ | refine bD ?_ | refine bA ?_ _)); refine blk_far ?_ NB106_105.out _; (with_reducible repeat (first | refine bN ?_ _ | refine bD ?_ | refine bA ?_ _)); refine blk_far ?_ NB106_105.out _; (with_reducible repeat (first | refine bN ?_ _ | refine bD ?_ | refine bA ?_ _)); refine blk_far ?_ NB106_105.out _; (with_reducible repeat (first | refine bN ?_ _ | refine bD ?_ | refine bA ?_ _)); refine blk_far ?_ NB106_105.out _; (with_reducible repeat (first | refine bN ?_ _ | refine bD ?_ | refine bA ?_ _)); refine blk_far ?_ NB106_105.out _; (with_reducible repeat (first | refine bN ?_ _ | refine bD ?_ | refine bA ?_ _)); refine blk_far ?_ NB106_105.out _; (with_reducible repeat (first | refine bN ?_ _ | refine bD ?_ | refine bA ?_ _)); refine blk_far ?_ NB106_105.out _; (with_reducible repeat (first | refine bN ?_ _ | refine bD ?_ | refine bA ?_ _)); refine blk_far ?_ NB106_105.out _; (with_reducible repeat (first | refine bN ?_ _ | refine bD ?_ | refine bA ?_ _)); exact BK106.out)) (below_size (pL HB.out))); replace BK105 := am (blk_below (g := gb105) (o := .cells #[.int .i64 ((rd_T33 l0 a1).kind), .string ((rd_T33 l0 a1).x), .string ((rd_T33 l0 a1).y), .string ((rd_T33 l0 a1).z), .string ((rd_T33 l0 a1).op), .int .i64 ((rd_T33 l0 a1).n), .int .i64 ((rd_T33 l0 a1).a), .int .i64 ((rd_T33 l0 a1).b)] 33 (0, 0)) (by (with_reducible repeat (first | refine bN ?_ _ | refine bD ?_ | refine bA ?_ _)); refine blk_far ?_ NB105_106.out _; (with_reducible repeat (first | refine bN ?_ _ | refine bD ?_ | refine bA ?_ _)); refine blk_far ?_ NB105_106.out _; (with_reducible repeat (first | refine bN ?_ _ | refine bD ?_ | refine bA ?_ _)); refine blk_far ?_ NB105_106.out _; (with_reducible repeat (first | refine bN ?_ _ | refine bD ?_ | refine bA ?_ _)); exact bp 7 (bp 6 (bp 5 (bp 4 (bp 3 (bp 2 (bp 1 (bp 0 BK105.out)))))))) hb); replace BK106 := am (blk_below (g := gb106) (o := .cells #[.bool t102, .string t103, .int .i64 t104] 28 (0, 0)) (by (with_reducible repeat (first | refine bN ?_ _ | refine bD ?_ | refine bA ?_ _)); refine blk_put (cs := #[.bool t102, .string t103, .int .i64 0]) ?_ 2 _ rfl; (with_reducible repeat (first | refine bN ?_ _ | refine bD ?_ | refine bA ?_ _)); refine blk_put (cs := #[.bool t102, .string (⟨#[]⟩ : ByteArray), .int .i64 0]) ?_ 1 _ rfl; (with_reducible repeat (first | refine bN ?_ _ | refine bD ?_ | refine bA ?_ _)); refine blk_put (cs := #[.bool false, .string (⟨#[]⟩ : ByteArray), .int .i64 0]) ?_ 0 _ rfl; (with_reducible repeat (first | refine bN ?_ _ | refine bD ?_ | refine bA ?_ _)); refine blk_far ?_ NB106_105.out _; (with_reducible repeat (first | refine bN ?_ _ | refine bD ?_ | refine bA ?_ _)); refine blk_far ?_ NB106_105.out _; (with_reducible repeat (first | refine bN ?_ _ | refine bD ?_ | refine bA ?_ _)); refine blk_far ?_ NB106_105.out _; (with_reducible repeat (first | refine bN ?_ _ | refine bD ?_ | refine bA ?_ _)); refine blk_far ?_ NB106_105.out _; (with_reducible repeat (first | refine bN ?_ _ | refine bD ?_ | refine bA ?_ _)); refine blk_far ?_ NB106_105.out _; (with_reducible repeat (first | refine bN ?_ _ | refine bD ?_ | refine bA ?_ _)); refine blk_far ?_ NB106_105.out _; (with_reducible repeat (first | refine bN ?_ _ | refine bD ?_ | refine bA ?_ _)); refine blk_far ?_ NB106_105.out _; (with_reducible repeat (first | refine bN ?_ _ | refine bD ?_ | refine bA ?_ _)); refine blk_far ?_ NB106_105.out _; (with_reducible repeat (first | refine bN ?_ _ | refine bD ?_ | refine bA ?_ _)); exact BK106.out) hb); replace HB := am (bs_ HB.out hb); clear hb ho27; obtain ⟨Ao28, co28, eo28⟩ := Kd.R_slice HO109.out; subst eo28) | ((with_reducible refine gate_callee (f := 20) rfl ?_); refine goesL_ (some 25) rfl rfl Try.func20 (by kernel_rfl) rfl #[.string (⟨#[110, 111, 100, 101]⟩ : ByteArray), .slice Ao28 y107.length co28] rfl (by (try simp only [List.map_toArray, List.map_cons, List.map_nil]); first | done | rfl | (simp only [List.length_drop, List.length_take]; rfl)) ?_; (with_reducible refine (facts_fact.calls (⟨#[110, 111, 100, 101]⟩ : ByteArray) (fun k_ => some k_ = (.slice Ao28 y107.length co28 : Value).ownBlock) _ _ y107 t110 t111 _ ?side1 A6.out).mono ?_); (case side1 => exact Kd.R_V (Kd.R_tight rfl (Kd.R_types (HO109.out) BK105.out (by decide)))); rintro e w29 ⟨v112, rfl, ho0, hb⟩; refine ⟨_, rfl, ?_⟩; have HO113 := am (Kd.V_lower (Kd.V_mono (ok' := fun k_ => (w.heap.size ≤ k_) ∧ k_ ≠ gb105 ∧ k_ ≠ gb106) ho0 (fun k_ hk_ => ⟨Or.elim hk_ (fun hs_ => ((Kd.R_types (HO109.out) BK105.out (by decide)).1 k_ hs_.symm).1.1.1) (fun hn_ => (Nat.le_trans (below_size (pL HB.out)) hn_)), Or.elim hk_ (fun hs_ => ((Kd.R_types (HO109.out) BK105.out (by decide)).1 k_ hs_.symm).2) (fun hn_ => (Kd.freshB (g := gb105) (pB BK105.out) k_ hn_)), Or.elim hk_ (fun hs_ => ((Kd.R_types (HO109.out) BK105.out (by decide)).1 k_ hs_.symm).1.2) (fun hn_ => (Kd.freshB (g := gb106) (pB BK106.out) k_ hn_))⟩)) (below_size (pL HB.out))); replace HO109 := am (Rb_ HO109.out hb); replace BK105 := am (bb_ BK105.out hb); replace BK106 := am (bb_ BK106.out hb); replace HB := am (bs_ HB.out hb); (try clear hb); (try clear hb2); (try clear hk); (try clear hi); (try clear ho0); obtain ⟨Ao30, co30, eo30⟩ := Kd.V_slice HO113.out; subst eo30) | ((with_reducible refine gate_dst (N := 26) rfl ?_); refine Kd.N_lit k44 _ 44 ?hg (N' := 26) ?hd (xs := ([(⟨t110, t111⟩ : Fact)] : List (Fact))) (inner := [.string t110, .slice Ao30 t111.length co30]) (ok := (fun k_ => (w.heap.size ≤ k_) ∧ k_ ≠ gb105 ∧ k_ ≠ gb106)) (okp := (fun k_ => (w.heap.size ≤ k_) ∧ k_ ≠ gb105 ∧ k_ ≠ gb106)) ?hr ?hp (fun _ hk => hk) ((show ∀ k_, w29.heap.size ≤ k_ → (fun k_ => (w.heap.size ≤ k_) ∧ k_ ≠ gb105 ∧ k_ ≠ gb106) k_ from fun k_ hk => ⟨(Nat.le_trans (below_size (pL HB.out)) hk), Kd.freshB (g := gb105) (pB BK105.out) k_ hk, Kd.freshB (g := gb106) (pB BK106.out) k_ hk⟩) _ (Nat.le_refl _)) (Below.refl _ _) (Nat.le_refl _) (by simp) ?_; (case hd => rfl); (case hg => rfl); (case hr => first | (go_simp; done) | (go_simp; rfl)); (case hp => exact (Reps.c2 (show Kd.FK k44 _ _ (⟨t110, t111⟩ : Fact) [.string t110, .slice Ao30 t111.length co30] from (k44_mkF _ _ (⟨t110, t111⟩ : Fact) (Kd.V_reads' (Kd.V_mono (ok' := (fun k_ => (w.heap.size ≤ k_) ∧ k_ ≠ gb105 ∧ k_ ≠ gb106)) (HO113.out) (fun k_ hk => ⟨hk.1, ⟨hk.2.1, hk.2.2⟩⟩))).2.1 (Kd.V_F (Kd.V_mono (ok' := (fun k_ => (w.heap.size ≤ k_) ∧ k_ ≠ gb105 ∧ k_ ≠ gb106)) (HO113.out) (fun k_ hk => ⟨hk.1, ⟨hk.2.1, hk.2.2⟩⟩))))) (Reps.none _ _))); intro v115 w31 ho32 hb hg_ hnew_; clear hg_ hnew_; (first | rw [← Ny114.out] at ho32 | (simp only [Int.reduceToNat] at ho32; rw [← Ny114.out] at ho32)); replace HO109 := am (Rb_ HO109.out hb); replace HO113 := am (Kd.V_elder' (pV HO113.out) (Kd.N_base ho32) hb); have HO116 := am (Kd.N_lower ho32 (below_size (pL HB.out))); replace BK105 := am (bb_ BK105.out hb); replace BK106 := am (bb_ BK106.out hb); replace HB := am (bs_ HB.out hb); clear hb ho32) | ((with_reducible refine gate_callee (f := 11) rfl ?_); refine goesL_ (some 29) rfl rfl Try.func11 (by kernel_rfl) rfl #[.slice (some ad101) l0.length c0, .int .i64 a1] rfl (by (try simp only [List.map_toArray, List.map_cons, List.map_nil]); first | done | rfl | (simp only [List.length_drop, List.length_take]; rfl)) ?_; (with_reducible refine (cfg_Next.calls _ _ l0 a1 t117 _ ?side1 ?side2 A7.out).mono ?_); (case side1 => repeat (first | exact (Kd.C_below HR0.out HB.out) | (with_reducible refine Kd.C_alloc ?_ _) | (with_reducible refine Kd.C_drewN ?_ _) | (with_reducible refine Kd.C_drew ?_))); (case side2 => exact HC0.out); rintro e w33 ⟨v118, rfl, ho0, hb⟩; refine ⟨_, rfl, ?_⟩; replace HO109 := am (Rb_ HO109.out hb); replace HO113 := am (Kd.V_elder' (pV HO113.out) (Kd.R_base ho0) hb); replace HO116 := am (Kd.N_elder' (by (with_reducible repeat (first | apply Kd.N_alloc | apply Kd.N_drewN | apply Kd.N_drew)); exact HO116.out) (Kd.R_base ho0) hb); have HO119 := am (Kd.R_lower (Kd.R_newM (M := fun k_ => (w.heap.size ≤ k_)) ho0 (below_size (pL HB.out)) (fun k_ h_ => h_)) (below_size (pL HB.out))); replace BK105 := am (bb_ BK105.out hb); replace BK106 := am (bb_ BK106.out hb); replace HB := am (bs_ HB.out hb); (try clear hb); (try clear hb2); (try clear hk); (try clear hi); (try clear ho0); obtain ⟨Ao34, co34, eo34⟩ := Kd.R_slice HO119.out; subst eo34))
   go_loopg [7, 31] k (fun kq v7 v31 w' => ∃ (x7_1 : List (Fact)) (x31_1 : Int), v31 = .int .i64 x31_1 ∧ Aside0 (facts_one.l0 kq x7_1 t117 (t117.length : Int) x31_1 ((rd_T33 l0 a1).kind) ((rd_T33 l0 a1).x) ((rd_T33 l0 a1).y) ((rd_T33 l0 a1).z) ((rd_T33 l0 a1).op) ((rd_T33 l0 a1).n) ((rd_T33 l0 a1).a) ((rd_T33 l0 a1).b) t102 t103 t104 = some r) ∧ Aside0 (kq ≤ k) ∧ Aside0 (Kd.N k44 44 w' w.heap.size (fun k_ => (w.heap.size ≤ k_) ∧ some k_ ≠ ((.slice Ao34 t117.length co34) : Value).ownBlock ∧ k_ ≠ gb105 ∧ k_ ≠ gb106) v7 x7_1) ∧ Aside0 (Kd.R (Kd.int .i64) 3 w' w.heap.size (fun k_ => (w.heap.size ≤ k_)) (.slice Ao34 t117.length co34) t117) ∧ Aside0 (w'.heap[gb105]? = some (.cells #[.int .i64 ((rd_T33 l0 a1).kind), .string ((rd_T33 l0 a1).x), .string ((rd_T33 l0 a1).y), .string ((rd_T33 l0 a1).z), .string ((rd_T33 l0 a1).op), .int .i64 ((rd_T33 l0 a1).n), .int .i64 ((rd_T33 l0 a1).a), .int .i64 ((rd_T33 l0 a1).b)] 33 (0, 0))) ∧ Aside0 (w'.heap[gb106]? = some (.cells #[.bool t102, .string t103, .int .i64 t104] 28 (0, 0))) ∧ Aside0 (Below w.heap.size w w'))
   case atStart => exact ⟨(y114), (0), rs_, H', ⟨Nat.le_refl _⟩, ⟨by (with_reducible repeat (first | apply Kd.N_alloc | apply Kd.N_drewN | apply Kd.N_drew)); exact Kd.N_mono HO116.out (fun _ hk => ⟨hk.1.1, ⟨hk.2, ⟨hk.1.2.1, hk.1.2.2⟩⟩⟩)⟩, ⟨by (with_reducible repeat (first | apply Ra | apply Rn | apply Rd)); exact Kd.R_mono HO119.out (fun _ hk => hk.1)⟩, ⟨pB BK105.out⟩, ⟨pB BK106.out⟩, ⟨pL HB.out⟩⟩
   case round =>
    clear H'
    try clear c1
    try clear p1
    try clear q1
    try clear hx1
    try clear c2
    try clear p2
    try clear c3
    try clear p10
    try clear q10
    try clear hx10
    try clear c11
    try clear c20
    try clear c24
    try clear c31
    try clear hcz25_0
    try clear hcz25_1
    try clear hcz25_2
    try clear hfz25_0
    try clear hfz25_1
    try clear hfz25_2
    try clear hx101_0
    try clear hx101_1
    try clear hx101_2
    try clear hx101_3
    try clear hx101_4
    try clear hx101_5
    try clear hx101_6
    try clear hx101_7
    try clear p101
    try clear q101
    obtain ⟨x7_1, x31_1, rfl, HA, HK1, HO_7, HO_29, BK105, BK106, HB⟩ := hrel
    cases gk with
    | zero => exact absurd HA.out (by simp [facts_one.l0])
    | succ k1 =>
     have H := HA.out
     clear HA
     simp only [facts_one.l0] at H
     by_cases c35 : x31_1 < (t117.length : Int)
     ·rw [if_pos c35] at H
      have c35b0 : decide (x31_1 < (t117.length : Int)) = true := decide_eq_true c35
      clear c35
      by_cases c36 : 0 ≤ x31_1
      ·rw [if_pos c36] at H
       have c36b0 : decide (0 ≤ x31_1) = true := decide_eq_true c36
       clear c36
       by_cases c37 : x31_1 < (t117.length : Int)
       ·rw [if_pos c37] at H
        have c37b0 : decide (x31_1 < (t117.length : Int)) = true := decide_eq_true c37
        clear c37
        replace H := Option.bind_eq_some_iff.mp H
        obtain ⟨⟨t121, t122, t123⟩, A380, H⟩ := H
        replace H : ((facts_fact.f (⟨#[110, 101, 120, 116]⟩ : ByteArray) (([(⟨t102, t103, t104⟩ : Val), (⟨t121, t122, t123⟩ : Val)] : List (Val)))).bind fun bt127 => (if x7_1.length < 3518437208883 then (facts_one.l0 k1 (x7_1 ++ [(⟨bt127.1, bt127.2⟩ : Fact)]) t117 (t117.length : Int) (wrap64 (x31_1 + 1)) ((rd_T33 l0 a1).kind) ((rd_T33 l0 a1).x) ((rd_T33 l0 a1).y) ((rd_T33 l0 a1).z) ((rd_T33 l0 a1).op) ((rd_T33 l0 a1).n) ((rd_T33 l0 a1).a) ((rd_T33 l0 a1).b) t102 t103 t104) else (none))) = some r := H
        have A38 := am A380
        clear A380
        obtain ⟨y124, hy124⟩ : ∃ y_ : List (Val), y_ = (([(⟨t102, t103, t104⟩ : Val), (⟨t121, t122, t123⟩ : Val)] : List (Val))) := ⟨_, rfl⟩
        replace H : ((facts_fact.f (⟨#[110, 101, 120, 116]⟩ : ByteArray) y124).bind fun bt127 => (if x7_1.length < 3518437208883 then (facts_one.l0 k1 (x7_1 ++ [(⟨bt127.1, bt127.2⟩ : Fact)]) t117 (t117.length : Int) (wrap64 (x31_1 + 1)) ((rd_T33 l0 a1).kind) ((rd_T33 l0 a1).x) ((rd_T33 l0 a1).y) ((rd_T33 l0 a1).z) ((rd_T33 l0 a1).op) ((rd_T33 l0 a1).n) ((rd_T33 l0 a1).a) ((rd_T33 l0 a1).b) t102 t103 t104) else (none))) = some r := by first | (rw [hy124]; with_reducible exact H) | (have H2_ := (Option.bind_some _ _).symm.trans H; rw [hy124]; with_reducible exact H2_) | (have H2_ := (Option.bind_some _ _).symm.trans H; with_reducible exact H2_) | with_reducible exact H | (rw [hy124]; exact H) | exact H
        have Ny124 := am hy124
        clear hy124
        replace H := Option.bind_eq_some_iff.mp H
        obtain ⟨⟨t127, t128⟩, A390, H⟩ := H
        replace H : (if x7_1.length < 3518437208883 then (facts_one.l0 k1 (x7_1 ++ [(⟨t127, t128⟩ : Fact)]) t117 (t117.length : Int) (wrap64 (x31_1 + 1)) ((rd_T33 l0 a1).kind) ((rd_T33 l0 a1).x) ((rd_T33 l0 a1).y) ((rd_T33 l0 a1).z) ((rd_T33 l0 a1).op) ((rd_T33 l0 a1).n) ((rd_T33 l0 a1).a) ((rd_T33 l0 a1).b) t102 t103 t104) else (none)) = some r := H
        have A39 := am A390
        clear A390
        by_cases c40 : x7_1.length < 3518437208883
        ·rw [if_pos c40] at H
         have LMc40 := am c40
         clear c40
         obtain ⟨y131, hy131⟩ : ∃ y_ : List (Fact), y_ = (x7_1 ++ [(⟨t127, t128⟩ : Fact)]) := ⟨_, rfl⟩
         replace H : (facts_one.l0 k1 y131 t117 (t117.length : Int) (wrap64 (x31_1 + 1)) ((rd_T33 l0 a1).kind) ((rd_T33 l0 a1).x) ((rd_T33 l0 a1).y) ((rd_T33 l0 a1).z) ((rd_T33 l0 a1).op) ((rd_T33 l0 a1).n) ((rd_T33 l0 a1).a) ((rd_T33 l0 a1).b) t102 t103 t104) = some r := by first | (rw [hy131]; with_reducible exact H) | (have H2_ := (Option.bind_some _ _).symm.trans H; rw [hy131]; with_reducible exact H2_) | (have H2_ := (Option.bind_some _ _).symm.trans H; with_reducible exact H2_) | with_reducible exact H | (rw [hy131]; exact H) | exact H
         have Ny131 := am hy131
         clear hy131
         have H' := am H
         clear H
         have p120 : 0 ≤ (x31_1 : Int) := dt_
         have q120 : x31_1 < (t117.length : Int) := dt_
         obtain ⟨ad120, e120, hx120_0⟩ := Kd.at_int (Kd.R_reads' HO_29.out).2.2 x31_1 p120 q120
         cases e120
         replace p120 := eq_true p120
         replace q120 := eq_true q120
         try go_wp2
         replace HO_7 := am (Kd.N_drew HO_7.out)
         replace HO_29 := am (Kd.R_drew HO_29.out)
         replace BK105 := am (blk_drew BK105.out)
         replace BK106 := am (blk_drew BK106.out)
         replace HB := am (below_drew1 HB.out)
         refine start_ (n := 9) (S := fun w' => w'.cell? ⟨gb106, 0, none⟩ = some (.bool t102) ∧ w'.cell? ⟨gb106, 1, none⟩ = some (.string t103) ∧ w'.cell? ⟨gb106, 2, none⟩ = some (.int .i64 t104)) (ds := []) (bl 9 0) (by kernel_rfl) rfl rfl ⟨(blk_cell BK106.out 0).trans rfl, (blk_cell BK106.out 1).trans rfl, (blk_cell BK106.out 2).trans rfl⟩ (fun hHeld => ?_); refine with_tabW facts_one.tab6 facts_one.bits6 (fun HT_ HW_ => ?_)
         generalize wr.drew = w41 at HO_7 HO_29 BK105 BK106 HB hHeld ⊢
         refine pure_ (i := 0) (N := some 35) (v := ?_) (a' := ?_) (bl 9 1) rfl rfl (any_of HT_.out (by kernel_rfl)) (fun _ _ _ h => h) (Or.inl ⟨by rfl, ?_⟩) ?_ ?_
         rotate_left
         ·intro w'
          go_simp
          with_reducible rfl
         rotate_left
         ·simp only [Act.put, sA, sZ, sS, i64_w, i32_w]
          rfl
         refine pure_ (i := 2) (N := some 37) (v := ?_) (a' := ?_) (bl 9 5) rfl rfl (any_of HT_.out (by kernel_rfl)) (fun _ _ _ h => h) (Or.inl ⟨by rfl, ?_⟩) ?_ ?_
         rotate_left
         ·intro w'
          go_simp
          with_reducible rfl
         rotate_left
         ·simp only [Act.put, sA, sZ, sS, i64_w, i32_w]
          rfl
         refine take_ (i := 1) (N := some 36) (v := ?_) (a' := ?_) (bl 9 7) rfl rfl (take_ofW HT_.out HW_.out (by kernel_rfl)) (fun _ _ _ h => h) (Or.inl ⟨by rfl, ?_⟩) hHeld ?_ ?_
         rotate_left
         ·rintro w' ⟨s0, s1, s2⟩
          go_simp
          with_reducible rfl
         rotate_left
         ·simp only [Act.put, sA, sZ, sS, i64_w, i32_w]
          rfl
         refine one_ (i := 3) (N := some 38) (bl 9 15) rfl rfl (one_of HT_.out (by kernel_rfl)) (by decide) (fun K hK => ?_)
         refine goes_ Try.func31 (by kernel_rfl) rfl #[.int .i64 (rd t117 x31_1)] (by rfl) rfl rfl (by (try simp only [List.map_toArray, List.map_cons, List.map_nil]); first | done | rfl | (simp only [List.length_drop, List.length_take]; rfl)) ?_
         with_reducible refine (value_Int.calls (rd t117 x31_1) t121 t122 t123 _ A38.out).mono ?_
         rintro e w42 ⟨rfl, hb⟩
         refine ⟨_, rfl, ?_⟩
         replace HO_7 := am (Kd.N_below (by (with_reducible repeat (first | apply Kd.N_alloc | apply Kd.N_drewN | apply Kd.N_drew)); exact HO_7.out) hb)
         replace HO_29 := am (Rb_ HO_29.out hb)
         replace BK105 := am (bb_ BK105.out hb)
         replace BK106 := am (bb_ BK106.out hb)
         replace HB := am (bs_ HB.out hb)
         (try clear hb)
         (try clear hb2)
         (try clear hk)
         (try clear hi)
         refine hK.out _ _ ⟨(blk_cell BK106.out 0).trans rfl, (blk_cell BK106.out 1).trans rfl, (blk_cell BK106.out 2).trans rfl⟩ (fun hHeld => ?_)
         clear hK K
         refine norm_ (a' := ?_) ?_ ?_
         rotate_left
         ·show Act.put _ (some 38) _ = _
          simp only [Act.put, sA, sZ, sS, i64_w, i32_w]
          rfl
         refine one_ (i := 4) (N := some 39) (bl 9 31) rfl rfl (one_of HT_.out (by kernel_rfl)) (by decide) (fun K hK => ?_)
         refine Kd.R_lit_step k28 _ 28 ?hg (N := 39) ?hd (xs := ([(⟨t102, t103, t104⟩ : Val), (⟨t121, t122, t123⟩ : Val)] : List (Val))) (inner := [.bool t102, .string t103, .int .i64 t104, .bool t121, .string t122, .int .i64 t123]) (ok := fun _ => True) (okp := fun _ => True) ?hr ?hp (fun _ hk => hk) trivial (Below.refl _ _) (Nat.le_refl _) (by simp) ?_; (case hd => rfl); (case hg => rfl); (case hr => first | (go_simp; done) | (go_simp; rfl)); (case hp => exact (Reps.c3 (show Kd.M k28 _ _ _ (⟨t102, t103, t104⟩ : Val) [.bool t102, .string t103, .int .i64 t104] from (k28_mkM _ _ _ (⟨t102, t103, t104⟩ : Val) )) (Reps.c3 (show Kd.M k28 _ _ _ (⟨t121, t122, t123⟩ : Val) [.bool t121, .string t122, .int .i64 t123] from (k28_mkM _ _ _ (⟨t121, t122, t123⟩ : Val) )) (Reps.none _ _))))
         intro v125 w43 ho44 hb hg_ hnew_
         clear hg_ hnew_
         (first | rw [← Ny124.out] at ho44 | (simp only [Int.reduceToNat] at ho44; rw [← Ny124.out] at ho44))
         replace HO_7 := am (Kd.N_elder' (by (with_reducible repeat (first | apply Kd.N_alloc | apply Kd.N_drewN | apply Kd.N_drew)); exact HO_7.out) (Kd.R_base ho44) hb)
         replace HO_29 := am (Rb_ HO_29.out hb)
         have HO126 := am (Kd.R_lower (Kd.R_newB (Kd.R_newM (M := fun k_ => (w.heap.size ≤ k_)) ho44 (below_size (pL HB.out)) (fun k_ h_ => h_)) (g := gb106) (o := .cells #[.bool t102, .string t103, .int .i64 t104] 28 (0, 0)) (pB BK106.out)) (below_size (pL HB.out)))
         replace BK105 := am (bb_ BK105.out hb)
         replace BK106 := am (bb_ BK106.out hb)
         replace HB := am (bs_ HB.out hb)
         clear hb ho44
         obtain ⟨Ao45, co45, eo45⟩ := Kd.R_slice HO126.out
         (first | subst eo45 | (injection eo45 with f1_ f2_ f3_; have f4_ := f1_.symm; have f5_ := f3_.symm; clear f1_ f2_ f3_; subst f4_; subst f5_))
         refine hK.out _ _ ⟨(blk_cell BK106.out 0).trans rfl, (blk_cell BK106.out 1).trans rfl, (blk_cell BK106.out 2).trans rfl⟩ (fun hHeld => ?_)
         clear hK K
         refine norm_ (a' := ?_) ?_ ?_
         rotate_left
         ·show Act.put _ (some 39) _ = _
          simp only [Act.put, sA, sZ, sS, i64_w, i32_w]
          rfl
         refine one_ (i := 5) (N := some 40) (bl 9 63) rfl rfl (one_of HT_.out (by kernel_rfl)) (by decide) (fun K hK => ?_)
         refine goes_ Try.func20 (by kernel_rfl) rfl #[.string (⟨#[110, 101, 120, 116]⟩ : ByteArray), .slice Ao45 y124.length co45] (by rfl) rfl rfl (by (try simp only [List.map_toArray, List.map_cons, List.map_nil]); first | done | rfl | (simp only [List.length_drop, List.length_take]; rfl)) ?_
         with_reducible refine (facts_fact.calls (⟨#[110, 101, 120, 116]⟩ : ByteArray) (fun k_ => some k_ = (.slice Ao45 y124.length co45 : Value).ownBlock) _ _ y124 t127 t128 _ ?side1 A39.out).mono ?_
         (case side1 => exact Kd.R_V (Kd.R_tight rfl (Kd.R_types (Kd.R_apart' (Kd.R_apart' (HO126.out) (Kd.N_typed HO_7.out) (by decide)) (Kd.R_typed HO_29.out) (by decide)) BK105.out (by decide))))
         rintro e w46 ⟨v129, rfl, ho0, hb⟩
         refine ⟨_, rfl, ?_⟩
         have HO130 := am (Kd.V_lower (Kd.V_mono (ok' := fun k_ => (w.heap.size ≤ k_) ∧ some k_ ≠ (u7 : Value).ownBlock ∧ some k_ ≠ (.slice (some ad120) t117.length co34 : Value).ownBlock ∧ k_ ≠ gb105 ∧ k_ ≠ gb106) ho0 (fun k_ hk_ => ⟨Or.elim hk_ (fun hs_ => ((Kd.R_types (Kd.R_apart' (Kd.R_apart' (HO126.out) (Kd.N_typed HO_7.out) (by decide)) (Kd.R_typed HO_29.out) (by decide)) BK105.out (by decide)).1 k_ hs_.symm).1.1.1.1.1) (fun hn_ => (Nat.le_trans (below_size (pL HB.out)) hn_)), Or.elim hk_ (fun hs_ => ((Kd.R_types (Kd.R_apart' (Kd.R_apart' (HO126.out) (Kd.N_typed HO_7.out) (by decide)) (Kd.R_typed HO_29.out) (by decide)) BK105.out (by decide)).1 k_ hs_.symm).1.1.2) (fun hn_ => (Kd.fresh' (Kd.N_lt (by (with_reducible repeat (first | apply Kd.N_alloc | apply Kd.N_drewN | apply Kd.N_drew)); exact HO_7.out)) k_ hn_)), Or.elim hk_ (fun hs_ => ((Kd.R_types (Kd.R_apart' (Kd.R_apart' (HO126.out) (Kd.N_typed HO_7.out) (by decide)) (Kd.R_typed HO_29.out) (by decide)) BK105.out (by decide)).1 k_ hs_.symm).1.2) (fun hn_ => (Kd.fresh' (Kd.R_lt (pR HO_29.out)) k_ hn_)), Or.elim hk_ (fun hs_ => ((Kd.R_types (Kd.R_apart' (Kd.R_apart' (HO126.out) (Kd.N_typed HO_7.out) (by decide)) (Kd.R_typed HO_29.out) (by decide)) BK105.out (by decide)).1 k_ hs_.symm).2) (fun hn_ => (Kd.freshB (g := gb105) (pB BK105.out) k_ hn_)), Or.elim hk_ (fun hs_ => ((Kd.R_types (Kd.R_apart' (Kd.R_apart' (HO126.out) (Kd.N_typed HO_7.out) (by decide)) (Kd.R_typed HO_29.out) (by decide)) BK105.out (by decide)).1 k_ hs_.symm).1.1.1.2) (fun hn_ => (Kd.freshB (g := gb106) (pB BK106.out) k_ hn_))⟩)) (below_size (pL HB.out)))
         replace HO_7 := am (Kd.N_below (by (with_reducible repeat (first | apply Kd.N_alloc | apply Kd.N_drewN | apply Kd.N_drew)); exact HO_7.out) hb)
         replace HO_29 := am (Rb_ HO_29.out hb)
         replace HO126 := am (Rb_ HO126.out hb)
         replace BK105 := am (bb_ BK105.out hb)
         replace BK106 := am (bb_ BK106.out hb)
         replace HB := am (bs_ HB.out hb)
         (try clear hb)
         (try clear hb2)
         (try clear hk)
         (try clear hi)
         (try clear ho0)
         obtain ⟨Ao48, co48, eo48⟩ := Kd.V_slice HO130.out
         (first | subst eo48 | (injection eo48 with f1_ f2_ f3_; have f4_ := f1_.symm; have f5_ := f3_.symm; clear f1_ f2_ f3_; subst f4_; subst f5_))
         refine hK.out _ _ ⟨(blk_cell BK106.out 0).trans rfl, (blk_cell BK106.out 1).trans rfl, (blk_cell BK106.out 2).trans rfl⟩ (fun hHeld => ?_)
         clear hK K
         refine norm_ (a' := ?_) ?_ ?_
         rotate_left
         ·show Act.put _ (some 40) _ = _
          simp only [Act.put, sA, sZ, sS, i64_w, i32_w]
          rfl
         refine one_ (i := 6) (N := some 41) (bl 9 127) rfl rfl (one_of HT_.out (by kernel_rfl)) (by decide) (fun K hK => ?_)
         refine value_ (w1 := ?_) (v := ?_) (by rfl) rfl ?_ ?_
         rotate_left 2
         ·go_simp
          constructor
          ·rfl
          ·rfl
         refine hK.out _ _ ⟨(blk_cell (blk_alloc BK106.out _) 0).trans rfl, (blk_cell (blk_alloc BK106.out _) 1).trans rfl, (blk_cell (blk_alloc BK106.out _) 2).trans rfl⟩ (fun hHeld => ?_)
         clear hK K
         refine norm_ (a' := ?_) ?_ ?_
         rotate_left
         ·show Act.put _ (some 41) _ = _
          simp only [Act.put, sA, sZ, sS, i64_w, i32_w]
          rfl
         refine one_ (i := 7) (N := some 42) (bl 9 255) rfl rfl (one_of HT_.out (by kernel_rfl)) (by decide) (fun K hK => ?_)
         refine Kd.N_append_step k44 (w0 := w) w.heap.size (by rfl) (.tmp 35) (.tmp 41) 24 44 (.agg #[(.string ⟨#[]⟩), (.slice none 0 0)]) 40 rfl Try.underlying24 info44 rfl (by decide) (by omega) u7 x7_1 (⟨t127, t128⟩ : Fact) [.string t127, .slice Ao48 t128.length co48] (fun k_ => (w.heap.size ≤ k_) ∧ some k_ ≠ (.slice (some ad120) t117.length co34 : Value).ownBlock ∧ k_ ≠ gb105 ∧ k_ ≠ gb106) (fun k_ => ((fun k_ => (w.heap.size ≤ k_) ∧ some k_ ≠ (.slice (some ad120) t117.length co34 : Value).ownBlock ∧ k_ ≠ gb105 ∧ k_ ≠ gb106)) k_ ∧ some k_ ≠ (u7 : Value).ownBlock) rfl rfl ?aP (fun _ hk => hk) ?aF ?aO ?aB ?aS ?aL ?_
         (case aP => exact (k44_mkF _ _ (⟨t127, t128⟩ : Fact) (Kd.V_reads' (Kd.V_mono (ok' := (fun k_ => ((fun k_ => (w.heap.size ≤ k_) ∧ some k_ ≠ (.slice (some ad120) t117.length co34 : Value).ownBlock ∧ k_ ≠ gb105 ∧ k_ ≠ gb106)) k_ ∧ some k_ ≠ (u7 : Value).ownBlock)) (HO130.out) (fun k_ hk => ⟨⟨hk.1, ⟨hk.2.2.1, ⟨hk.2.2.2.1, hk.2.2.2.2⟩⟩⟩, hk.2.1⟩))).2.1 (Kd.V_F (Kd.V_mono (ok' := (fun k_ => ((fun k_ => (w.heap.size ≤ k_) ∧ some k_ ≠ (.slice (some ad120) t117.length co34 : Value).ownBlock ∧ k_ ≠ gb105 ∧ k_ ≠ gb106)) k_ ∧ some k_ ≠ (u7 : Value).ownBlock)) (HO130.out) (fun k_ hk => ⟨⟨hk.1, ⟨hk.2.2.1, ⟨hk.2.2.2.1, hk.2.2.2.2⟩⟩⟩, hk.2.1⟩)))))
         (case aB => exact (pL HB.out))
         (case aF => exact (fun k_ hk => ⟨(Nat.le_trans (below_size (pL HB.out)) hk), Kd.fresh' (Kd.R_lt (pR HO_29.out)) k_ hk, Kd.freshB (g := gb105) (pB BK105.out) k_ hk, Kd.freshB (g := gb106) (pB BK106.out) k_ hk⟩))
         (case aO => exact (by (with_reducible repeat (first | apply Kd.N_alloc | apply Kd.N_drewN | apply Kd.N_drew)); exact Kd.N_mono HO_7.out (fun _ hk => ⟨hk.1.1, ⟨hk.1.2.1, ⟨hk.1.2.2.1, hk.1.2.2.2⟩⟩⟩)))
         (case aS => exact (below_size (pL HB.out)))
         (case aL => have := LMc40.out; omega)
         intro v132 w47 ho hb hg hat
         rw [← Ny131.out] at ho
         replace HO_29 := am (Kd.R_over' (pR HO_29.out) (Kd.N_typed (by (with_reducible repeat (first | apply Kd.N_alloc | apply Kd.N_drewN | apply Kd.N_drew)); exact HO_7.out)) (by decide) hg)
         replace BK105 := am (blk_grown (pB BK105.out) hg (Kd.N_ne HO_7.out BK105.out (by decide)))
         replace BK106 := am (blk_grown (pB BK106.out) hg (Kd.N_ne HO_7.out BK106.out (by decide)))
         replace HO126 := am (Kd.R_over' (pR HO126.out) (Kd.N_typed (by (with_reducible repeat (first | apply Kd.N_alloc | apply Kd.N_drewN | apply Kd.N_drew)); exact HO_7.out)) (by decide) hg)
         replace HO130 := am (Kd.V_afterv (ok := (fun k_ => (w.heap.size ≤ k_) ∧ some k_ ≠ (.slice (some ad120) t117.length co34 : Value).ownBlock ∧ k_ ≠ gb105 ∧ k_ ≠ gb106)) (by (with_reducible repeat (first | apply Va | apply Vn | apply Vd)); exact Kd.V_mono HO130.out (fun _ hk => ⟨⟨hk.1, ⟨hk.2.2.1, ⟨hk.2.2.2.1, hk.2.2.2.2⟩⟩⟩, hk.2.1⟩)) hg hat)
         replace HB := am (hb)
         have HO133 := am (ho)
         clear HO_7
         clear ho hb hg hat
         refine hK.out _ _ ⟨(blk_cell BK106.out 0).trans rfl, (blk_cell BK106.out 1).trans rfl, (blk_cell BK106.out 2).trans rfl⟩ (fun hHeld => ?_)
         clear hK K
         refine norm_ (a' := ?_) ?_ ?_
         rotate_left
         ·show Act.put _ (some 42) _ = _
          simp only [Act.put, sA, sZ, sS, i64_w, i32_w]
          rfl
         refine pure_ (i := 8) (N := some 7) (v := ?_) (a' := ?_) (bl 9 511) rfl rfl (any_of HT_.out (by kernel_rfl)) (fun _ _ _ h => h) (Or.inl ⟨by rfl, ?_⟩) ?_ ?_
         rotate_left
         ·intro w'
          go_simp
          with_reducible rfl
         rotate_left
         ·simp only [Act.put, sA, sZ, sS, i64_w, i32_w]
          rfl
         refine done_ (done_of HT_.out (by kernel_rfl)) ?_
         try go_wp2
         go_roundg k1
         case measure => have := HK1.out; omega
         case rel => exact ⟨(y131), (wrap64 (x31_1 + 1)), rs_, H', ⟨by have := HK1.out; omega⟩, ⟨by (with_reducible repeat (first | apply Kd.N_alloc | apply Kd.N_drewN | apply Kd.N_drew)); exact HO133.out⟩, ⟨pR HO_29.out⟩, ⟨pB BK105.out⟩, ⟨pB BK106.out⟩, ⟨pL HB.out⟩⟩
        ·rw [if_neg c40] at H
         exact absurd H (by simp)
       ·rw [if_neg c37] at H
        exact absurd H (by simp)
      ·rw [if_neg c36] at H
       exact absurd H (by simp)
     ·rw [if_neg c35] at H
      have c35b0 : decide (x31_1 < (t117.length : Int)) = false := decide_eq_false c35
      clear c35
      replace H := Option.bind_eq_some_iff.mp H
      obtain ⟨t134, A490, H⟩ := H
      replace H : (facts_one.l1 k1 x7_1 t134 t134 (t134.length : Int) 0 ((rd_T33 l0 a1).kind) ((rd_T33 l0 a1).x) ((rd_T33 l0 a1).y) ((rd_T33 l0 a1).z) ((rd_T33 l0 a1).op) ((rd_T33 l0 a1).n) ((rd_T33 l0 a1).a) ((rd_T33 l0 a1).b) t102 t103 t104) = some r := H
      have A49 := am A490
      clear A490
      have H' := am H
      clear H
      have hnb50 := NB105_106.out
      have hnc50 := NB106_105.out
      obtain ⟨hcz51_0, hcz51_1, hcz51_2, hcz51_3, hcz51_4, hcz51_5, hcz51_6, hcz51_7, hfz51_0, hfz51_1, hfz51_2, hfz51_3, hfz51_4, hfz51_5, hfz51_6, hfz51_7⟩ := bc8 BK105.out
      go_wp2_with (first | ((with_reducible refine gate_callee (f := 14) rfl ?_); refine goesL_ (some 45) rfl rfl Try.func14 (by kernel_rfl) rfl #[.agg #[.int .i64 ((rd_T33 l0 a1).kind), .string ((rd_T33 l0 a1).x), .string ((rd_T33 l0 a1).y), .string ((rd_T33 l0 a1).z), .string ((rd_T33 l0 a1).op), .int .i64 ((rd_T33 l0 a1).n), .int .i64 ((rd_T33 l0 a1).a), .int .i64 ((rd_T33 l0 a1).b)]] rfl (by (try simp only [List.map_toArray, List.map_cons, List.map_nil]); first | done | rfl | (simp only [List.length_drop, List.length_take]; rfl)) ?_; (with_reducible refine (cfg_Uses.calls ((rd_T33 l0 a1).kind) ((rd_T33 l0 a1).x) ((rd_T33 l0 a1).y) ((rd_T33 l0 a1).z) ((rd_T33 l0 a1).op) ((rd_T33 l0 a1).n) ((rd_T33 l0 a1).a) ((rd_T33 l0 a1).b) t134 _ A49.out).mono ?_); rintro e w52 ⟨v135, rfl, ho0, hb⟩; refine ⟨_, rfl, ?_⟩; replace HO_7 := am (Kd.N_elder' (by (with_reducible repeat (first | apply Kd.N_alloc | apply Kd.N_drewN | apply Kd.N_drew)); exact HO_7.out) (Kd.R_base ho0) hb); replace HO_29 := am (Rb_ HO_29.out hb); have HO136 := am (Kd.R_lower (Kd.R_newM (M := fun k_ => (w.heap.size ≤ k_)) ho0 (below_size (pL HB.out)) (fun k_ h_ => h_)) (below_size (pL HB.out))); replace BK105 := am (bb_ BK105.out hb); replace BK106 := am (bb_ BK106.out hb); replace HB := am (bs_ HB.out hb); (try clear hb); (try clear hb2); (try clear hk); (try clear hi); (try clear ho0); obtain ⟨Ao53, co53, eo53⟩ := Kd.R_slice HO136.out; subst eo53))
      go_loopg [7, 48] k1 (fun kq v7 v48 w' => ∃ (x7_2 : List (Fact)) (x48_2 : Int), v48 = .int .i64 x48_2 ∧ Aside0 (facts_one.l1 kq x7_2 t134 t134 (t134.length : Int) x48_2 ((rd_T33 l0 a1).kind) ((rd_T33 l0 a1).x) ((rd_T33 l0 a1).y) ((rd_T33 l0 a1).z) ((rd_T33 l0 a1).op) ((rd_T33 l0 a1).n) ((rd_T33 l0 a1).a) ((rd_T33 l0 a1).b) t102 t103 t104 = some r) ∧ Aside0 (kq ≤ k1) ∧ Aside0 (Kd.N k44 44 w' w.heap.size (fun k_ => (w.heap.size ≤ k_) ∧ some k_ ≠ ((.slice Ao53 t134.length co53) : Value).ownBlock ∧ some k_ ≠ ((.slice Ao53 t134.length co53) : Value).ownBlock ∧ k_ ≠ gb105 ∧ k_ ≠ gb106) v7 x7_2) ∧ Aside0 (Kd.R Kd.string 9 w' w.heap.size (fun k_ => (w.heap.size ≤ k_)) (.slice Ao53 t134.length co53) t134) ∧ Aside0 (Kd.R Kd.string 9 w' w.heap.size (fun k_ => (w.heap.size ≤ k_)) (.slice Ao53 t134.length co53) t134) ∧ Aside0 (w'.heap[gb105]? = some (.cells #[.int .i64 ((rd_T33 l0 a1).kind), .string ((rd_T33 l0 a1).x), .string ((rd_T33 l0 a1).y), .string ((rd_T33 l0 a1).z), .string ((rd_T33 l0 a1).op), .int .i64 ((rd_T33 l0 a1).n), .int .i64 ((rd_T33 l0 a1).a), .int .i64 ((rd_T33 l0 a1).b)] 33 (0, 0))) ∧ Aside0 (w'.heap[gb106]? = some (.cells #[.bool t102, .string t103, .int .i64 t104] 28 (0, 0))) ∧ Aside0 (Below w.heap.size w w'))
      case atStart => exact ⟨(x7_1), (0), rs_, H', ⟨Nat.le_refl _⟩, ⟨by (with_reducible repeat (first | apply Kd.N_alloc | apply Kd.N_drewN | apply Kd.N_drew)); exact Kd.N_mono HO_7.out (fun _ hk => ⟨hk.1.1, ⟨hk.2, ⟨hk.2, ⟨hk.1.2.2.1, hk.1.2.2.2⟩⟩⟩⟩)⟩, ⟨by (with_reducible repeat (first | apply Ra | apply Rn | apply Rd)); exact Kd.R_mono HO136.out (fun _ hk => hk.1)⟩, ⟨by (with_reducible repeat (first | apply Ra | apply Rn | apply Rd)); exact Kd.R_mono HO136.out (fun _ hk => hk.1)⟩, ⟨pB BK105.out⟩, ⟨pB BK106.out⟩, ⟨pL HB.out⟩⟩
      case round =>
       clear H'
       try clear c1
       try clear p1
       try clear q1
       try clear hx1
       try clear c2
       try clear p2
       try clear c3
       try clear c4
       try clear c5
       try clear p6
       try clear p10
       try clear q10
       try clear hx10
       try clear c11
       try clear p12
       try clear q12
       try clear hx12
       try clear c14
       try clear c20
       try clear c24
       try clear c31
       try clear c35
       try clear c35b0
       try clear c36
       try clear c36b0
       try clear c37
       try clear c37b0
       try clear c40
       try clear c50
       try clear hcz25_0
       try clear hcz25_1
       try clear hcz25_2
       try clear hcz51_0
       try clear hcz51_1
       try clear hcz51_2
       try clear hcz51_3
       try clear hcz51_4
       try clear hcz51_5
       try clear hcz51_6
       try clear hcz51_7
       try clear hfz25_0
       try clear hfz25_1
       try clear hfz25_2
       try clear hfz51_0
       try clear hfz51_1
       try clear hfz51_2
       try clear hfz51_3
       try clear hfz51_4
       try clear hfz51_5
       try clear hfz51_6
       try clear hfz51_7
       try clear hx101_0
       try clear hx101_1
       try clear hx101_2
       try clear hx101_3
       try clear hx101_4
       try clear hx101_5
       try clear hx101_6
       try clear hx101_7
       try clear hx120_0
       try clear p1
       try clear p10
       try clear p101
       try clear p120
       try clear p2
       try clear q1
       try clear q10
       try clear q101
       try clear q120
       obtain ⟨x7_2, x48_2, rfl, HA, HK2, HO_7, HO_10, HO_46, BK105, BK106, HB⟩ := hrel
       cases gk with
       | zero => exact absurd HA.out (by simp [facts_one.l1])
       | succ k2 =>
        have H := HA.out
        clear HA
        simp only [facts_one.l1] at H
        by_cases c54 : x48_2 < (t134.length : Int)
        ·rw [if_pos c54] at H
         have c54b0 : decide (x48_2 < (t134.length : Int)) = true := decide_eq_true c54
         clear c54
         by_cases c55 : 0 ≤ x48_2
         ·rw [if_pos c55] at H
          have c55b0 : decide (0 ≤ x48_2) = true := decide_eq_true c55
          clear c55
          by_cases c56 : x48_2 < (t134.length : Int)
          ·rw [if_pos c56] at H
           have c56b0 : decide (x48_2 < (t134.length : Int)) = true := decide_eq_true c56
           clear c56
           replace H := Option.bind_eq_some_iff.mp H
           obtain ⟨⟨t138, t139, t140⟩, A570, H⟩ := H
           replace H : ((facts_fact.f (⟨#[117, 115, 101]⟩ : ByteArray) (([(⟨t102, t103, t104⟩ : Val), (⟨t138, t139, t140⟩ : Val)] : List (Val)))).bind fun bt144 => (if x7_2.length < 3518437208883 then ((some (x7_2 ++ [(⟨bt144.1, bt144.2⟩ : Fact)] : List (Fact))).bind fun y148 => (if ((rd_T33 l0 a1).kind) = 6 then ((value_Sym.f (rdOf ByteArray.empty t134 x48_2)).bind fun bt151 => ((facts_fact.f (⟨#[115, 105, 110, 107]⟩ : ByteArray) (([(⟨t102, t103, t104⟩ : Val), (⟨bt151.1, bt151.2.1, bt151.2.2⟩ : Val)] : List (Val)))).bind fun bt157 => (if y148.length < 3518437208883 then (facts_one.l1 k2 (y148 ++ [(⟨bt157.1, bt157.2⟩ : Fact)]) t134 t134 (t134.length : Int) (wrap64 (x48_2 + 1)) ((rd_T33 l0 a1).kind) ((rd_T33 l0 a1).x) ((rd_T33 l0 a1).y) ((rd_T33 l0 a1).z) ((rd_T33 l0 a1).op) ((rd_T33 l0 a1).n) ((rd_T33 l0 a1).a) ((rd_T33 l0 a1).b) t102 t103 t104) else (none)))) else (facts_one.l1 k2 y148 t134 t134 (t134.length : Int) (wrap64 (x48_2 + 1)) ((rd_T33 l0 a1).kind) ((rd_T33 l0 a1).x) ((rd_T33 l0 a1).y) ((rd_T33 l0 a1).z) ((rd_T33 l0 a1).op) ((rd_T33 l0 a1).n) ((rd_T33 l0 a1).a) ((rd_T33 l0 a1).b) t102 t103 t104))) else (none))) = some r := H
           have A57 := am A570
           clear A570
           obtain ⟨y141, hy141⟩ : ∃ y_ : List (Val), y_ = (([(⟨t102, t103, t104⟩ : Val), (⟨t138, t139, t140⟩ : Val)] : List (Val))) := ⟨_, rfl⟩
           replace H : ((facts_fact.f (⟨#[117, 115, 101]⟩ : ByteArray) y141).bind fun bt144 => (if x7_2.length < 3518437208883 then ((some (x7_2 ++ [(⟨bt144.1, bt144.2⟩ : Fact)] : List (Fact))).bind fun y148 => (if ((rd_T33 l0 a1).kind) = 6 then ((value_Sym.f (rdOf ByteArray.empty t134 x48_2)).bind fun bt151 => ((facts_fact.f (⟨#[115, 105, 110, 107]⟩ : ByteArray) (([(⟨t102, t103, t104⟩ : Val), (⟨bt151.1, bt151.2.1, bt151.2.2⟩ : Val)] : List (Val)))).bind fun bt157 => (if y148.length < 3518437208883 then (facts_one.l1 k2 (y148 ++ [(⟨bt157.1, bt157.2⟩ : Fact)]) t134 t134 (t134.length : Int) (wrap64 (x48_2 + 1)) ((rd_T33 l0 a1).kind) ((rd_T33 l0 a1).x) ((rd_T33 l0 a1).y) ((rd_T33 l0 a1).z) ((rd_T33 l0 a1).op) ((rd_T33 l0 a1).n) ((rd_T33 l0 a1).a) ((rd_T33 l0 a1).b) t102 t103 t104) else (none)))) else (facts_one.l1 k2 y148 t134 t134 (t134.length : Int) (wrap64 (x48_2 + 1)) ((rd_T33 l0 a1).kind) ((rd_T33 l0 a1).x) ((rd_T33 l0 a1).y) ((rd_T33 l0 a1).z) ((rd_T33 l0 a1).op) ((rd_T33 l0 a1).n) ((rd_T33 l0 a1).a) ((rd_T33 l0 a1).b) t102 t103 t104))) else (none))) = some r := by first | (rw [hy141]; with_reducible exact H) | (have H2_ := (Option.bind_some _ _).symm.trans H; rw [hy141]; with_reducible exact H2_) | (have H2_ := (Option.bind_some _ _).symm.trans H; with_reducible exact H2_) | with_reducible exact H | (rw [hy141]; exact H) | exact H
           have Ny141 := am hy141
           clear hy141
           replace H := Option.bind_eq_some_iff.mp H
           obtain ⟨⟨t144, t145⟩, A580, H⟩ := H
           replace H : (if x7_2.length < 3518437208883 then ((some (x7_2 ++ [(⟨t144, t145⟩ : Fact)] : List (Fact))).bind fun y148 => (if ((rd_T33 l0 a1).kind) = 6 then ((value_Sym.f (rdOf ByteArray.empty t134 x48_2)).bind fun bt151 => ((facts_fact.f (⟨#[115, 105, 110, 107]⟩ : ByteArray) (([(⟨t102, t103, t104⟩ : Val), (⟨bt151.1, bt151.2.1, bt151.2.2⟩ : Val)] : List (Val)))).bind fun bt157 => (if y148.length < 3518437208883 then (facts_one.l1 k2 (y148 ++ [(⟨bt157.1, bt157.2⟩ : Fact)]) t134 t134 (t134.length : Int) (wrap64 (x48_2 + 1)) ((rd_T33 l0 a1).kind) ((rd_T33 l0 a1).x) ((rd_T33 l0 a1).y) ((rd_T33 l0 a1).z) ((rd_T33 l0 a1).op) ((rd_T33 l0 a1).n) ((rd_T33 l0 a1).a) ((rd_T33 l0 a1).b) t102 t103 t104) else (none)))) else (facts_one.l1 k2 y148 t134 t134 (t134.length : Int) (wrap64 (x48_2 + 1)) ((rd_T33 l0 a1).kind) ((rd_T33 l0 a1).x) ((rd_T33 l0 a1).y) ((rd_T33 l0 a1).z) ((rd_T33 l0 a1).op) ((rd_T33 l0 a1).n) ((rd_T33 l0 a1).a) ((rd_T33 l0 a1).b) t102 t103 t104))) else (none)) = some r := H
           have A58 := am A580
           clear A580
           by_cases c59 : x7_2.length < 3518437208883
           ·rw [if_pos c59] at H
            have LMc59 := am c59
            clear c59
            obtain ⟨y148, hy148⟩ : ∃ y_ : List (Fact), y_ = (x7_2 ++ [(⟨t144, t145⟩ : Fact)]) := ⟨_, rfl⟩
            replace H : (if ((rd_T33 l0 a1).kind) = 6 then ((value_Sym.f (rdOf ByteArray.empty t134 x48_2)).bind fun bt151 => ((facts_fact.f (⟨#[115, 105, 110, 107]⟩ : ByteArray) (([(⟨t102, t103, t104⟩ : Val), (⟨bt151.1, bt151.2.1, bt151.2.2⟩ : Val)] : List (Val)))).bind fun bt157 => (if y148.length < 3518437208883 then (facts_one.l1 k2 (y148 ++ [(⟨bt157.1, bt157.2⟩ : Fact)]) t134 t134 (t134.length : Int) (wrap64 (x48_2 + 1)) ((rd_T33 l0 a1).kind) ((rd_T33 l0 a1).x) ((rd_T33 l0 a1).y) ((rd_T33 l0 a1).z) ((rd_T33 l0 a1).op) ((rd_T33 l0 a1).n) ((rd_T33 l0 a1).a) ((rd_T33 l0 a1).b) t102 t103 t104) else (none)))) else (facts_one.l1 k2 y148 t134 t134 (t134.length : Int) (wrap64 (x48_2 + 1)) ((rd_T33 l0 a1).kind) ((rd_T33 l0 a1).x) ((rd_T33 l0 a1).y) ((rd_T33 l0 a1).z) ((rd_T33 l0 a1).op) ((rd_T33 l0 a1).n) ((rd_T33 l0 a1).a) ((rd_T33 l0 a1).b) t102 t103 t104)) = some r := by first | (rw [hy148]; with_reducible exact H) | (have H2_ := (Option.bind_some _ _).symm.trans H; rw [hy148]; with_reducible exact H2_) | (have H2_ := (Option.bind_some _ _).symm.trans H; with_reducible exact H2_) | with_reducible exact H | (rw [hy148]; exact H) | exact H
            have Ny148 := am hy148
            clear hy148
            by_cases c60 : ((rd_T33 l0 a1).kind) = 6
            ·rw [if_pos c60] at H
             have c60b0 : (((rd_T33 l0 a1).kind) == 6) = true := beq_iff_eq.mpr c60
             have c60b1 : (((rd_T33 l0 a1).kind) != 6) = false := bne_eq_false_iff_eq.mpr c60
             clear c60
             replace H := Option.bind_eq_some_iff.mp H
             obtain ⟨⟨t151, t152, t153⟩, A610, H⟩ := H
             replace H : ((facts_fact.f (⟨#[115, 105, 110, 107]⟩ : ByteArray) (([(⟨t102, t103, t104⟩ : Val), (⟨t151, t152, t153⟩ : Val)] : List (Val)))).bind fun bt157 => (if y148.length < 3518437208883 then (facts_one.l1 k2 (y148 ++ [(⟨bt157.1, bt157.2⟩ : Fact)]) t134 t134 (t134.length : Int) (wrap64 (x48_2 + 1)) ((rd_T33 l0 a1).kind) ((rd_T33 l0 a1).x) ((rd_T33 l0 a1).y) ((rd_T33 l0 a1).z) ((rd_T33 l0 a1).op) ((rd_T33 l0 a1).n) ((rd_T33 l0 a1).a) ((rd_T33 l0 a1).b) t102 t103 t104) else (none))) = some r := H
             have A61 := am A610
             clear A610
             obtain ⟨y154, hy154⟩ : ∃ y_ : List (Val), y_ = (([(⟨t102, t103, t104⟩ : Val), (⟨t151, t152, t153⟩ : Val)] : List (Val))) := ⟨_, rfl⟩
             replace H : ((facts_fact.f (⟨#[115, 105, 110, 107]⟩ : ByteArray) y154).bind fun bt157 => (if y148.length < 3518437208883 then (facts_one.l1 k2 (y148 ++ [(⟨bt157.1, bt157.2⟩ : Fact)]) t134 t134 (t134.length : Int) (wrap64 (x48_2 + 1)) ((rd_T33 l0 a1).kind) ((rd_T33 l0 a1).x) ((rd_T33 l0 a1).y) ((rd_T33 l0 a1).z) ((rd_T33 l0 a1).op) ((rd_T33 l0 a1).n) ((rd_T33 l0 a1).a) ((rd_T33 l0 a1).b) t102 t103 t104) else (none))) = some r := by first | (rw [hy154]; with_reducible exact H) | (have H2_ := (Option.bind_some _ _).symm.trans H; rw [hy154]; with_reducible exact H2_) | (have H2_ := (Option.bind_some _ _).symm.trans H; with_reducible exact H2_) | with_reducible exact H | (rw [hy154]; exact H) | exact H
             have Ny154 := am hy154
             clear hy154
             replace H := Option.bind_eq_some_iff.mp H
             obtain ⟨⟨t157, t158⟩, A620, H⟩ := H
             replace H : (if y148.length < 3518437208883 then (facts_one.l1 k2 (y148 ++ [(⟨t157, t158⟩ : Fact)]) t134 t134 (t134.length : Int) (wrap64 (x48_2 + 1)) ((rd_T33 l0 a1).kind) ((rd_T33 l0 a1).x) ((rd_T33 l0 a1).y) ((rd_T33 l0 a1).z) ((rd_T33 l0 a1).op) ((rd_T33 l0 a1).n) ((rd_T33 l0 a1).a) ((rd_T33 l0 a1).b) t102 t103 t104) else (none)) = some r := H
             have A62 := am A620
             clear A620
             by_cases c63 : y148.length < 3518437208883
             ·rw [if_pos c63] at H
              have LMc63 := am c63
              clear c63
              obtain ⟨y161, hy161⟩ : ∃ y_ : List (Fact), y_ = (y148 ++ [(⟨t157, t158⟩ : Fact)]) := ⟨_, rfl⟩
              replace H : (facts_one.l1 k2 y161 t134 t134 (t134.length : Int) (wrap64 (x48_2 + 1)) ((rd_T33 l0 a1).kind) ((rd_T33 l0 a1).x) ((rd_T33 l0 a1).y) ((rd_T33 l0 a1).z) ((rd_T33 l0 a1).op) ((rd_T33 l0 a1).n) ((rd_T33 l0 a1).a) ((rd_T33 l0 a1).b) t102 t103 t104) = some r := by first | (rw [hy161]; with_reducible exact H) | (have H2_ := (Option.bind_some _ _).symm.trans H; rw [hy161]; with_reducible exact H2_) | (have H2_ := (Option.bind_some _ _).symm.trans H; with_reducible exact H2_) | with_reducible exact H | (rw [hy161]; exact H) | exact H
              have Ny161 := am hy161
              clear hy161
              have H' := am H
              clear H
              have p137 : 0 ≤ (x48_2 : Int) := dt_
              have q137 : x48_2 < (t134.length : Int) := dt_
              obtain ⟨ad137, e137, hx137_0⟩ := Kd.at_string (Kd.R_reads' HO_46.out).2.2 x48_2 p137 q137
              cases e137
              replace p137 := eq_true p137
              replace q137 := eq_true q137
              try go_wp2
              replace HO_7 := am (Kd.N_drew HO_7.out)
              replace HO_10 := am (Kd.R_drew HO_10.out)
              replace HO_46 := am (Kd.R_drew HO_46.out)
              replace BK105 := am (blk_drew BK105.out)
              replace BK106 := am (blk_drew BK106.out)
              replace HB := am (below_drew1 HB.out)
              refine start_ (n := 9) (S := fun w' => w'.cell? ⟨gb106, 0, none⟩ = some (.bool t102) ∧ w'.cell? ⟨gb106, 1, none⟩ = some (.string t103) ∧ w'.cell? ⟨gb106, 2, none⟩ = some (.int .i64 t104)) (ds := []) (bl 9 0) (by kernel_rfl) rfl rfl ⟨(blk_cell BK106.out 0).trans rfl, (blk_cell BK106.out 1).trans rfl, (blk_cell BK106.out 2).trans rfl⟩ (fun hHeld => ?_); refine with_tabW facts_one.tab12 facts_one.bits12 (fun HT_ HW_ => ?_)
              generalize wr.drew = w64 at HO_7 HO_10 HO_46 BK105 BK106 HB hHeld ⊢
              refine pure_ (i := 0) (N := some 52) (v := ?_) (a' := ?_) (bl 9 1) rfl rfl (any_of HT_.out (by kernel_rfl)) (fun _ _ _ h => h) (Or.inl ⟨by rfl, ?_⟩) ?_ ?_
              rotate_left
              ·intro w'
               go_simp
               with_reducible rfl
              rotate_left
              ·simp only [Act.put, sA, sZ, sS, i64_w, i32_w]
               rfl
              refine pure_ (i := 2) (N := some 54) (v := ?_) (a' := ?_) (bl 9 5) rfl rfl (any_of HT_.out (by kernel_rfl)) (fun _ _ _ h => h) (Or.inl ⟨by rfl, ?_⟩) ?_ ?_
              rotate_left
              ·intro w'
               go_simp
               with_reducible rfl
              rotate_left
              ·simp only [Act.put, sA, sZ, sS, i64_w, i32_w]
               rfl
              refine take_ (i := 1) (N := some 53) (v := ?_) (a' := ?_) (bl 9 7) rfl rfl (take_ofW HT_.out HW_.out (by kernel_rfl)) (fun _ _ _ h => h) (Or.inl ⟨by rfl, ?_⟩) hHeld ?_ ?_
              rotate_left
              ·rintro w' ⟨s0, s1, s2⟩
               go_simp
               with_reducible rfl
              rotate_left
              ·simp only [Act.put, sA, sZ, sS, i64_w, i32_w]
               rfl
              refine one_ (i := 3) (N := some 55) (bl 9 15) rfl rfl (one_of HT_.out (by kernel_rfl)) (by decide) (fun K hK => ?_)
              refine goes_ Try.func32 (by kernel_rfl) rfl #[.string (rdOf ByteArray.empty t134 x48_2)] (by rfl) rfl rfl (by (try simp only [List.map_toArray, List.map_cons, List.map_nil]); first | done | rfl | (simp only [List.length_drop, List.length_take]; rfl)) ?_
              with_reducible refine (value_Sym.calls (rdOf ByteArray.empty t134 x48_2) t138 t139 t140 _ A57.out).mono ?_
              rintro e w65 ⟨rfl, hb⟩
              refine ⟨_, rfl, ?_⟩
              replace HO_7 := am (Kd.N_below (by (with_reducible repeat (first | apply Kd.N_alloc | apply Kd.N_drewN | apply Kd.N_drew)); exact HO_7.out) hb)
              replace HO_10 := am (Rb_ HO_10.out hb)
              replace HO_46 := am (Rb_ HO_46.out hb)
              replace BK105 := am (bb_ BK105.out hb)
              replace BK106 := am (bb_ BK106.out hb)
              replace HB := am (bs_ HB.out hb)
              (try clear hb)
              (try clear hb2)
              (try clear hk)
              (try clear hi)
              refine hK.out _ _ ⟨(blk_cell BK106.out 0).trans rfl, (blk_cell BK106.out 1).trans rfl, (blk_cell BK106.out 2).trans rfl⟩ (fun hHeld => ?_)
              clear hK K
              refine norm_ (a' := ?_) ?_ ?_
              rotate_left
              ·show Act.put _ (some 55) _ = _
               simp only [Act.put, sA, sZ, sS, i64_w, i32_w]
               rfl
              refine one_ (i := 4) (N := some 56) (bl 9 31) rfl rfl (one_of HT_.out (by kernel_rfl)) (by decide) (fun K hK => ?_)
              refine Kd.R_lit_step k28 _ 28 ?hg (N := 56) ?hd (xs := ([(⟨t102, t103, t104⟩ : Val), (⟨t138, t139, t140⟩ : Val)] : List (Val))) (inner := [.bool t102, .string t103, .int .i64 t104, .bool t138, .string t139, .int .i64 t140]) (ok := fun _ => True) (okp := fun _ => True) ?hr ?hp (fun _ hk => hk) trivial (Below.refl _ _) (Nat.le_refl _) (by simp) ?_; (case hd => rfl); (case hg => rfl); (case hr => first | (go_simp; done) | (go_simp; rfl)); (case hp => exact (Reps.c3 (show Kd.M k28 _ _ _ (⟨t102, t103, t104⟩ : Val) [.bool t102, .string t103, .int .i64 t104] from (k28_mkM _ _ _ (⟨t102, t103, t104⟩ : Val) )) (Reps.c3 (show Kd.M k28 _ _ _ (⟨t138, t139, t140⟩ : Val) [.bool t138, .string t139, .int .i64 t140] from (k28_mkM _ _ _ (⟨t138, t139, t140⟩ : Val) )) (Reps.none _ _))))
              intro v142 w66 ho67 hb hg_ hnew_
              clear hg_ hnew_
              (first | rw [← Ny141.out] at ho67 | (simp only [Int.reduceToNat] at ho67; rw [← Ny141.out] at ho67))
              replace HO_7 := am (Kd.N_elder' (by (with_reducible repeat (first | apply Kd.N_alloc | apply Kd.N_drewN | apply Kd.N_drew)); exact HO_7.out) (Kd.R_base ho67) hb)
              replace HO_10 := am (Rb_ HO_10.out hb)
              replace HO_46 := am (Rb_ HO_46.out hb)
              have HO143 := am (Kd.R_lower (Kd.R_newB (Kd.R_newM (M := fun k_ => (w.heap.size ≤ k_)) ho67 (below_size (pL HB.out)) (fun k_ h_ => h_)) (g := gb106) (o := .cells #[.bool t102, .string t103, .int .i64 t104] 28 (0, 0)) (pB BK106.out)) (below_size (pL HB.out)))
              replace BK105 := am (bb_ BK105.out hb)
              replace BK106 := am (bb_ BK106.out hb)
              replace HB := am (bs_ HB.out hb)
              clear hb ho67
              obtain ⟨Ao68, co68, eo68⟩ := Kd.R_slice HO143.out
              (first | subst eo68 | (injection eo68 with f1_ f2_ f3_; have f4_ := f1_.symm; have f5_ := f3_.symm; clear f1_ f2_ f3_; subst f4_; subst f5_))
              refine hK.out _ _ ⟨(blk_cell BK106.out 0).trans rfl, (blk_cell BK106.out 1).trans rfl, (blk_cell BK106.out 2).trans rfl⟩ (fun hHeld => ?_)
              clear hK K
              refine norm_ (a' := ?_) ?_ ?_
              rotate_left
              ·show Act.put _ (some 56) _ = _
               simp only [Act.put, sA, sZ, sS, i64_w, i32_w]
               rfl
              refine one_ (i := 5) (N := some 57) (bl 9 63) rfl rfl (one_of HT_.out (by kernel_rfl)) (by decide) (fun K hK => ?_)
              refine goes_ Try.func20 (by kernel_rfl) rfl #[.string (⟨#[117, 115, 101]⟩ : ByteArray), .slice Ao68 y141.length co68] (by rfl) rfl rfl (by (try simp only [List.map_toArray, List.map_cons, List.map_nil]); first | done | rfl | (simp only [List.length_drop, List.length_take]; rfl)) ?_
              with_reducible refine (facts_fact.calls (⟨#[117, 115, 101]⟩ : ByteArray) (fun k_ => some k_ = (.slice Ao68 y141.length co68 : Value).ownBlock) _ _ y141 t144 t145 _ ?side1 A58.out).mono ?_
              (case side1 => exact Kd.R_V (Kd.R_tight rfl (Kd.R_types (Kd.R_apart' (Kd.R_apart' (Kd.R_apart' (HO143.out) (Kd.N_typed HO_7.out) (by decide)) (Kd.R_typed HO_10.out) (by decide)) (Kd.R_typed HO_46.out) (by decide)) BK105.out (by decide))))
              rintro e w69 ⟨v146, rfl, ho0, hb⟩
              refine ⟨_, rfl, ?_⟩
              have HO147 := am (Kd.V_lower (Kd.V_mono (ok' := fun k_ => (w.heap.size ≤ k_) ∧ some k_ ≠ (u7 : Value).ownBlock ∧ some k_ ≠ (.slice (some ad137) t134.length co53 : Value).ownBlock ∧ some k_ ≠ (.slice (some ad137) t134.length co53 : Value).ownBlock ∧ k_ ≠ gb105 ∧ k_ ≠ gb106) ho0 (fun k_ hk_ => ⟨Or.elim hk_ (fun hs_ => ((Kd.R_types (Kd.R_apart' (Kd.R_apart' (Kd.R_apart' (HO143.out) (Kd.N_typed HO_7.out) (by decide)) (Kd.R_typed HO_10.out) (by decide)) (Kd.R_typed HO_46.out) (by decide)) BK105.out (by decide)).1 k_ hs_.symm).1.1.1.1.1.1) (fun hn_ => (Nat.le_trans (below_size (pL HB.out)) hn_)), Or.elim hk_ (fun hs_ => ((Kd.R_types (Kd.R_apart' (Kd.R_apart' (Kd.R_apart' (HO143.out) (Kd.N_typed HO_7.out) (by decide)) (Kd.R_typed HO_10.out) (by decide)) (Kd.R_typed HO_46.out) (by decide)) BK105.out (by decide)).1 k_ hs_.symm).1.1.1.2) (fun hn_ => (Kd.fresh' (Kd.N_lt (by (with_reducible repeat (first | apply Kd.N_alloc | apply Kd.N_drewN | apply Kd.N_drew)); exact HO_7.out)) k_ hn_)), Or.elim hk_ (fun hs_ => ((Kd.R_types (Kd.R_apart' (Kd.R_apart' (Kd.R_apart' (HO143.out) (Kd.N_typed HO_7.out) (by decide)) (Kd.R_typed HO_10.out) (by decide)) (Kd.R_typed HO_46.out) (by decide)) BK105.out (by decide)).1 k_ hs_.symm).1.1.2) (fun hn_ => (Kd.fresh' (Kd.R_lt (pR HO_10.out)) k_ hn_)), Or.elim hk_ (fun hs_ => ((Kd.R_types (Kd.R_apart' (Kd.R_apart' (Kd.R_apart' (HO143.out) (Kd.N_typed HO_7.out) (by decide)) (Kd.R_typed HO_10.out) (by decide)) (Kd.R_typed HO_46.out) (by decide)) BK105.out (by decide)).1 k_ hs_.symm).1.2) (fun hn_ => (Kd.fresh' (Kd.R_lt (pR HO_46.out)) k_ hn_)), Or.elim hk_ (fun hs_ => ((Kd.R_types (Kd.R_apart' (Kd.R_apart' (Kd.R_apart' (HO143.out) (Kd.N_typed HO_7.out) (by decide)) (Kd.R_typed HO_10.out) (by decide)) (Kd.R_typed HO_46.out) (by decide)) BK105.out (by decide)).1 k_ hs_.symm).2) (fun hn_ => (Kd.freshB (g := gb105) (pB BK105.out) k_ hn_)), Or.elim hk_ (fun hs_ => ((Kd.R_types (Kd.R_apart' (Kd.R_apart' (Kd.R_apart' (HO143.out) (Kd.N_typed HO_7.out) (by decide)) (Kd.R_typed HO_10.out) (by decide)) (Kd.R_typed HO_46.out) (by decide)) BK105.out (by decide)).1 k_ hs_.symm).1.1.1.1.2) (fun hn_ => (Kd.freshB (g := gb106) (pB BK106.out) k_ hn_))⟩)) (below_size (pL HB.out)))
              replace HO_7 := am (Kd.N_below (by (with_reducible repeat (first | apply Kd.N_alloc | apply Kd.N_drewN | apply Kd.N_drew)); exact HO_7.out) hb)
              replace HO_10 := am (Rb_ HO_10.out hb)
              replace HO_46 := am (Rb_ HO_46.out hb)
              replace HO143 := am (Rb_ HO143.out hb)
              replace BK105 := am (bb_ BK105.out hb)
              replace BK106 := am (bb_ BK106.out hb)
              replace HB := am (bs_ HB.out hb)
              (try clear hb)
              (try clear hb2)
              (try clear hk)
              (try clear hi)
              (try clear ho0)
              obtain ⟨Ao71, co71, eo71⟩ := Kd.V_slice HO147.out
              (first | subst eo71 | (injection eo71 with f1_ f2_ f3_; have f4_ := f1_.symm; have f5_ := f3_.symm; clear f1_ f2_ f3_; subst f4_; subst f5_))
              refine hK.out _ _ ⟨(blk_cell BK106.out 0).trans rfl, (blk_cell BK106.out 1).trans rfl, (blk_cell BK106.out 2).trans rfl⟩ (fun hHeld => ?_)
              clear hK K
              refine norm_ (a' := ?_) ?_ ?_
              rotate_left
              ·show Act.put _ (some 57) _ = _
               simp only [Act.put, sA, sZ, sS, i64_w, i32_w]
               rfl
              refine one_ (i := 6) (N := some 58) (bl 9 127) rfl rfl (one_of HT_.out (by kernel_rfl)) (by decide) (fun K hK => ?_)
              refine value_ (w1 := ?_) (v := ?_) (by rfl) rfl ?_ ?_
              rotate_left 2
              ·go_simp
               constructor
               ·rfl
               ·rfl
              refine hK.out _ _ ⟨(blk_cell (blk_alloc BK106.out _) 0).trans rfl, (blk_cell (blk_alloc BK106.out _) 1).trans rfl, (blk_cell (blk_alloc BK106.out _) 2).trans rfl⟩ (fun hHeld => ?_)
              clear hK K
              refine norm_ (a' := ?_) ?_ ?_
              rotate_left
              ·show Act.put _ (some 58) _ = _
               simp only [Act.put, sA, sZ, sS, i64_w, i32_w]
               rfl
              refine one_ (i := 7) (N := some 59) (bl 9 255) rfl rfl (one_of HT_.out (by kernel_rfl)) (by decide) (fun K hK => ?_)
              refine Kd.N_append_step k44 (w0 := w) w.heap.size (by rfl) (.tmp 52) (.tmp 58) 24 44 (.agg #[(.string ⟨#[]⟩), (.slice none 0 0)]) 40 rfl Try.underlying24 info44 rfl (by decide) (by omega) u7 x7_2 (⟨t144, t145⟩ : Fact) [.string t144, .slice Ao71 t145.length co71] (fun k_ => (w.heap.size ≤ k_) ∧ some k_ ≠ (.slice (some ad137) t134.length co53 : Value).ownBlock ∧ some k_ ≠ (.slice (some ad137) t134.length co53 : Value).ownBlock ∧ k_ ≠ gb105 ∧ k_ ≠ gb106) (fun k_ => ((fun k_ => (w.heap.size ≤ k_) ∧ some k_ ≠ (.slice (some ad137) t134.length co53 : Value).ownBlock ∧ some k_ ≠ (.slice (some ad137) t134.length co53 : Value).ownBlock ∧ k_ ≠ gb105 ∧ k_ ≠ gb106)) k_ ∧ some k_ ≠ (u7 : Value).ownBlock) rfl rfl ?aP (fun _ hk => hk) ?aF ?aO ?aB ?aS ?aL ?_
              (case aP => exact (k44_mkF _ _ (⟨t144, t145⟩ : Fact) (Kd.V_reads' (Kd.V_mono (ok' := (fun k_ => ((fun k_ => (w.heap.size ≤ k_) ∧ some k_ ≠ (.slice (some ad137) t134.length co53 : Value).ownBlock ∧ some k_ ≠ (.slice (some ad137) t134.length co53 : Value).ownBlock ∧ k_ ≠ gb105 ∧ k_ ≠ gb106)) k_ ∧ some k_ ≠ (u7 : Value).ownBlock)) (HO147.out) (fun k_ hk => ⟨⟨hk.1, ⟨hk.2.2.1, ⟨hk.2.2.2.1, ⟨hk.2.2.2.2.1, hk.2.2.2.2.2⟩⟩⟩⟩, hk.2.1⟩))).2.1 (Kd.V_F (Kd.V_mono (ok' := (fun k_ => ((fun k_ => (w.heap.size ≤ k_) ∧ some k_ ≠ (.slice (some ad137) t134.length co53 : Value).ownBlock ∧ some k_ ≠ (.slice (some ad137) t134.length co53 : Value).ownBlock ∧ k_ ≠ gb105 ∧ k_ ≠ gb106)) k_ ∧ some k_ ≠ (u7 : Value).ownBlock)) (HO147.out) (fun k_ hk => ⟨⟨hk.1, ⟨hk.2.2.1, ⟨hk.2.2.2.1, ⟨hk.2.2.2.2.1, hk.2.2.2.2.2⟩⟩⟩⟩, hk.2.1⟩)))))
              (case aB => exact (pL HB.out))
              (case aF => exact (fun k_ hk => ⟨(Nat.le_trans (below_size (pL HB.out)) hk), Kd.fresh' (Kd.R_lt (pR HO_10.out)) k_ hk, Kd.fresh' (Kd.R_lt (pR HO_46.out)) k_ hk, Kd.freshB (g := gb105) (pB BK105.out) k_ hk, Kd.freshB (g := gb106) (pB BK106.out) k_ hk⟩))
              (case aO => exact (by (with_reducible repeat (first | apply Kd.N_alloc | apply Kd.N_drewN | apply Kd.N_drew)); exact Kd.N_mono HO_7.out (fun _ hk => ⟨hk.1.1, ⟨hk.1.2.1, ⟨hk.1.2.2.1, ⟨hk.1.2.2.2.1, hk.1.2.2.2.2⟩⟩⟩⟩)))
              (case aS => exact (below_size (pL HB.out)))
              (case aL => have := LMc59.out; omega)
              intro v149 w70 ho hb hg hat
              rw [← Ny148.out] at ho
              replace HO_10 := am (Kd.R_over' (pR HO_10.out) (Kd.N_typed (by (with_reducible repeat (first | apply Kd.N_alloc | apply Kd.N_drewN | apply Kd.N_drew)); exact HO_7.out)) (by decide) hg)
              replace HO_46 := am (Kd.R_over' (pR HO_46.out) (Kd.N_typed (by (with_reducible repeat (first | apply Kd.N_alloc | apply Kd.N_drewN | apply Kd.N_drew)); exact HO_7.out)) (by decide) hg)
              replace BK105 := am (blk_grown (pB BK105.out) hg (Kd.N_ne HO_7.out BK105.out (by decide)))
              replace BK106 := am (blk_grown (pB BK106.out) hg (Kd.N_ne HO_7.out BK106.out (by decide)))
              replace HO143 := am (Kd.R_over' (pR HO143.out) (Kd.N_typed (by (with_reducible repeat (first | apply Kd.N_alloc | apply Kd.N_drewN | apply Kd.N_drew)); exact HO_7.out)) (by decide) hg)
              replace HO147 := am (Kd.V_afterv (ok := (fun k_ => (w.heap.size ≤ k_) ∧ some k_ ≠ (.slice (some ad137) t134.length co53 : Value).ownBlock ∧ some k_ ≠ (.slice (some ad137) t134.length co53 : Value).ownBlock ∧ k_ ≠ gb105 ∧ k_ ≠ gb106)) (by (with_reducible repeat (first | apply Va | apply Vn | apply Vd)); exact Kd.V_mono HO147.out (fun _ hk => ⟨⟨hk.1, ⟨hk.2.2.1, ⟨hk.2.2.2.1, ⟨hk.2.2.2.2.1, hk.2.2.2.2.2⟩⟩⟩⟩, hk.2.1⟩)) hg hat)
              replace HB := am (hb)
              have HO150 := am (ho)
              clear HO_7
              clear ho hb hg hat
              refine hK.out _ _ ⟨(blk_cell BK106.out 0).trans rfl, (blk_cell BK106.out 1).trans rfl, (blk_cell BK106.out 2).trans rfl⟩ (fun hHeld => ?_)
              clear hK K
              refine norm_ (a' := ?_) ?_ ?_
              rotate_left
              ·show Act.put _ (some 59) _ = _
               simp only [Act.put, sA, sZ, sS, i64_w, i32_w]
               rfl
              refine pure_ (i := 8) (N := some 7) (v := ?_) (a' := ?_) (bl 9 511) rfl rfl (any_of HT_.out (by kernel_rfl)) (fun _ _ _ h => h) (Or.inl ⟨by rfl, ?_⟩) ?_ ?_
              rotate_left
              ·intro w'
               go_simp
               with_reducible rfl
              rotate_left
              ·simp only [Act.put, sA, sZ, sS, i64_w, i32_w]
               rfl
              refine done_ (done_of HT_.out (by kernel_rfl)) ?_
              have hnb72 := NB105_106.out
              have hnc72 := NB106_105.out
              obtain ⟨hcz73_0, hcz73_1, hcz73_2, hcz73_3, hcz73_4, hcz73_5, hcz73_6, hcz73_7, hfz73_0, hfz73_1, hfz73_2, hfz73_3, hfz73_4, hfz73_5, hfz73_6, hfz73_7⟩ := bc8 BK105.out
              try go_wp2
              replace HO_10 := am (Kd.R_drew HO_10.out)
              replace HO_46 := am (Kd.R_drew HO_46.out)
              replace HO143 := am (Kd.R_drew HO143.out)
              replace HO147 := am (Kd.V_drew HO147.out)
              replace HO150 := am (Kd.N_drew HO150.out)
              replace BK105 := am (blk_drew BK105.out)
              replace BK106 := am (blk_drew BK106.out)
              replace HB := am (below_drew1 HB.out)
              refine start_ (n := 9) (S := fun w' => w'.cell? ⟨gb106, 0, none⟩ = some (.bool t102) ∧ w'.cell? ⟨gb106, 1, none⟩ = some (.string t103) ∧ w'.cell? ⟨gb106, 2, none⟩ = some (.int .i64 t104)) (ds := []) (bl 9 0) (by kernel_rfl) rfl rfl ⟨(blk_cell BK106.out 0).trans rfl, (blk_cell BK106.out 1).trans rfl, (blk_cell BK106.out 2).trans rfl⟩ (fun hHeld => ?_); refine with_tabW facts_one.tab14 facts_one.bits14 (fun HT_ HW_ => ?_)
              generalize w70.drew = w74 at HO_10 HO_46 HO143 HO147 HO150 BK105 BK106 HB hHeld ⊢
              refine pure_ (i := 0) (N := some 63) (v := ?_) (a' := ?_) (bl 9 1) rfl rfl (any_of HT_.out (by kernel_rfl)) (fun _ _ _ h => h) (Or.inl ⟨by rfl, ?_⟩) ?_ ?_
              rotate_left
              ·intro w'
               go_simp
               with_reducible rfl
              rotate_left
              ·simp only [Act.put, sA, sZ, sS, i64_w, i32_w]
               rfl
              refine pure_ (i := 2) (N := some 65) (v := ?_) (a' := ?_) (bl 9 5) rfl rfl (any_of HT_.out (by kernel_rfl)) (fun _ _ _ h => h) (Or.inl ⟨by rfl, ?_⟩) ?_ ?_
              rotate_left
              ·intro w'
               go_simp
               with_reducible rfl
              rotate_left
              ·simp only [Act.put, sA, sZ, sS, i64_w, i32_w]
               rfl
              refine take_ (i := 1) (N := some 64) (v := ?_) (a' := ?_) (bl 9 7) rfl rfl (take_ofW HT_.out HW_.out (by kernel_rfl)) (fun _ _ _ h => h) (Or.inl ⟨by rfl, ?_⟩) hHeld ?_ ?_
              rotate_left
              ·rintro w' ⟨s0, s1, s2⟩
               go_simp
               with_reducible rfl
              rotate_left
              ·simp only [Act.put, sA, sZ, sS, i64_w, i32_w]
               rfl
              refine one_ (i := 3) (N := some 66) (bl 9 15) rfl rfl (one_of HT_.out (by kernel_rfl)) (by decide) (fun K hK => ?_)
              refine goes_ Try.func32 (by kernel_rfl) rfl #[.string (rdOf ByteArray.empty t134 x48_2)] (by rfl) rfl rfl (by (try simp only [List.map_toArray, List.map_cons, List.map_nil]); first | done | rfl | (simp only [List.length_drop, List.length_take]; rfl)) ?_
              with_reducible refine (value_Sym.calls (rdOf ByteArray.empty t134 x48_2) t151 t152 t153 _ A61.out).mono ?_
              rintro e w75 ⟨rfl, hb⟩
              refine ⟨_, rfl, ?_⟩
              replace HO_10 := am (Rb_ HO_10.out hb)
              replace HO_46 := am (Rb_ HO_46.out hb)
              replace HO143 := am (Rb_ HO143.out hb)
              replace HO147 := am (Kd.V_below (pV HO147.out) hb)
              replace HO150 := am (Kd.N_below (by (with_reducible repeat (first | apply Kd.N_alloc | apply Kd.N_drewN | apply Kd.N_drew)); exact HO150.out) hb)
              replace BK105 := am (bb_ BK105.out hb)
              replace BK106 := am (bb_ BK106.out hb)
              replace HB := am (bs_ HB.out hb)
              (try clear hb)
              (try clear hb2)
              (try clear hk)
              (try clear hi)
              refine hK.out _ _ ⟨(blk_cell BK106.out 0).trans rfl, (blk_cell BK106.out 1).trans rfl, (blk_cell BK106.out 2).trans rfl⟩ (fun hHeld => ?_)
              clear hK K
              refine norm_ (a' := ?_) ?_ ?_
              rotate_left
              ·show Act.put _ (some 66) _ = _
               simp only [Act.put, sA, sZ, sS, i64_w, i32_w]
               rfl
              refine one_ (i := 4) (N := some 67) (bl 9 31) rfl rfl (one_of HT_.out (by kernel_rfl)) (by decide) (fun K hK => ?_)
              refine Kd.R_lit_step k28 _ 28 ?hg (N := 67) ?hd (xs := ([(⟨t102, t103, t104⟩ : Val), (⟨t151, t152, t153⟩ : Val)] : List (Val))) (inner := [.bool t102, .string t103, .int .i64 t104, .bool t151, .string t152, .int .i64 t153]) (ok := fun _ => True) (okp := fun _ => True) ?hr ?hp (fun _ hk => hk) trivial (Below.refl _ _) (Nat.le_refl _) (by simp) ?_; (case hd => rfl); (case hg => rfl); (case hr => first | (go_simp; done) | (go_simp; rfl)); (case hp => exact (Reps.c3 (show Kd.M k28 _ _ _ (⟨t102, t103, t104⟩ : Val) [.bool t102, .string t103, .int .i64 t104] from (k28_mkM _ _ _ (⟨t102, t103, t104⟩ : Val) )) (Reps.c3 (show Kd.M k28 _ _ _ (⟨t151, t152, t153⟩ : Val) [.bool t151, .string t152, .int .i64 t153] from (k28_mkM _ _ _ (⟨t151, t152, t153⟩ : Val) )) (Reps.none _ _))))
              intro v155 w76 ho77 hb hg_ hnew_
              clear hg_ hnew_
              (first | rw [← Ny154.out] at ho77 | (simp only [Int.reduceToNat] at ho77; rw [← Ny154.out] at ho77))
              replace HO_10 := am (Rb_ HO_10.out hb)
              replace HO_46 := am (Rb_ HO_46.out hb)
              replace HO147 := am (Kd.V_elder' (pV HO147.out) (Kd.R_base ho77) hb)
              replace HO150 := am (Kd.N_elder' (by (with_reducible repeat (first | apply Kd.N_alloc | apply Kd.N_drewN | apply Kd.N_drew)); exact HO150.out) (Kd.R_base ho77) hb)
              have HO156 := am (Kd.R_lower (Kd.R_newB (Kd.R_new' (Kd.R_newM (M := fun k_ => (w.heap.size ≤ k_)) ho77 (below_size (pL HB.out)) (fun k_ h_ => h_)) (Kd.R_lt (pR HO143.out))) (g := gb106) (o := .cells #[.bool t102, .string t103, .int .i64 t104] 28 (0, 0)) (pB BK106.out)) (below_size (pL HB.out)))
              replace HO143 := am (Kd.R_elder' (pR HO143.out) (Kd.R_base ho77) hb)
              replace BK105 := am (bb_ BK105.out hb)
              replace BK106 := am (bb_ BK106.out hb)
              replace HB := am (bs_ HB.out hb)
              clear hb ho77
              obtain ⟨Ao78, co78, eo78⟩ := Kd.R_slice HO156.out
              (first | subst eo78 | (injection eo78 with f1_ f2_ f3_; have f4_ := f1_.symm; have f5_ := f3_.symm; clear f1_ f2_ f3_; subst f4_; subst f5_))
              refine hK.out _ _ ⟨(blk_cell BK106.out 0).trans rfl, (blk_cell BK106.out 1).trans rfl, (blk_cell BK106.out 2).trans rfl⟩ (fun hHeld => ?_)
              clear hK K
              refine norm_ (a' := ?_) ?_ ?_
              rotate_left
              ·show Act.put _ (some 67) _ = _
               simp only [Act.put, sA, sZ, sS, i64_w, i32_w]
               rfl
              refine one_ (i := 5) (N := some 68) (bl 9 63) rfl rfl (one_of HT_.out (by kernel_rfl)) (by decide) (fun K hK => ?_)
              refine goes_ Try.func20 (by kernel_rfl) rfl #[.string (⟨#[115, 105, 110, 107]⟩ : ByteArray), .slice Ao78 y154.length co78] (by rfl) rfl rfl (by (try simp only [List.map_toArray, List.map_cons, List.map_nil]); first | done | rfl | (simp only [List.length_drop, List.length_take]; rfl)) ?_
              with_reducible refine (facts_fact.calls (⟨#[115, 105, 110, 107]⟩ : ByteArray) (fun k_ => some k_ = (.slice Ao78 y154.length co78 : Value).ownBlock) _ _ y154 t157 t158 _ ?side1 A62.out).mono ?_
              (case side1 => exact Kd.R_V (Kd.R_tight rfl (Kd.R_types (Kd.R_apart' (Kd.R_apart' (Kd.R_apart' (HO156.out) (Kd.R_typed HO_10.out) (by decide)) (Kd.R_typed HO_46.out) (by decide)) (Kd.N_typed HO150.out) (by decide)) BK105.out (by decide))))
              rintro e w79 ⟨v159, rfl, ho0, hb⟩
              refine ⟨_, rfl, ?_⟩
              replace HO147 := am (Kd.V_below (pV HO147.out) hb)
              have HO160 := am (Kd.V_lower (Kd.V_mono (ok' := fun k_ => (w.heap.size ≤ k_) ∧ some k_ ≠ (.slice (some ad137) t134.length co53 : Value).ownBlock ∧ some k_ ≠ (.slice (some ad137) t134.length co53 : Value).ownBlock ∧ some k_ ≠ (.slice Ao68 y141.length co68 : Value).ownBlock ∧ some k_ ≠ (v149 : Value).ownBlock ∧ k_ ≠ gb105 ∧ k_ ≠ gb106) ho0 (fun k_ hk_ => ⟨Or.elim hk_ (fun hs_ => ((Kd.R_types (Kd.R_apart' (Kd.R_apart' (Kd.R_apart' (HO156.out) (Kd.R_typed HO_10.out) (by decide)) (Kd.R_typed HO_46.out) (by decide)) (Kd.N_typed HO150.out) (by decide)) BK105.out (by decide)).1 k_ hs_.symm).1.1.1.1.1.1.1) (fun hn_ => (Nat.le_trans (below_size (pL HB.out)) hn_)), Or.elim hk_ (fun hs_ => ((Kd.R_types (Kd.R_apart' (Kd.R_apart' (Kd.R_apart' (HO156.out) (Kd.R_typed HO_10.out) (by decide)) (Kd.R_typed HO_46.out) (by decide)) (Kd.N_typed HO150.out) (by decide)) BK105.out (by decide)).1 k_ hs_.symm).1.1.1.2) (fun hn_ => (Kd.fresh' (Kd.R_lt (pR HO_10.out)) k_ hn_)), Or.elim hk_ (fun hs_ => ((Kd.R_types (Kd.R_apart' (Kd.R_apart' (Kd.R_apart' (HO156.out) (Kd.R_typed HO_10.out) (by decide)) (Kd.R_typed HO_46.out) (by decide)) (Kd.N_typed HO150.out) (by decide)) BK105.out (by decide)).1 k_ hs_.symm).1.1.2) (fun hn_ => (Kd.fresh' (Kd.R_lt (pR HO_46.out)) k_ hn_)), Or.elim hk_ (fun hs_ => ((Kd.R_types (Kd.R_apart' (Kd.R_apart' (Kd.R_apart' (HO156.out) (Kd.R_typed HO_10.out) (by decide)) (Kd.R_typed HO_46.out) (by decide)) (Kd.N_typed HO150.out) (by decide)) BK105.out (by decide)).1 k_ hs_.symm).1.1.1.1.1.2) (fun hn_ => (Kd.fresh' (Kd.R_lt (pR HO143.out)) k_ hn_)), Or.elim hk_ (fun hs_ => ((Kd.R_types (Kd.R_apart' (Kd.R_apart' (Kd.R_apart' (HO156.out) (Kd.R_typed HO_10.out) (by decide)) (Kd.R_typed HO_46.out) (by decide)) (Kd.N_typed HO150.out) (by decide)) BK105.out (by decide)).1 k_ hs_.symm).1.2) (fun hn_ => (Kd.fresh' (Kd.N_lt (by (with_reducible repeat (first | apply Kd.N_alloc | apply Kd.N_drewN | apply Kd.N_drew)); exact HO150.out)) k_ hn_)), Or.elim hk_ (fun hs_ => ((Kd.R_types (Kd.R_apart' (Kd.R_apart' (Kd.R_apart' (HO156.out) (Kd.R_typed HO_10.out) (by decide)) (Kd.R_typed HO_46.out) (by decide)) (Kd.N_typed HO150.out) (by decide)) BK105.out (by decide)).1 k_ hs_.symm).2) (fun hn_ => (Kd.freshB (g := gb105) (pB BK105.out) k_ hn_)), Or.elim hk_ (fun hs_ => ((Kd.R_types (Kd.R_apart' (Kd.R_apart' (Kd.R_apart' (HO156.out) (Kd.R_typed HO_10.out) (by decide)) (Kd.R_typed HO_46.out) (by decide)) (Kd.N_typed HO150.out) (by decide)) BK105.out (by decide)).1 k_ hs_.symm).1.1.1.1.2) (fun hn_ => (Kd.freshB (g := gb106) (pB BK106.out) k_ hn_))⟩)) (below_size (pL HB.out)))
              replace HO_10 := am (Rb_ HO_10.out hb)
              replace HO_46 := am (Rb_ HO_46.out hb)
              replace HO143 := am (Rb_ HO143.out hb)
              replace HO150 := am (Kd.N_below (by (with_reducible repeat (first | apply Kd.N_alloc | apply Kd.N_drewN | apply Kd.N_drew)); exact HO150.out) hb)
              replace HO156 := am (Rb_ HO156.out hb)
              replace BK105 := am (bb_ BK105.out hb)
              replace BK106 := am (bb_ BK106.out hb)
              replace HB := am (bs_ HB.out hb)
              (try clear hb)
              (try clear hb2)
              (try clear hk)
              (try clear hi)
              (try clear ho0)
              obtain ⟨Ao81, co81, eo81⟩ := Kd.V_slice HO160.out
              (first | subst eo81 | (injection eo81 with f1_ f2_ f3_; have f4_ := f1_.symm; have f5_ := f3_.symm; clear f1_ f2_ f3_; subst f4_; subst f5_))
              refine hK.out _ _ ⟨(blk_cell BK106.out 0).trans rfl, (blk_cell BK106.out 1).trans rfl, (blk_cell BK106.out 2).trans rfl⟩ (fun hHeld => ?_)
              clear hK K
              refine norm_ (a' := ?_) ?_ ?_
              rotate_left
              ·show Act.put _ (some 68) _ = _
               simp only [Act.put, sA, sZ, sS, i64_w, i32_w]
               rfl
              refine one_ (i := 6) (N := some 69) (bl 9 127) rfl rfl (one_of HT_.out (by kernel_rfl)) (by decide) (fun K hK => ?_)
              refine value_ (w1 := ?_) (v := ?_) (by rfl) rfl ?_ ?_
              rotate_left 2
              ·go_simp
               constructor
               ·rfl
               ·rfl
              refine hK.out _ _ ⟨(blk_cell (blk_alloc BK106.out _) 0).trans rfl, (blk_cell (blk_alloc BK106.out _) 1).trans rfl, (blk_cell (blk_alloc BK106.out _) 2).trans rfl⟩ (fun hHeld => ?_)
              clear hK K
              refine norm_ (a' := ?_) ?_ ?_
              rotate_left
              ·show Act.put _ (some 69) _ = _
               simp only [Act.put, sA, sZ, sS, i64_w, i32_w]
               rfl
              refine one_ (i := 7) (N := some 70) (bl 9 255) rfl rfl (one_of HT_.out (by kernel_rfl)) (by decide) (fun K hK => ?_)
              refine Kd.N_append_step k44 (w0 := w) w.heap.size (by rfl) (.tmp 63) (.tmp 69) 24 44 (.agg #[(.string ⟨#[]⟩), (.slice none 0 0)]) 40 rfl Try.underlying24 info44 rfl (by decide) (by omega) v149 y148 (⟨t157, t158⟩ : Fact) [.string t157, .slice Ao81 t158.length co81] (fun k_ => (w.heap.size ≤ k_) ∧ some k_ ≠ (.slice (some ad137) t134.length co53 : Value).ownBlock ∧ some k_ ≠ (.slice (some ad137) t134.length co53 : Value).ownBlock ∧ k_ ≠ gb105 ∧ k_ ≠ gb106) (fun k_ => ((fun k_ => (w.heap.size ≤ k_) ∧ some k_ ≠ (.slice (some ad137) t134.length co53 : Value).ownBlock ∧ some k_ ≠ (.slice (some ad137) t134.length co53 : Value).ownBlock ∧ k_ ≠ gb105 ∧ k_ ≠ gb106)) k_ ∧ some k_ ≠ (v149 : Value).ownBlock) rfl rfl ?aP (fun _ hk => hk) ?aF ?aO ?aB ?aS ?aL ?_
              (case aP => exact (k44_mkF _ _ (⟨t157, t158⟩ : Fact) (Kd.V_reads' (Kd.V_mono (ok' := (fun k_ => ((fun k_ => (w.heap.size ≤ k_) ∧ some k_ ≠ (.slice (some ad137) t134.length co53 : Value).ownBlock ∧ some k_ ≠ (.slice (some ad137) t134.length co53 : Value).ownBlock ∧ k_ ≠ gb105 ∧ k_ ≠ gb106)) k_ ∧ some k_ ≠ (v149 : Value).ownBlock)) (HO160.out) (fun k_ hk => ⟨⟨hk.1, ⟨hk.2.1, ⟨hk.2.2.1, ⟨hk.2.2.2.2.2.1, hk.2.2.2.2.2.2⟩⟩⟩⟩, hk.2.2.2.2.1⟩))).2.1 (Kd.V_F (Kd.V_mono (ok' := (fun k_ => ((fun k_ => (w.heap.size ≤ k_) ∧ some k_ ≠ (.slice (some ad137) t134.length co53 : Value).ownBlock ∧ some k_ ≠ (.slice (some ad137) t134.length co53 : Value).ownBlock ∧ k_ ≠ gb105 ∧ k_ ≠ gb106)) k_ ∧ some k_ ≠ (v149 : Value).ownBlock)) (HO160.out) (fun k_ hk => ⟨⟨hk.1, ⟨hk.2.1, ⟨hk.2.2.1, ⟨hk.2.2.2.2.2.1, hk.2.2.2.2.2.2⟩⟩⟩⟩, hk.2.2.2.2.1⟩)))))
              (case aB => exact (pL HB.out))
              (case aF => exact (fun k_ hk => ⟨(Nat.le_trans (below_size (pL HB.out)) hk), Kd.fresh' (Kd.R_lt (pR HO_10.out)) k_ hk, Kd.fresh' (Kd.R_lt (pR HO_46.out)) k_ hk, Kd.freshB (g := gb105) (pB BK105.out) k_ hk, Kd.freshB (g := gb106) (pB BK106.out) k_ hk⟩))
              (case aO => exact (by (with_reducible repeat (first | apply Kd.N_alloc | apply Kd.N_drewN | apply Kd.N_drew)); exact Kd.N_mono HO150.out (fun _ hk => ⟨hk.1.1, ⟨hk.1.2.1, ⟨hk.1.2.2.1, ⟨hk.1.2.2.2.1, hk.1.2.2.2.2⟩⟩⟩⟩)))
              (case aS => exact (below_size (pL HB.out)))
              (case aL => have := LMc63.out; omega)
              intro v162 w80 ho hb hg hat
              rw [← Ny161.out] at ho
              replace HO_10 := am (Kd.R_over' (pR HO_10.out) (Kd.N_typed (by (with_reducible repeat (first | apply Kd.N_alloc | apply Kd.N_drewN | apply Kd.N_drew)); exact HO150.out)) (by decide) hg)
              replace HO_46 := am (Kd.R_over' (pR HO_46.out) (Kd.N_typed (by (with_reducible repeat (first | apply Kd.N_alloc | apply Kd.N_drewN | apply Kd.N_drew)); exact HO150.out)) (by decide) hg)
              replace BK105 := am (blk_grown (pB BK105.out) hg (Kd.N_ne HO150.out BK105.out (by decide)))
              replace BK106 := am (blk_grown (pB BK106.out) hg (Kd.N_ne HO150.out BK106.out (by decide)))
              replace HO143 := am (Kd.R_over' (pR HO143.out) (Kd.N_typed (by (with_reducible repeat (first | apply Kd.N_alloc | apply Kd.N_drewN | apply Kd.N_drew)); exact HO150.out)) (by decide) hg)
              replace HO147 := am (Kd.V_afterv (ok := (fun k_ => (w.heap.size ≤ k_) ∧ some k_ ≠ (.slice (some ad137) t134.length co53 : Value).ownBlock ∧ some k_ ≠ (.slice (some ad137) t134.length co53 : Value).ownBlock ∧ some k_ ≠ (.slice Ao78 y154.length co78 : Value).ownBlock ∧ k_ ≠ gb105 ∧ k_ ≠ gb106)) (by (with_reducible repeat (first | apply Va | apply Vn | apply Vd)); exact Kd.V_mono HO147.out (fun _ hk => ⟨⟨hk.1.1.1, ⟨hk.1.1.2.1, ⟨hk.1.1.2.2.1, ⟨hk.2, ⟨hk.1.1.2.2.2.1, hk.1.1.2.2.2.2⟩⟩⟩⟩⟩, hk.1.2⟩)) hg hat)
              replace HO156 := am (Kd.R_over' (pR HO156.out) (Kd.N_typed (by (with_reducible repeat (first | apply Kd.N_alloc | apply Kd.N_drewN | apply Kd.N_drew)); exact HO150.out)) (by decide) hg)
              replace HO160 := am (Kd.V_afterv (ok := (fun k_ => (w.heap.size ≤ k_) ∧ some k_ ≠ (.slice (some ad137) t134.length co53 : Value).ownBlock ∧ some k_ ≠ (.slice (some ad137) t134.length co53 : Value).ownBlock ∧ some k_ ≠ (.slice Ao68 y141.length co68 : Value).ownBlock ∧ k_ ≠ gb105 ∧ k_ ≠ gb106)) (by (with_reducible repeat (first | apply Va | apply Vn | apply Vd)); exact Kd.V_mono HO160.out (fun _ hk => ⟨⟨hk.1, ⟨hk.2.1, ⟨hk.2.2.1, ⟨hk.2.2.2.1, ⟨hk.2.2.2.2.2.1, hk.2.2.2.2.2.2⟩⟩⟩⟩⟩, hk.2.2.2.2.1⟩)) hg hat)
              replace HB := am (hb)
              have HO163 := am (ho)
              clear HO150
              clear ho hb hg hat
              refine hK.out _ _ ⟨(blk_cell BK106.out 0).trans rfl, (blk_cell BK106.out 1).trans rfl, (blk_cell BK106.out 2).trans rfl⟩ (fun hHeld => ?_)
              clear hK K
              refine norm_ (a' := ?_) ?_ ?_
              rotate_left
              ·show Act.put _ (some 70) _ = _
               simp only [Act.put, sA, sZ, sS, i64_w, i32_w]
               rfl
              refine pure_ (i := 8) (N := some 7) (v := ?_) (a' := ?_) (bl 9 511) rfl rfl (any_of HT_.out (by kernel_rfl)) (fun _ _ _ h => h) (Or.inl ⟨by rfl, ?_⟩) ?_ ?_
              rotate_left
              ·intro w'
               go_simp
               with_reducible rfl
              rotate_left
              ·simp only [Act.put, sA, sZ, sS, i64_w, i32_w]
               rfl
              refine done_ (done_of HT_.out (by kernel_rfl)) ?_
              try go_wp2
              go_roundg k2
              case measure => have := HK1.out; have := HK2.out; omega
              case rel => exact ⟨(y161), (wrap64 (x48_2 + 1)), rs_, H', ⟨by have := HK1.out; have := HK2.out; omega⟩, ⟨by (with_reducible repeat (first | apply Kd.N_alloc | apply Kd.N_drewN | apply Kd.N_drew)); exact HO163.out⟩, ⟨pR HO_10.out⟩, ⟨pR HO_46.out⟩, ⟨pB BK105.out⟩, ⟨pB BK106.out⟩, ⟨pL HB.out⟩⟩
             ·rw [if_neg c63] at H
              exact absurd H (by simp)
            ·rw [if_neg c60] at H
             have c60b0 : (((rd_T33 l0 a1).kind) == 6) = false := beq_eq_false_iff_ne.mpr c60
             have c60b1 : (((rd_T33 l0 a1).kind) != 6) = true := bne_iff_ne.mpr c60
             have H' := am H
             clear H
             have p137 : 0 ≤ (x48_2 : Int) := dt_
             have q137 : x48_2 < (t134.length : Int) := dt_
             obtain ⟨ad137, e137, hx137_0⟩ := Kd.at_string (Kd.R_reads' HO_46.out).2.2 x48_2 p137 q137
             cases e137
             replace p137 := eq_true p137
             replace q137 := eq_true q137
             try go_wp2
             replace HO_7 := am (Kd.N_drew HO_7.out)
             replace HO_10 := am (Kd.R_drew HO_10.out)
             replace HO_46 := am (Kd.R_drew HO_46.out)
             replace BK105 := am (blk_drew BK105.out)
             replace BK106 := am (blk_drew BK106.out)
             replace HB := am (below_drew1 HB.out)
             refine start_ (n := 9) (S := fun w' => w'.cell? ⟨gb106, 0, none⟩ = some (.bool t102) ∧ w'.cell? ⟨gb106, 1, none⟩ = some (.string t103) ∧ w'.cell? ⟨gb106, 2, none⟩ = some (.int .i64 t104)) (ds := []) (bl 9 0) (by kernel_rfl) rfl rfl ⟨(blk_cell BK106.out 0).trans rfl, (blk_cell BK106.out 1).trans rfl, (blk_cell BK106.out 2).trans rfl⟩ (fun hHeld => ?_); refine with_tabW facts_one.tab12 facts_one.bits12 (fun HT_ HW_ => ?_)
             generalize wr.drew = w82 at HO_7 HO_10 HO_46 BK105 BK106 HB hHeld ⊢
             refine pure_ (i := 0) (N := some 52) (v := ?_) (a' := ?_) (bl 9 1) rfl rfl (any_of HT_.out (by kernel_rfl)) (fun _ _ _ h => h) (Or.inl ⟨by rfl, ?_⟩) ?_ ?_
             rotate_left
             ·intro w'
              go_simp
              with_reducible rfl
             rotate_left
             ·simp only [Act.put, sA, sZ, sS, i64_w, i32_w]
              rfl
             refine pure_ (i := 2) (N := some 54) (v := ?_) (a' := ?_) (bl 9 5) rfl rfl (any_of HT_.out (by kernel_rfl)) (fun _ _ _ h => h) (Or.inl ⟨by rfl, ?_⟩) ?_ ?_
             rotate_left
             ·intro w'
              go_simp
              with_reducible rfl
             rotate_left
             ·simp only [Act.put, sA, sZ, sS, i64_w, i32_w]
              rfl
             refine take_ (i := 1) (N := some 53) (v := ?_) (a' := ?_) (bl 9 7) rfl rfl (take_ofW HT_.out HW_.out (by kernel_rfl)) (fun _ _ _ h => h) (Or.inl ⟨by rfl, ?_⟩) hHeld ?_ ?_
             rotate_left
             ·rintro w' ⟨s0, s1, s2⟩
              go_simp
              with_reducible rfl
             rotate_left
             ·simp only [Act.put, sA, sZ, sS, i64_w, i32_w]
              rfl
             refine one_ (i := 3) (N := some 55) (bl 9 15) rfl rfl (one_of HT_.out (by kernel_rfl)) (by decide) (fun K hK => ?_)
             refine goes_ Try.func32 (by kernel_rfl) rfl #[.string (rdOf ByteArray.empty t134 x48_2)] (by rfl) rfl rfl (by (try simp only [List.map_toArray, List.map_cons, List.map_nil]); first | done | rfl | (simp only [List.length_drop, List.length_take]; rfl)) ?_
             with_reducible refine (value_Sym.calls (rdOf ByteArray.empty t134 x48_2) t138 t139 t140 _ A57.out).mono ?_
             rintro e w83 ⟨rfl, hb⟩
             refine ⟨_, rfl, ?_⟩
             replace HO_7 := am (Kd.N_below (by (with_reducible repeat (first | apply Kd.N_alloc | apply Kd.N_drewN | apply Kd.N_drew)); exact HO_7.out) hb)
             replace HO_10 := am (Rb_ HO_10.out hb)
             replace HO_46 := am (Rb_ HO_46.out hb)
             replace BK105 := am (bb_ BK105.out hb)
             replace BK106 := am (bb_ BK106.out hb)
             replace HB := am (bs_ HB.out hb)
             (try clear hb)
             (try clear hb2)
             (try clear hk)
             (try clear hi)
             refine hK.out _ _ ⟨(blk_cell BK106.out 0).trans rfl, (blk_cell BK106.out 1).trans rfl, (blk_cell BK106.out 2).trans rfl⟩ (fun hHeld => ?_)
             clear hK K
             refine norm_ (a' := ?_) ?_ ?_
             rotate_left
             ·show Act.put _ (some 55) _ = _
              simp only [Act.put, sA, sZ, sS, i64_w, i32_w]
              rfl
             refine one_ (i := 4) (N := some 56) (bl 9 31) rfl rfl (one_of HT_.out (by kernel_rfl)) (by decide) (fun K hK => ?_)
             refine Kd.R_lit_step k28 _ 28 ?hg (N := 56) ?hd (xs := ([(⟨t102, t103, t104⟩ : Val), (⟨t138, t139, t140⟩ : Val)] : List (Val))) (inner := [.bool t102, .string t103, .int .i64 t104, .bool t138, .string t139, .int .i64 t140]) (ok := fun _ => True) (okp := fun _ => True) ?hr ?hp (fun _ hk => hk) trivial (Below.refl _ _) (Nat.le_refl _) (by simp) ?_; (case hd => rfl); (case hg => rfl); (case hr => first | (go_simp; done) | (go_simp; rfl)); (case hp => exact (Reps.c3 (show Kd.M k28 _ _ _ (⟨t102, t103, t104⟩ : Val) [.bool t102, .string t103, .int .i64 t104] from (k28_mkM _ _ _ (⟨t102, t103, t104⟩ : Val) )) (Reps.c3 (show Kd.M k28 _ _ _ (⟨t138, t139, t140⟩ : Val) [.bool t138, .string t139, .int .i64 t140] from (k28_mkM _ _ _ (⟨t138, t139, t140⟩ : Val) )) (Reps.none _ _))))
             intro v142 w84 ho85 hb hg_ hnew_
             clear hg_ hnew_
             (first | rw [← Ny141.out] at ho85 | (simp only [Int.reduceToNat] at ho85; rw [← Ny141.out] at ho85))
             replace HO_7 := am (Kd.N_elder' (by (with_reducible repeat (first | apply Kd.N_alloc | apply Kd.N_drewN | apply Kd.N_drew)); exact HO_7.out) (Kd.R_base ho85) hb)
             replace HO_10 := am (Rb_ HO_10.out hb)
             replace HO_46 := am (Rb_ HO_46.out hb)
             have HO143 := am (Kd.R_lower (Kd.R_newB (Kd.R_newM (M := fun k_ => (w.heap.size ≤ k_)) ho85 (below_size (pL HB.out)) (fun k_ h_ => h_)) (g := gb106) (o := .cells #[.bool t102, .string t103, .int .i64 t104] 28 (0, 0)) (pB BK106.out)) (below_size (pL HB.out)))
             replace BK105 := am (bb_ BK105.out hb)
             replace BK106 := am (bb_ BK106.out hb)
             replace HB := am (bs_ HB.out hb)
             clear hb ho85
             obtain ⟨Ao86, co86, eo86⟩ := Kd.R_slice HO143.out
             (first | subst eo86 | (injection eo86 with f1_ f2_ f3_; have f4_ := f1_.symm; have f5_ := f3_.symm; clear f1_ f2_ f3_; subst f4_; subst f5_))
             refine hK.out _ _ ⟨(blk_cell BK106.out 0).trans rfl, (blk_cell BK106.out 1).trans rfl, (blk_cell BK106.out 2).trans rfl⟩ (fun hHeld => ?_)
             clear hK K
             refine norm_ (a' := ?_) ?_ ?_
             rotate_left
             ·show Act.put _ (some 56) _ = _
              simp only [Act.put, sA, sZ, sS, i64_w, i32_w]
              rfl
             refine one_ (i := 5) (N := some 57) (bl 9 63) rfl rfl (one_of HT_.out (by kernel_rfl)) (by decide) (fun K hK => ?_)
             refine goes_ Try.func20 (by kernel_rfl) rfl #[.string (⟨#[117, 115, 101]⟩ : ByteArray), .slice Ao86 y141.length co86] (by rfl) rfl rfl (by (try simp only [List.map_toArray, List.map_cons, List.map_nil]); first | done | rfl | (simp only [List.length_drop, List.length_take]; rfl)) ?_
             with_reducible refine (facts_fact.calls (⟨#[117, 115, 101]⟩ : ByteArray) (fun k_ => some k_ = (.slice Ao86 y141.length co86 : Value).ownBlock) _ _ y141 t144 t145 _ ?side1 A58.out).mono ?_
             (case side1 => exact Kd.R_V (Kd.R_tight rfl (Kd.R_types (Kd.R_apart' (Kd.R_apart' (Kd.R_apart' (HO143.out) (Kd.N_typed HO_7.out) (by decide)) (Kd.R_typed HO_10.out) (by decide)) (Kd.R_typed HO_46.out) (by decide)) BK105.out (by decide))))
             rintro e w87 ⟨v146, rfl, ho0, hb⟩
             refine ⟨_, rfl, ?_⟩
             have HO147 := am (Kd.V_lower (Kd.V_mono (ok' := fun k_ => (w.heap.size ≤ k_) ∧ some k_ ≠ (u7 : Value).ownBlock ∧ some k_ ≠ (.slice (some ad137) t134.length co53 : Value).ownBlock ∧ some k_ ≠ (.slice (some ad137) t134.length co53 : Value).ownBlock ∧ k_ ≠ gb105 ∧ k_ ≠ gb106) ho0 (fun k_ hk_ => ⟨Or.elim hk_ (fun hs_ => ((Kd.R_types (Kd.R_apart' (Kd.R_apart' (Kd.R_apart' (HO143.out) (Kd.N_typed HO_7.out) (by decide)) (Kd.R_typed HO_10.out) (by decide)) (Kd.R_typed HO_46.out) (by decide)) BK105.out (by decide)).1 k_ hs_.symm).1.1.1.1.1.1) (fun hn_ => (Nat.le_trans (below_size (pL HB.out)) hn_)), Or.elim hk_ (fun hs_ => ((Kd.R_types (Kd.R_apart' (Kd.R_apart' (Kd.R_apart' (HO143.out) (Kd.N_typed HO_7.out) (by decide)) (Kd.R_typed HO_10.out) (by decide)) (Kd.R_typed HO_46.out) (by decide)) BK105.out (by decide)).1 k_ hs_.symm).1.1.1.2) (fun hn_ => (Kd.fresh' (Kd.N_lt (by (with_reducible repeat (first | apply Kd.N_alloc | apply Kd.N_drewN | apply Kd.N_drew)); exact HO_7.out)) k_ hn_)), Or.elim hk_ (fun hs_ => ((Kd.R_types (Kd.R_apart' (Kd.R_apart' (Kd.R_apart' (HO143.out) (Kd.N_typed HO_7.out) (by decide)) (Kd.R_typed HO_10.out) (by decide)) (Kd.R_typed HO_46.out) (by decide)) BK105.out (by decide)).1 k_ hs_.symm).1.1.2) (fun hn_ => (Kd.fresh' (Kd.R_lt (pR HO_10.out)) k_ hn_)), Or.elim hk_ (fun hs_ => ((Kd.R_types (Kd.R_apart' (Kd.R_apart' (Kd.R_apart' (HO143.out) (Kd.N_typed HO_7.out) (by decide)) (Kd.R_typed HO_10.out) (by decide)) (Kd.R_typed HO_46.out) (by decide)) BK105.out (by decide)).1 k_ hs_.symm).1.2) (fun hn_ => (Kd.fresh' (Kd.R_lt (pR HO_46.out)) k_ hn_)), Or.elim hk_ (fun hs_ => ((Kd.R_types (Kd.R_apart' (Kd.R_apart' (Kd.R_apart' (HO143.out) (Kd.N_typed HO_7.out) (by decide)) (Kd.R_typed HO_10.out) (by decide)) (Kd.R_typed HO_46.out) (by decide)) BK105.out (by decide)).1 k_ hs_.symm).2) (fun hn_ => (Kd.freshB (g := gb105) (pB BK105.out) k_ hn_)), Or.elim hk_ (fun hs_ => ((Kd.R_types (Kd.R_apart' (Kd.R_apart' (Kd.R_apart' (HO143.out) (Kd.N_typed HO_7.out) (by decide)) (Kd.R_typed HO_10.out) (by decide)) (Kd.R_typed HO_46.out) (by decide)) BK105.out (by decide)).1 k_ hs_.symm).1.1.1.1.2) (fun hn_ => (Kd.freshB (g := gb106) (pB BK106.out) k_ hn_))⟩)) (below_size (pL HB.out)))
             replace HO_7 := am (Kd.N_below (by (with_reducible repeat (first | apply Kd.N_alloc | apply Kd.N_drewN | apply Kd.N_drew)); exact HO_7.out) hb)
             replace HO_10 := am (Rb_ HO_10.out hb)
             replace HO_46 := am (Rb_ HO_46.out hb)
             replace HO143 := am (Rb_ HO143.out hb)
             replace BK105 := am (bb_ BK105.out hb)
             replace BK106 := am (bb_ BK106.out hb)
             replace HB := am (bs_ HB.out hb)
             (try clear hb)
             (try clear hb2)
             (try clear hk)
             (try clear hi)
             (try clear ho0)
             obtain ⟨Ao89, co89, eo89⟩ := Kd.V_slice HO147.out
             (first | subst eo89 | (injection eo89 with f1_ f2_ f3_; have f4_ := f1_.symm; have f5_ := f3_.symm; clear f1_ f2_ f3_; subst f4_; subst f5_))
             refine hK.out _ _ ⟨(blk_cell BK106.out 0).trans rfl, (blk_cell BK106.out 1).trans rfl, (blk_cell BK106.out 2).trans rfl⟩ (fun hHeld => ?_)
             clear hK K
             refine norm_ (a' := ?_) ?_ ?_
             rotate_left
             ·show Act.put _ (some 57) _ = _
              simp only [Act.put, sA, sZ, sS, i64_w, i32_w]
              rfl
             refine one_ (i := 6) (N := some 58) (bl 9 127) rfl rfl (one_of HT_.out (by kernel_rfl)) (by decide) (fun K hK => ?_)
             refine value_ (w1 := ?_) (v := ?_) (by rfl) rfl ?_ ?_
             rotate_left 2
             ·go_simp
              constructor
              ·rfl
              ·rfl
             refine hK.out _ _ ⟨(blk_cell (blk_alloc BK106.out _) 0).trans rfl, (blk_cell (blk_alloc BK106.out _) 1).trans rfl, (blk_cell (blk_alloc BK106.out _) 2).trans rfl⟩ (fun hHeld => ?_)
             clear hK K
             refine norm_ (a' := ?_) ?_ ?_
             rotate_left
             ·show Act.put _ (some 58) _ = _
              simp only [Act.put, sA, sZ, sS, i64_w, i32_w]
              rfl
             refine one_ (i := 7) (N := some 59) (bl 9 255) rfl rfl (one_of HT_.out (by kernel_rfl)) (by decide) (fun K hK => ?_)
             refine Kd.N_append_step k44 (w0 := w) w.heap.size (by rfl) (.tmp 52) (.tmp 58) 24 44 (.agg #[(.string ⟨#[]⟩), (.slice none 0 0)]) 40 rfl Try.underlying24 info44 rfl (by decide) (by omega) u7 x7_2 (⟨t144, t145⟩ : Fact) [.string t144, .slice Ao89 t145.length co89] (fun k_ => (w.heap.size ≤ k_) ∧ some k_ ≠ (.slice (some ad137) t134.length co53 : Value).ownBlock ∧ some k_ ≠ (.slice (some ad137) t134.length co53 : Value).ownBlock ∧ k_ ≠ gb105 ∧ k_ ≠ gb106) (fun k_ => ((fun k_ => (w.heap.size ≤ k_) ∧ some k_ ≠ (.slice (some ad137) t134.length co53 : Value).ownBlock ∧ some k_ ≠ (.slice (some ad137) t134.length co53 : Value).ownBlock ∧ k_ ≠ gb105 ∧ k_ ≠ gb106)) k_ ∧ some k_ ≠ (u7 : Value).ownBlock) rfl rfl ?aP (fun _ hk => hk) ?aF ?aO ?aB ?aS ?aL ?_
             (case aP => exact (k44_mkF _ _ (⟨t144, t145⟩ : Fact) (Kd.V_reads' (Kd.V_mono (ok' := (fun k_ => ((fun k_ => (w.heap.size ≤ k_) ∧ some k_ ≠ (.slice (some ad137) t134.length co53 : Value).ownBlock ∧ some k_ ≠ (.slice (some ad137) t134.length co53 : Value).ownBlock ∧ k_ ≠ gb105 ∧ k_ ≠ gb106)) k_ ∧ some k_ ≠ (u7 : Value).ownBlock)) (HO147.out) (fun k_ hk => ⟨⟨hk.1, ⟨hk.2.2.1, ⟨hk.2.2.2.1, ⟨hk.2.2.2.2.1, hk.2.2.2.2.2⟩⟩⟩⟩, hk.2.1⟩))).2.1 (Kd.V_F (Kd.V_mono (ok' := (fun k_ => ((fun k_ => (w.heap.size ≤ k_) ∧ some k_ ≠ (.slice (some ad137) t134.length co53 : Value).ownBlock ∧ some k_ ≠ (.slice (some ad137) t134.length co53 : Value).ownBlock ∧ k_ ≠ gb105 ∧ k_ ≠ gb106)) k_ ∧ some k_ ≠ (u7 : Value).ownBlock)) (HO147.out) (fun k_ hk => ⟨⟨hk.1, ⟨hk.2.2.1, ⟨hk.2.2.2.1, ⟨hk.2.2.2.2.1, hk.2.2.2.2.2⟩⟩⟩⟩, hk.2.1⟩)))))
             (case aB => exact (pL HB.out))
             (case aF => exact (fun k_ hk => ⟨(Nat.le_trans (below_size (pL HB.out)) hk), Kd.fresh' (Kd.R_lt (pR HO_10.out)) k_ hk, Kd.fresh' (Kd.R_lt (pR HO_46.out)) k_ hk, Kd.freshB (g := gb105) (pB BK105.out) k_ hk, Kd.freshB (g := gb106) (pB BK106.out) k_ hk⟩))
             (case aO => exact (by (with_reducible repeat (first | apply Kd.N_alloc | apply Kd.N_drewN | apply Kd.N_drew)); exact Kd.N_mono HO_7.out (fun _ hk => ⟨hk.1.1, ⟨hk.1.2.1, ⟨hk.1.2.2.1, ⟨hk.1.2.2.2.1, hk.1.2.2.2.2⟩⟩⟩⟩)))
             (case aS => exact (below_size (pL HB.out)))
             (case aL => have := LMc59.out; omega)
             intro v149 w88 ho hb hg hat
             rw [← Ny148.out] at ho
             replace HO_10 := am (Kd.R_over' (pR HO_10.out) (Kd.N_typed (by (with_reducible repeat (first | apply Kd.N_alloc | apply Kd.N_drewN | apply Kd.N_drew)); exact HO_7.out)) (by decide) hg)
             replace HO_46 := am (Kd.R_over' (pR HO_46.out) (Kd.N_typed (by (with_reducible repeat (first | apply Kd.N_alloc | apply Kd.N_drewN | apply Kd.N_drew)); exact HO_7.out)) (by decide) hg)
             replace BK105 := am (blk_grown (pB BK105.out) hg (Kd.N_ne HO_7.out BK105.out (by decide)))
             replace BK106 := am (blk_grown (pB BK106.out) hg (Kd.N_ne HO_7.out BK106.out (by decide)))
             replace HO143 := am (Kd.R_over' (pR HO143.out) (Kd.N_typed (by (with_reducible repeat (first | apply Kd.N_alloc | apply Kd.N_drewN | apply Kd.N_drew)); exact HO_7.out)) (by decide) hg)
             replace HO147 := am (Kd.V_afterv (ok := (fun k_ => (w.heap.size ≤ k_) ∧ some k_ ≠ (.slice (some ad137) t134.length co53 : Value).ownBlock ∧ some k_ ≠ (.slice (some ad137) t134.length co53 : Value).ownBlock ∧ k_ ≠ gb105 ∧ k_ ≠ gb106)) (by (with_reducible repeat (first | apply Va | apply Vn | apply Vd)); exact Kd.V_mono HO147.out (fun _ hk => ⟨⟨hk.1, ⟨hk.2.2.1, ⟨hk.2.2.2.1, ⟨hk.2.2.2.2.1, hk.2.2.2.2.2⟩⟩⟩⟩, hk.2.1⟩)) hg hat)
             replace HB := am (hb)
             have HO150 := am (ho)
             clear HO_7
             clear ho hb hg hat
             refine hK.out _ _ ⟨(blk_cell BK106.out 0).trans rfl, (blk_cell BK106.out 1).trans rfl, (blk_cell BK106.out 2).trans rfl⟩ (fun hHeld => ?_)
             clear hK K
             refine norm_ (a' := ?_) ?_ ?_
             rotate_left
             ·show Act.put _ (some 59) _ = _
              simp only [Act.put, sA, sZ, sS, i64_w, i32_w]
              rfl
             refine pure_ (i := 8) (N := some 7) (v := ?_) (a' := ?_) (bl 9 511) rfl rfl (any_of HT_.out (by kernel_rfl)) (fun _ _ _ h => h) (Or.inl ⟨by rfl, ?_⟩) ?_ ?_
             rotate_left
             ·intro w'
              go_simp
              with_reducible rfl
             rotate_left
             ·simp only [Act.put, sA, sZ, sS, i64_w, i32_w]
              rfl
             refine done_ (done_of HT_.out (by kernel_rfl)) ?_
             have hnb90 := NB105_106.out
             have hnc90 := NB106_105.out
             obtain ⟨hcz91_0, hcz91_1, hcz91_2, hcz91_3, hcz91_4, hcz91_5, hcz91_6, hcz91_7, hfz91_0, hfz91_1, hfz91_2, hfz91_3, hfz91_4, hfz91_5, hfz91_6, hfz91_7⟩ := bc8 BK105.out
             try go_wp2
             go_roundg k2
             case measure => have := HK1.out; have := HK2.out; omega
             case rel => exact ⟨(y148), (wrap64 (x48_2 + 1)), rs_, H', ⟨by have := HK1.out; have := HK2.out; omega⟩, ⟨by (with_reducible repeat (first | apply Kd.N_alloc | apply Kd.N_drewN | apply Kd.N_drew)); exact HO150.out⟩, ⟨pR HO_10.out⟩, ⟨pR HO_46.out⟩, ⟨pB BK105.out⟩, ⟨pB BK106.out⟩, ⟨pL HB.out⟩⟩
           ·rw [if_neg c59] at H
            exact absurd H (by simp)
          ·rw [if_neg c56] at H
           exact absurd H (by simp)
         ·rw [if_neg c55] at H
          exact absurd H (by simp)
        ·rw [if_neg c54] at H
         have c54b0 : decide (x48_2 < (t134.length : Int)) = false := decide_eq_false c54
         clear c54
         replace H := Option.bind_eq_some_iff.mp H
         obtain ⟨⟨t164, t165⟩, A920, H⟩ := H
         replace H : (if t165 = true then ((value_Sym.f t164).bind fun bt166 => ((facts_fact.f (⟨#[100, 101, 102]⟩ : ByteArray) (([(⟨t102, t103, t104⟩ : Val), (⟨bt166.1, bt166.2.1, bt166.2.2⟩ : Val)] : List (Val)))).bind fun bt172 => (if x7_2.length < 3518437208883 then ((some (x7_2 ++ [(⟨bt172.1, bt172.2⟩ : Fact)] : List (Fact))).bind fun y176 => (if ((rd_T33 l0 a1).kind) = 4 then ((value_Sym.f t164).bind fun bt179 => ((facts_fact.f (⟨#[115, 111, 117, 114, 99, 101]⟩ : ByteArray) (([(⟨t102, t103, t104⟩ : Val), (⟨bt179.1, bt179.2.1, bt179.2.2⟩ : Val)] : List (Val)))).bind fun bt185 => (if y176.length < 3518437208883 then (some (y176 ++ [(⟨bt185.1, bt185.2⟩ : Fact)])) else (none)))) else (if ((rd_T33 l0 a1).kind) = 2 then (facts_one.j2 k2 y176 t134 t164 (((rd_T33 l0 a1).kind) == 2) t102 t103 t104) else (facts_one.j2 k2 y176 t134 t164 (((rd_T33 l0 a1).kind) == 3) t102 t103 t104)))) else (none)))) else (some x7_2)) = some r := H
         have A92 := am A920
         clear A920
         by_cases c93 : t165 = true
         ·subst c93
          have H1 : ((value_Sym.f t164).bind fun bt166 => ((facts_fact.f (⟨#[100, 101, 102]⟩ : ByteArray) (([(⟨t102, t103, t104⟩ : Val), (⟨bt166.1, bt166.2.1, bt166.2.2⟩ : Val)] : List (Val)))).bind fun bt172 => (if x7_2.length < 3518437208883 then ((some (x7_2 ++ [(⟨bt172.1, bt172.2⟩ : Fact)] : List (Fact))).bind fun y176 => (if ((rd_T33 l0 a1).kind) = 4 then ((value_Sym.f t164).bind fun bt179 => ((facts_fact.f (⟨#[115, 111, 117, 114, 99, 101]⟩ : ByteArray) (([(⟨t102, t103, t104⟩ : Val), (⟨bt179.1, bt179.2.1, bt179.2.2⟩ : Val)] : List (Val)))).bind fun bt185 => (if y176.length < 3518437208883 then (some (y176 ++ [(⟨bt185.1, bt185.2⟩ : Fact)])) else (none)))) else (if ((rd_T33 l0 a1).kind) = 2 then (facts_one.j2 k2 y176 t134 t164 (((rd_T33 l0 a1).kind) == 2) t102 t103 t104) else (facts_one.j2 k2 y176 t134 t164 (((rd_T33 l0 a1).kind) == 3) t102 t103 t104)))) else (none)))) = some r := by rw [if_pos rfl] at H; exact H
          clear H
          have H := H1
          clear H1
          replace H := Option.bind_eq_some_iff.mp H
          obtain ⟨⟨t166, t167, t168⟩, A940, H⟩ := H
          replace H : ((facts_fact.f (⟨#[100, 101, 102]⟩ : ByteArray) (([(⟨t102, t103, t104⟩ : Val), (⟨t166, t167, t168⟩ : Val)] : List (Val)))).bind fun bt172 => (if x7_2.length < 3518437208883 then ((some (x7_2 ++ [(⟨bt172.1, bt172.2⟩ : Fact)] : List (Fact))).bind fun y176 => (if ((rd_T33 l0 a1).kind) = 4 then ((value_Sym.f t164).bind fun bt179 => ((facts_fact.f (⟨#[115, 111, 117, 114, 99, 101]⟩ : ByteArray) (([(⟨t102, t103, t104⟩ : Val), (⟨bt179.1, bt179.2.1, bt179.2.2⟩ : Val)] : List (Val)))).bind fun bt185 => (if y176.length < 3518437208883 then (some (y176 ++ [(⟨bt185.1, bt185.2⟩ : Fact)])) else (none)))) else (if ((rd_T33 l0 a1).kind) = 2 then (facts_one.j2 k2 y176 t134 t164 (((rd_T33 l0 a1).kind) == 2) t102 t103 t104) else (facts_one.j2 k2 y176 t134 t164 (((rd_T33 l0 a1).kind) == 3) t102 t103 t104)))) else (none))) = some r := H
          have A94 := am A940
          clear A940
          obtain ⟨y169, hy169⟩ : ∃ y_ : List (Val), y_ = (([(⟨t102, t103, t104⟩ : Val), (⟨t166, t167, t168⟩ : Val)] : List (Val))) := ⟨_, rfl⟩
          replace H : ((facts_fact.f (⟨#[100, 101, 102]⟩ : ByteArray) y169).bind fun bt172 => (if x7_2.length < 3518437208883 then ((some (x7_2 ++ [(⟨bt172.1, bt172.2⟩ : Fact)] : List (Fact))).bind fun y176 => (if ((rd_T33 l0 a1).kind) = 4 then ((value_Sym.f t164).bind fun bt179 => ((facts_fact.f (⟨#[115, 111, 117, 114, 99, 101]⟩ : ByteArray) (([(⟨t102, t103, t104⟩ : Val), (⟨bt179.1, bt179.2.1, bt179.2.2⟩ : Val)] : List (Val)))).bind fun bt185 => (if y176.length < 3518437208883 then (some (y176 ++ [(⟨bt185.1, bt185.2⟩ : Fact)])) else (none)))) else (if ((rd_T33 l0 a1).kind) = 2 then (facts_one.j2 k2 y176 t134 t164 (((rd_T33 l0 a1).kind) == 2) t102 t103 t104) else (facts_one.j2 k2 y176 t134 t164 (((rd_T33 l0 a1).kind) == 3) t102 t103 t104)))) else (none))) = some r := by first | (rw [hy169]; with_reducible exact H) | (have H2_ := (Option.bind_some _ _).symm.trans H; rw [hy169]; with_reducible exact H2_) | (have H2_ := (Option.bind_some _ _).symm.trans H; with_reducible exact H2_) | with_reducible exact H | (rw [hy169]; exact H) | exact H
          have Ny169 := am hy169
          clear hy169
          replace H := Option.bind_eq_some_iff.mp H
          obtain ⟨⟨t172, t173⟩, A950, H⟩ := H
          replace H : (if x7_2.length < 3518437208883 then ((some (x7_2 ++ [(⟨t172, t173⟩ : Fact)] : List (Fact))).bind fun y176 => (if ((rd_T33 l0 a1).kind) = 4 then ((value_Sym.f t164).bind fun bt179 => ((facts_fact.f (⟨#[115, 111, 117, 114, 99, 101]⟩ : ByteArray) (([(⟨t102, t103, t104⟩ : Val), (⟨bt179.1, bt179.2.1, bt179.2.2⟩ : Val)] : List (Val)))).bind fun bt185 => (if y176.length < 3518437208883 then (some (y176 ++ [(⟨bt185.1, bt185.2⟩ : Fact)])) else (none)))) else (if ((rd_T33 l0 a1).kind) = 2 then (facts_one.j2 k2 y176 t134 t164 (((rd_T33 l0 a1).kind) == 2) t102 t103 t104) else (facts_one.j2 k2 y176 t134 t164 (((rd_T33 l0 a1).kind) == 3) t102 t103 t104)))) else (none)) = some r := H
          have A95 := am A950
          clear A950
          by_cases c96 : x7_2.length < 3518437208883
          ·rw [if_pos c96] at H
           have LMc96 := am c96
           clear c96
           obtain ⟨y176, hy176⟩ : ∃ y_ : List (Fact), y_ = (x7_2 ++ [(⟨t172, t173⟩ : Fact)]) := ⟨_, rfl⟩
           replace H : (if ((rd_T33 l0 a1).kind) = 4 then ((value_Sym.f t164).bind fun bt179 => ((facts_fact.f (⟨#[115, 111, 117, 114, 99, 101]⟩ : ByteArray) (([(⟨t102, t103, t104⟩ : Val), (⟨bt179.1, bt179.2.1, bt179.2.2⟩ : Val)] : List (Val)))).bind fun bt185 => (if y176.length < 3518437208883 then (some (y176 ++ [(⟨bt185.1, bt185.2⟩ : Fact)])) else (none)))) else (if ((rd_T33 l0 a1).kind) = 2 then (facts_one.j2 k2 y176 t134 t164 (((rd_T33 l0 a1).kind) == 2) t102 t103 t104) else (facts_one.j2 k2 y176 t134 t164 (((rd_T33 l0 a1).kind) == 3) t102 t103 t104))) = some r := by first | (rw [hy176]; with_reducible exact H) | (have H2_ := (Option.bind_some _ _).symm.trans H; rw [hy176]; with_reducible exact H2_) | (have H2_ := (Option.bind_some _ _).symm.trans H; with_reducible exact H2_) | with_reducible exact H | (rw [hy176]; exact H) | exact H
           have Ny176 := am hy176
           clear hy176
           by_cases c97 : ((rd_T33 l0 a1).kind) = 4
           ·rw [if_pos c97] at H
            have c97b0 : (((rd_T33 l0 a1).kind) == 4) = true := beq_iff_eq.mpr c97
            have c97b1 : (((rd_T33 l0 a1).kind) != 4) = false := bne_eq_false_iff_eq.mpr c97
            clear c97
            replace H := Option.bind_eq_some_iff.mp H
            obtain ⟨⟨t179, t180, t181⟩, A980, H⟩ := H
            replace H : ((facts_fact.f (⟨#[115, 111, 117, 114, 99, 101]⟩ : ByteArray) (([(⟨t102, t103, t104⟩ : Val), (⟨t179, t180, t181⟩ : Val)] : List (Val)))).bind fun bt185 => (if y176.length < 3518437208883 then (some (y176 ++ [(⟨bt185.1, bt185.2⟩ : Fact)])) else (none))) = some r := H
            have A98 := am A980
            clear A980
            obtain ⟨y182, hy182⟩ : ∃ y_ : List (Val), y_ = (([(⟨t102, t103, t104⟩ : Val), (⟨t179, t180, t181⟩ : Val)] : List (Val))) := ⟨_, rfl⟩
            replace H : ((facts_fact.f (⟨#[115, 111, 117, 114, 99, 101]⟩ : ByteArray) y182).bind fun bt185 => (if y176.length < 3518437208883 then (some (y176 ++ [(⟨bt185.1, bt185.2⟩ : Fact)])) else (none))) = some r := by first | (rw [hy182]; with_reducible exact H) | (have H2_ := (Option.bind_some _ _).symm.trans H; rw [hy182]; with_reducible exact H2_) | (have H2_ := (Option.bind_some _ _).symm.trans H; with_reducible exact H2_) | with_reducible exact H | (rw [hy182]; exact H) | exact H
            have Ny182 := am hy182
            clear hy182
            replace H := Option.bind_eq_some_iff.mp H
            obtain ⟨⟨t185, t186⟩, A990, H⟩ := H
            replace H : (if y176.length < 3518437208883 then (some (y176 ++ [(⟨t185, t186⟩ : Fact)])) else (none)) = some r := H
            have A99 := am A990
            clear A990
            by_cases c100 : y176.length < 3518437208883
            ·rw [if_pos c100] at H
             have LMc100 := am c100
             clear c100
             obtain ⟨y189, hy189⟩ : ∃ y_ : List (Fact), y_ = (y176 ++ [(⟨t185, t186⟩ : Fact)]) := ⟨_, rfl⟩
             replace H : (some y189) = some r := by first | (rw [hy189]; with_reducible exact H) | (have H2_ := (Option.bind_some _ _).symm.trans H; rw [hy189]; with_reducible exact H2_) | (have H2_ := (Option.bind_some _ _).symm.trans H; with_reducible exact H2_) | with_reducible exact H | (rw [hy189]; exact H) | exact H
             have Ny189 := am hy189
             clear hy189
             obtain rfl := Option.some.inj H
             have hnb101 := NB105_106.out
             have hnc101 := NB106_105.out
             obtain ⟨hcz102_0, hcz102_1, hcz102_2, hcz102_3, hcz102_4, hcz102_5, hcz102_6, hcz102_7, hfz102_0, hfz102_1, hfz102_2, hfz102_3, hfz102_4, hfz102_5, hfz102_6, hfz102_7⟩ := bc8 BK105.out
             try go_wp2_with (first | ((with_reducible refine gate_callee (f := 12) rfl ?_); refine goesL_ (some 74) rfl rfl Try.func12 (by kernel_rfl) rfl #[.agg #[.int .i64 ((rd_T33 l0 a1).kind), .string ((rd_T33 l0 a1).x), .string ((rd_T33 l0 a1).y), .string ((rd_T33 l0 a1).z), .string ((rd_T33 l0 a1).op), .int .i64 ((rd_T33 l0 a1).n), .int .i64 ((rd_T33 l0 a1).a), .int .i64 ((rd_T33 l0 a1).b)]] rfl (by (try simp only [List.map_toArray, List.map_cons, List.map_nil]); first | done | rfl | (simp only [List.length_drop, List.length_take]; rfl)) ?_; (with_reducible refine (cfg_Def.calls ((rd_T33 l0 a1).kind) ((rd_T33 l0 a1).x) ((rd_T33 l0 a1).y) ((rd_T33 l0 a1).z) ((rd_T33 l0 a1).op) ((rd_T33 l0 a1).n) ((rd_T33 l0 a1).a) ((rd_T33 l0 a1).b) t164 true _ A92.out).mono ?_); rintro e w103 ⟨rfl, hb⟩; refine ⟨_, rfl, ?_⟩; replace HO_7 := am (Kd.N_below (by (with_reducible repeat (first | apply Kd.N_alloc | apply Kd.N_drewN | apply Kd.N_drew)); exact HO_7.out) hb); replace HO_10 := am (Rb_ HO_10.out hb); replace HO_46 := am (Rb_ HO_46.out hb); replace BK105 := am (bb_ BK105.out hb); replace BK106 := am (bb_ BK106.out hb); replace HB := am (bs_ HB.out hb); (try clear hb); (try clear hb2); (try clear hk); (try clear hi)))
             replace HO_7 := am (Kd.N_drew HO_7.out)
             replace HO_10 := am (Kd.R_drew HO_10.out)
             replace HO_46 := am (Kd.R_drew HO_46.out)
             replace BK105 := am (blk_drew BK105.out)
             replace BK106 := am (blk_drew BK106.out)
             replace HB := am (below_drew1 HB.out)
             refine start_ (n := 9) (S := fun w' => w'.cell? ⟨gb106, 0, none⟩ = some (.bool t102) ∧ w'.cell? ⟨gb106, 1, none⟩ = some (.string t103) ∧ w'.cell? ⟨gb106, 2, none⟩ = some (.int .i64 t104)) (ds := []) (bl 9 0) (by kernel_rfl) rfl rfl ⟨(blk_cell BK106.out 0).trans rfl, (blk_cell BK106.out 1).trans rfl, (blk_cell BK106.out 2).trans rfl⟩ (fun hHeld => ?_); refine with_tabW facts_one.tab19 facts_one.bits19 (fun HT_ HW_ => ?_)
             generalize w103.drew = w104 at HO_7 HO_10 HO_46 BK105 BK106 HB hHeld ⊢
             refine pure_ (i := 0) (N := some 80) (v := ?_) (a' := ?_) (bl 9 1) rfl rfl (any_of HT_.out (by kernel_rfl)) (fun _ _ _ h => h) (Or.inl ⟨by rfl, ?_⟩) ?_ ?_
             rotate_left
             ·intro w'
              go_simp
              with_reducible rfl
             rotate_left
             ·simp only [Act.put, sA, sZ, sS, i64_w, i32_w]
              rfl
             refine pure_ (i := 2) (N := some 82) (v := ?_) (a' := ?_) (bl 9 5) rfl rfl (any_of HT_.out (by kernel_rfl)) (fun _ _ _ h => h) (Or.inl ⟨by rfl, ?_⟩) ?_ ?_
             rotate_left
             ·intro w'
              go_simp
              with_reducible rfl
             rotate_left
             ·simp only [Act.put, sA, sZ, sS, i64_w, i32_w]
              rfl
             refine take_ (i := 1) (N := some 81) (v := ?_) (a' := ?_) (bl 9 7) rfl rfl (take_ofW HT_.out HW_.out (by kernel_rfl)) (fun _ _ _ h => h) (Or.inl ⟨by rfl, ?_⟩) hHeld ?_ ?_
             rotate_left
             ·rintro w' ⟨s0, s1, s2⟩
              go_simp
              with_reducible rfl
             rotate_left
             ·simp only [Act.put, sA, sZ, sS, i64_w, i32_w]
              rfl
             refine one_ (i := 3) (N := some 83) (bl 9 15) rfl rfl (one_of HT_.out (by kernel_rfl)) (by decide) (fun K hK => ?_)
             refine goes_ Try.func32 (by kernel_rfl) rfl #[.string t164] (by rfl) rfl rfl (by (try simp only [List.map_toArray, List.map_cons, List.map_nil]); first | done | rfl | (simp only [List.length_drop, List.length_take]; rfl)) ?_
             with_reducible refine (value_Sym.calls t164 t166 t167 t168 _ A94.out).mono ?_
             rintro e w105 ⟨rfl, hb⟩
             refine ⟨_, rfl, ?_⟩
             replace HO_7 := am (Kd.N_below (by (with_reducible repeat (first | apply Kd.N_alloc | apply Kd.N_drewN | apply Kd.N_drew)); exact HO_7.out) hb)
             replace HO_10 := am (Rb_ HO_10.out hb)
             replace HO_46 := am (Rb_ HO_46.out hb)
             replace BK105 := am (bb_ BK105.out hb)
             replace BK106 := am (bb_ BK106.out hb)
             replace HB := am (bs_ HB.out hb)
             (try clear hb)
             (try clear hb2)
             (try clear hk)
             (try clear hi)
             refine hK.out _ _ ⟨(blk_cell BK106.out 0).trans rfl, (blk_cell BK106.out 1).trans rfl, (blk_cell BK106.out 2).trans rfl⟩ (fun hHeld => ?_)
             clear hK K
             refine norm_ (a' := ?_) ?_ ?_
             rotate_left
             ·show Act.put _ (some 83) _ = _
              simp only [Act.put, sA, sZ, sS, i64_w, i32_w]
              rfl
             refine one_ (i := 4) (N := some 84) (bl 9 31) rfl rfl (one_of HT_.out (by kernel_rfl)) (by decide) (fun K hK => ?_)
             refine Kd.R_lit_step k28 _ 28 ?hg (N := 84) ?hd (xs := ([(⟨t102, t103, t104⟩ : Val), (⟨t166, t167, t168⟩ : Val)] : List (Val))) (inner := [.bool t102, .string t103, .int .i64 t104, .bool t166, .string t167, .int .i64 t168]) (ok := fun _ => True) (okp := fun _ => True) ?hr ?hp (fun _ hk => hk) trivial (Below.refl _ _) (Nat.le_refl _) (by simp) ?_; (case hd => rfl); (case hg => rfl); (case hr => first | (go_simp; done) | (go_simp; rfl)); (case hp => exact (Reps.c3 (show Kd.M k28 _ _ _ (⟨t102, t103, t104⟩ : Val) [.bool t102, .string t103, .int .i64 t104] from (k28_mkM _ _ _ (⟨t102, t103, t104⟩ : Val) )) (Reps.c3 (show Kd.M k28 _ _ _ (⟨t166, t167, t168⟩ : Val) [.bool t166, .string t167, .int .i64 t168] from (k28_mkM _ _ _ (⟨t166, t167, t168⟩ : Val) )) (Reps.none _ _))))
             intro v170 w106 ho107 hb hg_ hnew_
             clear hg_ hnew_
             (first | rw [← Ny169.out] at ho107 | (simp only [Int.reduceToNat] at ho107; rw [← Ny169.out] at ho107))
             replace HO_7 := am (Kd.N_elder' (by (with_reducible repeat (first | apply Kd.N_alloc | apply Kd.N_drewN | apply Kd.N_drew)); exact HO_7.out) (Kd.R_base ho107) hb)
             replace HO_10 := am (Rb_ HO_10.out hb)
             replace HO_46 := am (Rb_ HO_46.out hb)
             have HO171 := am (Kd.R_lower (Kd.R_newB (Kd.R_newM (M := fun k_ => (w.heap.size ≤ k_)) ho107 (below_size (pL HB.out)) (fun k_ h_ => h_)) (g := gb106) (o := .cells #[.bool t102, .string t103, .int .i64 t104] 28 (0, 0)) (pB BK106.out)) (below_size (pL HB.out)))
             replace BK105 := am (bb_ BK105.out hb)
             replace BK106 := am (bb_ BK106.out hb)
             replace HB := am (bs_ HB.out hb)
             clear hb ho107
             obtain ⟨Ao108, co108, eo108⟩ := Kd.R_slice HO171.out
             (first | subst eo108 | (injection eo108 with f1_ f2_ f3_; have f4_ := f1_.symm; have f5_ := f3_.symm; clear f1_ f2_ f3_; subst f4_; subst f5_))
             refine hK.out _ _ ⟨(blk_cell BK106.out 0).trans rfl, (blk_cell BK106.out 1).trans rfl, (blk_cell BK106.out 2).trans rfl⟩ (fun hHeld => ?_)
             clear hK K
             refine norm_ (a' := ?_) ?_ ?_
             rotate_left
             ·show Act.put _ (some 84) _ = _
              simp only [Act.put, sA, sZ, sS, i64_w, i32_w]
              rfl
             refine one_ (i := 5) (N := some 85) (bl 9 63) rfl rfl (one_of HT_.out (by kernel_rfl)) (by decide) (fun K hK => ?_)
             refine goes_ Try.func20 (by kernel_rfl) rfl #[.string (⟨#[100, 101, 102]⟩ : ByteArray), .slice Ao108 y169.length co108] (by rfl) rfl rfl (by (try simp only [List.map_toArray, List.map_cons, List.map_nil]); first | done | rfl | (simp only [List.length_drop, List.length_take]; rfl)) ?_
             with_reducible refine (facts_fact.calls (⟨#[100, 101, 102]⟩ : ByteArray) (fun k_ => some k_ = (.slice Ao108 y169.length co108 : Value).ownBlock) _ _ y169 t172 t173 _ ?side1 A95.out).mono ?_
             (case side1 => exact Kd.R_V (Kd.R_tight rfl (Kd.R_types (Kd.R_apart' (Kd.R_apart' (Kd.R_apart' (HO171.out) (Kd.N_typed HO_7.out) (by decide)) (Kd.R_typed HO_10.out) (by decide)) (Kd.R_typed HO_46.out) (by decide)) BK105.out (by decide))))
             rintro e w109 ⟨v174, rfl, ho0, hb⟩
             refine ⟨_, rfl, ?_⟩
             have HO175 := am (Kd.V_lower (Kd.V_mono (ok' := fun k_ => (w.heap.size ≤ k_) ∧ some k_ ≠ (u7 : Value).ownBlock ∧ some k_ ≠ (.slice Ao53 t134.length co53 : Value).ownBlock ∧ some k_ ≠ (.slice Ao53 t134.length co53 : Value).ownBlock ∧ k_ ≠ gb105 ∧ k_ ≠ gb106) ho0 (fun k_ hk_ => ⟨Or.elim hk_ (fun hs_ => ((Kd.R_types (Kd.R_apart' (Kd.R_apart' (Kd.R_apart' (HO171.out) (Kd.N_typed HO_7.out) (by decide)) (Kd.R_typed HO_10.out) (by decide)) (Kd.R_typed HO_46.out) (by decide)) BK105.out (by decide)).1 k_ hs_.symm).1.1.1.1.1.1) (fun hn_ => (Nat.le_trans (below_size (pL HB.out)) hn_)), Or.elim hk_ (fun hs_ => ((Kd.R_types (Kd.R_apart' (Kd.R_apart' (Kd.R_apart' (HO171.out) (Kd.N_typed HO_7.out) (by decide)) (Kd.R_typed HO_10.out) (by decide)) (Kd.R_typed HO_46.out) (by decide)) BK105.out (by decide)).1 k_ hs_.symm).1.1.1.2) (fun hn_ => (Kd.fresh' (Kd.N_lt (by (with_reducible repeat (first | apply Kd.N_alloc | apply Kd.N_drewN | apply Kd.N_drew)); exact HO_7.out)) k_ hn_)), Or.elim hk_ (fun hs_ => ((Kd.R_types (Kd.R_apart' (Kd.R_apart' (Kd.R_apart' (HO171.out) (Kd.N_typed HO_7.out) (by decide)) (Kd.R_typed HO_10.out) (by decide)) (Kd.R_typed HO_46.out) (by decide)) BK105.out (by decide)).1 k_ hs_.symm).1.1.2) (fun hn_ => (Kd.fresh' (Kd.R_lt (pR HO_10.out)) k_ hn_)), Or.elim hk_ (fun hs_ => ((Kd.R_types (Kd.R_apart' (Kd.R_apart' (Kd.R_apart' (HO171.out) (Kd.N_typed HO_7.out) (by decide)) (Kd.R_typed HO_10.out) (by decide)) (Kd.R_typed HO_46.out) (by decide)) BK105.out (by decide)).1 k_ hs_.symm).1.2) (fun hn_ => (Kd.fresh' (Kd.R_lt (pR HO_46.out)) k_ hn_)), Or.elim hk_ (fun hs_ => ((Kd.R_types (Kd.R_apart' (Kd.R_apart' (Kd.R_apart' (HO171.out) (Kd.N_typed HO_7.out) (by decide)) (Kd.R_typed HO_10.out) (by decide)) (Kd.R_typed HO_46.out) (by decide)) BK105.out (by decide)).1 k_ hs_.symm).2) (fun hn_ => (Kd.freshB (g := gb105) (pB BK105.out) k_ hn_)), Or.elim hk_ (fun hs_ => ((Kd.R_types (Kd.R_apart' (Kd.R_apart' (Kd.R_apart' (HO171.out) (Kd.N_typed HO_7.out) (by decide)) (Kd.R_typed HO_10.out) (by decide)) (Kd.R_typed HO_46.out) (by decide)) BK105.out (by decide)).1 k_ hs_.symm).1.1.1.1.2) (fun hn_ => (Kd.freshB (g := gb106) (pB BK106.out) k_ hn_))⟩)) (below_size (pL HB.out)))
             replace HO_7 := am (Kd.N_below (by (with_reducible repeat (first | apply Kd.N_alloc | apply Kd.N_drewN | apply Kd.N_drew)); exact HO_7.out) hb)
             replace HO_10 := am (Rb_ HO_10.out hb)
             replace HO_46 := am (Rb_ HO_46.out hb)
             replace HO171 := am (Rb_ HO171.out hb)
             replace BK105 := am (bb_ BK105.out hb)
             replace BK106 := am (bb_ BK106.out hb)
             replace HB := am (bs_ HB.out hb)
             (try clear hb)
             (try clear hb2)
             (try clear hk)
             (try clear hi)
             (try clear ho0)
             obtain ⟨Ao111, co111, eo111⟩ := Kd.V_slice HO175.out
             (first | subst eo111 | (injection eo111 with f1_ f2_ f3_; have f4_ := f1_.symm; have f5_ := f3_.symm; clear f1_ f2_ f3_; subst f4_; subst f5_))
             refine hK.out _ _ ⟨(blk_cell BK106.out 0).trans rfl, (blk_cell BK106.out 1).trans rfl, (blk_cell BK106.out 2).trans rfl⟩ (fun hHeld => ?_)
             clear hK K
             refine norm_ (a' := ?_) ?_ ?_
             rotate_left
             ·show Act.put _ (some 85) _ = _
              simp only [Act.put, sA, sZ, sS, i64_w, i32_w]
              rfl
             refine one_ (i := 6) (N := some 86) (bl 9 127) rfl rfl (one_of HT_.out (by kernel_rfl)) (by decide) (fun K hK => ?_)
             refine value_ (w1 := ?_) (v := ?_) (by rfl) rfl ?_ ?_
             rotate_left 2
             ·go_simp
              constructor
              ·rfl
              ·rfl
             refine hK.out _ _ ⟨(blk_cell (blk_alloc BK106.out _) 0).trans rfl, (blk_cell (blk_alloc BK106.out _) 1).trans rfl, (blk_cell (blk_alloc BK106.out _) 2).trans rfl⟩ (fun hHeld => ?_)
             clear hK K
             refine norm_ (a' := ?_) ?_ ?_
             rotate_left
             ·show Act.put _ (some 86) _ = _
              simp only [Act.put, sA, sZ, sS, i64_w, i32_w]
              rfl
             refine one_ (i := 7) (N := some 87) (bl 9 255) rfl rfl (one_of HT_.out (by kernel_rfl)) (by decide) (fun K hK => ?_)
             refine Kd.N_append_step k44 (w0 := w) w.heap.size (by rfl) (.tmp 80) (.tmp 86) 24 44 (.agg #[(.string ⟨#[]⟩), (.slice none 0 0)]) 40 rfl Try.underlying24 info44 rfl (by decide) (by omega) u7 x7_2 (⟨t172, t173⟩ : Fact) [.string t172, .slice Ao111 t173.length co111] (fun k_ => (w.heap.size ≤ k_) ∧ some k_ ≠ (.slice Ao53 t134.length co53 : Value).ownBlock ∧ some k_ ≠ (.slice Ao53 t134.length co53 : Value).ownBlock ∧ k_ ≠ gb105 ∧ k_ ≠ gb106) (fun k_ => ((fun k_ => (w.heap.size ≤ k_) ∧ some k_ ≠ (.slice Ao53 t134.length co53 : Value).ownBlock ∧ some k_ ≠ (.slice Ao53 t134.length co53 : Value).ownBlock ∧ k_ ≠ gb105 ∧ k_ ≠ gb106)) k_ ∧ some k_ ≠ (u7 : Value).ownBlock) rfl rfl ?aP (fun _ hk => hk) ?aF ?aO ?aB ?aS ?aL ?_
             (case aP => exact (k44_mkF _ _ (⟨t172, t173⟩ : Fact) (Kd.V_reads' (Kd.V_mono (ok' := (fun k_ => ((fun k_ => (w.heap.size ≤ k_) ∧ some k_ ≠ (.slice Ao53 t134.length co53 : Value).ownBlock ∧ some k_ ≠ (.slice Ao53 t134.length co53 : Value).ownBlock ∧ k_ ≠ gb105 ∧ k_ ≠ gb106)) k_ ∧ some k_ ≠ (u7 : Value).ownBlock)) (HO175.out) (fun k_ hk => ⟨⟨hk.1, ⟨hk.2.2.1, ⟨hk.2.2.2.1, ⟨hk.2.2.2.2.1, hk.2.2.2.2.2⟩⟩⟩⟩, hk.2.1⟩))).2.1 (Kd.V_F (Kd.V_mono (ok' := (fun k_ => ((fun k_ => (w.heap.size ≤ k_) ∧ some k_ ≠ (.slice Ao53 t134.length co53 : Value).ownBlock ∧ some k_ ≠ (.slice Ao53 t134.length co53 : Value).ownBlock ∧ k_ ≠ gb105 ∧ k_ ≠ gb106)) k_ ∧ some k_ ≠ (u7 : Value).ownBlock)) (HO175.out) (fun k_ hk => ⟨⟨hk.1, ⟨hk.2.2.1, ⟨hk.2.2.2.1, ⟨hk.2.2.2.2.1, hk.2.2.2.2.2⟩⟩⟩⟩, hk.2.1⟩)))))
             (case aB => exact (pL HB.out))
             (case aF => exact (fun k_ hk => ⟨(Nat.le_trans (below_size (pL HB.out)) hk), Kd.fresh' (Kd.R_lt (pR HO_10.out)) k_ hk, Kd.fresh' (Kd.R_lt (pR HO_46.out)) k_ hk, Kd.freshB (g := gb105) (pB BK105.out) k_ hk, Kd.freshB (g := gb106) (pB BK106.out) k_ hk⟩))
             (case aO => exact (by (with_reducible repeat (first | apply Kd.N_alloc | apply Kd.N_drewN | apply Kd.N_drew)); exact Kd.N_mono HO_7.out (fun _ hk => ⟨hk.1.1, ⟨hk.1.2.1, ⟨hk.1.2.2.1, ⟨hk.1.2.2.2.1, hk.1.2.2.2.2⟩⟩⟩⟩)))
             (case aS => exact (below_size (pL HB.out)))
             (case aL => have := LMc96.out; omega)
             intro v177 w110 ho hb hg hat
             rw [← Ny176.out] at ho
             replace HO_10 := am (Kd.R_over' (pR HO_10.out) (Kd.N_typed (by (with_reducible repeat (first | apply Kd.N_alloc | apply Kd.N_drewN | apply Kd.N_drew)); exact HO_7.out)) (by decide) hg)
             replace HO_46 := am (Kd.R_over' (pR HO_46.out) (Kd.N_typed (by (with_reducible repeat (first | apply Kd.N_alloc | apply Kd.N_drewN | apply Kd.N_drew)); exact HO_7.out)) (by decide) hg)
             replace BK105 := am (blk_grown (pB BK105.out) hg (Kd.N_ne HO_7.out BK105.out (by decide)))
             replace BK106 := am (blk_grown (pB BK106.out) hg (Kd.N_ne HO_7.out BK106.out (by decide)))
             replace HO171 := am (Kd.R_over' (pR HO171.out) (Kd.N_typed (by (with_reducible repeat (first | apply Kd.N_alloc | apply Kd.N_drewN | apply Kd.N_drew)); exact HO_7.out)) (by decide) hg)
             replace HO175 := am (Kd.V_afterv (ok := (fun k_ => (w.heap.size ≤ k_) ∧ some k_ ≠ (.slice Ao53 t134.length co53 : Value).ownBlock ∧ some k_ ≠ (.slice Ao53 t134.length co53 : Value).ownBlock ∧ k_ ≠ gb105 ∧ k_ ≠ gb106)) (by (with_reducible repeat (first | apply Va | apply Vn | apply Vd)); exact Kd.V_mono HO175.out (fun _ hk => ⟨⟨hk.1, ⟨hk.2.2.1, ⟨hk.2.2.2.1, ⟨hk.2.2.2.2.1, hk.2.2.2.2.2⟩⟩⟩⟩, hk.2.1⟩)) hg hat)
             replace HB := am (hb)
             have HO178 := am (ho)
             clear HO_7
             clear ho hb hg hat
             refine hK.out _ _ ⟨(blk_cell BK106.out 0).trans rfl, (blk_cell BK106.out 1).trans rfl, (blk_cell BK106.out 2).trans rfl⟩ (fun hHeld => ?_)
             clear hK K
             refine norm_ (a' := ?_) ?_ ?_
             rotate_left
             ·show Act.put _ (some 87) _ = _
              simp only [Act.put, sA, sZ, sS, i64_w, i32_w]
              rfl
             refine pure_ (i := 8) (N := some 7) (v := ?_) (a' := ?_) (bl 9 511) rfl rfl (any_of HT_.out (by kernel_rfl)) (fun _ _ _ h => h) (Or.inl ⟨by rfl, ?_⟩) ?_ ?_
             rotate_left
             ·intro w'
              go_simp
              with_reducible rfl
             rotate_left
             ·simp only [Act.put, sA, sZ, sS, i64_w, i32_w]
              rfl
             refine done_ (done_of HT_.out (by kernel_rfl)) ?_
             obtain ⟨hcz112_0, hcz112_1, hcz112_2, hcz112_3, hcz112_4, hcz112_5, hcz112_6, hcz112_7, hfz112_0, hfz112_1, hfz112_2, hfz112_3, hfz112_4, hfz112_5, hfz112_6, hfz112_7⟩ := bc8 BK105.out
             try go_wp2
             replace HO_10 := am (Kd.R_drew HO_10.out)
             replace HO_46 := am (Kd.R_drew HO_46.out)
             replace HO171 := am (Kd.R_drew HO171.out)
             replace HO175 := am (Kd.V_drew HO175.out)
             replace HO178 := am (Kd.N_drew HO178.out)
             replace BK105 := am (blk_drew BK105.out)
             replace BK106 := am (blk_drew BK106.out)
             replace HB := am (below_drew1 HB.out)
             refine start_ (n := 9) (S := fun w' => w'.cell? ⟨gb106, 0, none⟩ = some (.bool t102) ∧ w'.cell? ⟨gb106, 1, none⟩ = some (.string t103) ∧ w'.cell? ⟨gb106, 2, none⟩ = some (.int .i64 t104)) (ds := []) (bl 9 0) (by kernel_rfl) rfl rfl ⟨(blk_cell BK106.out 0).trans rfl, (blk_cell BK106.out 1).trans rfl, (blk_cell BK106.out 2).trans rfl⟩ (fun hHeld => ?_); refine with_tabW facts_one.tab22 facts_one.bits22 (fun HT_ HW_ => ?_)
             generalize w110.drew = w113 at HO_10 HO_46 HO171 HO175 HO178 BK105 BK106 HB hHeld ⊢
             refine pure_ (i := 0) (N := some 92) (v := ?_) (a' := ?_) (bl 9 1) rfl rfl (any_of HT_.out (by kernel_rfl)) (fun _ _ _ h => h) (Or.inl ⟨by rfl, ?_⟩) ?_ ?_
             rotate_left
             ·intro w'
              go_simp
              with_reducible rfl
             rotate_left
             ·simp only [Act.put, sA, sZ, sS, i64_w, i32_w]
              rfl
             refine pure_ (i := 2) (N := some 94) (v := ?_) (a' := ?_) (bl 9 5) rfl rfl (any_of HT_.out (by kernel_rfl)) (fun _ _ _ h => h) (Or.inl ⟨by rfl, ?_⟩) ?_ ?_
             rotate_left
             ·intro w'
              go_simp
              with_reducible rfl
             rotate_left
             ·simp only [Act.put, sA, sZ, sS, i64_w, i32_w]
              rfl
             refine take_ (i := 1) (N := some 93) (v := ?_) (a' := ?_) (bl 9 7) rfl rfl (take_ofW HT_.out HW_.out (by kernel_rfl)) (fun _ _ _ h => h) (Or.inl ⟨by rfl, ?_⟩) hHeld ?_ ?_
             rotate_left
             ·rintro w' ⟨s0, s1, s2⟩
              go_simp
              with_reducible rfl
             rotate_left
             ·simp only [Act.put, sA, sZ, sS, i64_w, i32_w]
              rfl
             refine one_ (i := 3) (N := some 95) (bl 9 15) rfl rfl (one_of HT_.out (by kernel_rfl)) (by decide) (fun K hK => ?_)
             refine goes_ Try.func32 (by kernel_rfl) rfl #[.string t164] (by rfl) rfl rfl (by (try simp only [List.map_toArray, List.map_cons, List.map_nil]); first | done | rfl | (simp only [List.length_drop, List.length_take]; rfl)) ?_
             with_reducible refine (value_Sym.calls t164 t179 t180 t181 _ A98.out).mono ?_
             rintro e w114 ⟨rfl, hb⟩
             refine ⟨_, rfl, ?_⟩
             replace HO_10 := am (Rb_ HO_10.out hb)
             replace HO_46 := am (Rb_ HO_46.out hb)
             replace HO171 := am (Rb_ HO171.out hb)
             replace HO175 := am (Kd.V_below (pV HO175.out) hb)
             replace HO178 := am (Kd.N_below (by (with_reducible repeat (first | apply Kd.N_alloc | apply Kd.N_drewN | apply Kd.N_drew)); exact HO178.out) hb)
             replace BK105 := am (bb_ BK105.out hb)
             replace BK106 := am (bb_ BK106.out hb)
             replace HB := am (bs_ HB.out hb)
             (try clear hb)
             (try clear hb2)
             (try clear hk)
             (try clear hi)
             refine hK.out _ _ ⟨(blk_cell BK106.out 0).trans rfl, (blk_cell BK106.out 1).trans rfl, (blk_cell BK106.out 2).trans rfl⟩ (fun hHeld => ?_)
             clear hK K
             refine norm_ (a' := ?_) ?_ ?_
             rotate_left
             ·show Act.put _ (some 95) _ = _
              simp only [Act.put, sA, sZ, sS, i64_w, i32_w]
              rfl
             refine one_ (i := 4) (N := some 96) (bl 9 31) rfl rfl (one_of HT_.out (by kernel_rfl)) (by decide) (fun K hK => ?_)
             refine Kd.R_lit_step k28 _ 28 ?hg (N := 96) ?hd (xs := ([(⟨t102, t103, t104⟩ : Val), (⟨t179, t180, t181⟩ : Val)] : List (Val))) (inner := [.bool t102, .string t103, .int .i64 t104, .bool t179, .string t180, .int .i64 t181]) (ok := fun _ => True) (okp := fun _ => True) ?hr ?hp (fun _ hk => hk) trivial (Below.refl _ _) (Nat.le_refl _) (by simp) ?_; (case hd => rfl); (case hg => rfl); (case hr => first | (go_simp; done) | (go_simp; rfl)); (case hp => exact (Reps.c3 (show Kd.M k28 _ _ _ (⟨t102, t103, t104⟩ : Val) [.bool t102, .string t103, .int .i64 t104] from (k28_mkM _ _ _ (⟨t102, t103, t104⟩ : Val) )) (Reps.c3 (show Kd.M k28 _ _ _ (⟨t179, t180, t181⟩ : Val) [.bool t179, .string t180, .int .i64 t181] from (k28_mkM _ _ _ (⟨t179, t180, t181⟩ : Val) )) (Reps.none _ _))))
             intro v183 w115 ho116 hb hg_ hnew_
             clear hg_ hnew_
             (first | rw [← Ny182.out] at ho116 | (simp only [Int.reduceToNat] at ho116; rw [← Ny182.out] at ho116))
             replace HO_10 := am (Rb_ HO_10.out hb)
             replace HO_46 := am (Rb_ HO_46.out hb)
             replace HO175 := am (Kd.V_elder' (pV HO175.out) (Kd.R_base ho116) hb)
             replace HO178 := am (Kd.N_elder' (by (with_reducible repeat (first | apply Kd.N_alloc | apply Kd.N_drewN | apply Kd.N_drew)); exact HO178.out) (Kd.R_base ho116) hb)
             have HO184 := am (Kd.R_lower (Kd.R_newB (Kd.R_new' (Kd.R_newM (M := fun k_ => (w.heap.size ≤ k_)) ho116 (below_size (pL HB.out)) (fun k_ h_ => h_)) (Kd.R_lt (pR HO171.out))) (g := gb106) (o := .cells #[.bool t102, .string t103, .int .i64 t104] 28 (0, 0)) (pB BK106.out)) (below_size (pL HB.out)))
             replace HO171 := am (Kd.R_elder' (pR HO171.out) (Kd.R_base ho116) hb)
             replace BK105 := am (bb_ BK105.out hb)
             replace BK106 := am (bb_ BK106.out hb)
             replace HB := am (bs_ HB.out hb)
             clear hb ho116
             obtain ⟨Ao117, co117, eo117⟩ := Kd.R_slice HO184.out
             (first | subst eo117 | (injection eo117 with f1_ f2_ f3_; have f4_ := f1_.symm; have f5_ := f3_.symm; clear f1_ f2_ f3_; subst f4_; subst f5_))
             refine hK.out _ _ ⟨(blk_cell BK106.out 0).trans rfl, (blk_cell BK106.out 1).trans rfl, (blk_cell BK106.out 2).trans rfl⟩ (fun hHeld => ?_)
             clear hK K
             refine norm_ (a' := ?_) ?_ ?_
             rotate_left
             ·show Act.put _ (some 96) _ = _
              simp only [Act.put, sA, sZ, sS, i64_w, i32_w]
              rfl
             refine one_ (i := 5) (N := some 97) (bl 9 63) rfl rfl (one_of HT_.out (by kernel_rfl)) (by decide) (fun K hK => ?_)
             refine goes_ Try.func20 (by kernel_rfl) rfl #[.string (⟨#[115, 111, 117, 114, 99, 101]⟩ : ByteArray), .slice Ao117 y182.length co117] (by rfl) rfl rfl (by (try simp only [List.map_toArray, List.map_cons, List.map_nil]); first | done | rfl | (simp only [List.length_drop, List.length_take]; rfl)) ?_
             with_reducible refine (facts_fact.calls (⟨#[115, 111, 117, 114, 99, 101]⟩ : ByteArray) (fun k_ => some k_ = (.slice Ao117 y182.length co117 : Value).ownBlock) _ _ y182 t185 t186 _ ?side1 A99.out).mono ?_
             (case side1 => exact Kd.R_V (Kd.R_tight rfl (Kd.R_types (Kd.R_apart' (Kd.R_apart' (Kd.R_apart' (HO184.out) (Kd.R_typed HO_10.out) (by decide)) (Kd.R_typed HO_46.out) (by decide)) (Kd.N_typed HO178.out) (by decide)) BK105.out (by decide))))
             rintro e w118 ⟨v187, rfl, ho0, hb⟩
             refine ⟨_, rfl, ?_⟩
             replace HO175 := am (Kd.V_below (pV HO175.out) hb)
             have HO188 := am (Kd.V_lower (Kd.V_mono (ok' := fun k_ => (w.heap.size ≤ k_) ∧ some k_ ≠ (.slice Ao53 t134.length co53 : Value).ownBlock ∧ some k_ ≠ (.slice Ao53 t134.length co53 : Value).ownBlock ∧ some k_ ≠ (.slice Ao108 y169.length co108 : Value).ownBlock ∧ some k_ ≠ (v177 : Value).ownBlock ∧ k_ ≠ gb105 ∧ k_ ≠ gb106) ho0 (fun k_ hk_ => ⟨Or.elim hk_ (fun hs_ => ((Kd.R_types (Kd.R_apart' (Kd.R_apart' (Kd.R_apart' (HO184.out) (Kd.R_typed HO_10.out) (by decide)) (Kd.R_typed HO_46.out) (by decide)) (Kd.N_typed HO178.out) (by decide)) BK105.out (by decide)).1 k_ hs_.symm).1.1.1.1.1.1.1) (fun hn_ => (Nat.le_trans (below_size (pL HB.out)) hn_)), Or.elim hk_ (fun hs_ => ((Kd.R_types (Kd.R_apart' (Kd.R_apart' (Kd.R_apart' (HO184.out) (Kd.R_typed HO_10.out) (by decide)) (Kd.R_typed HO_46.out) (by decide)) (Kd.N_typed HO178.out) (by decide)) BK105.out (by decide)).1 k_ hs_.symm).1.1.1.2) (fun hn_ => (Kd.fresh' (Kd.R_lt (pR HO_10.out)) k_ hn_)), Or.elim hk_ (fun hs_ => ((Kd.R_types (Kd.R_apart' (Kd.R_apart' (Kd.R_apart' (HO184.out) (Kd.R_typed HO_10.out) (by decide)) (Kd.R_typed HO_46.out) (by decide)) (Kd.N_typed HO178.out) (by decide)) BK105.out (by decide)).1 k_ hs_.symm).1.1.2) (fun hn_ => (Kd.fresh' (Kd.R_lt (pR HO_46.out)) k_ hn_)), Or.elim hk_ (fun hs_ => ((Kd.R_types (Kd.R_apart' (Kd.R_apart' (Kd.R_apart' (HO184.out) (Kd.R_typed HO_10.out) (by decide)) (Kd.R_typed HO_46.out) (by decide)) (Kd.N_typed HO178.out) (by decide)) BK105.out (by decide)).1 k_ hs_.symm).1.1.1.1.1.2) (fun hn_ => (Kd.fresh' (Kd.R_lt (pR HO171.out)) k_ hn_)), Or.elim hk_ (fun hs_ => ((Kd.R_types (Kd.R_apart' (Kd.R_apart' (Kd.R_apart' (HO184.out) (Kd.R_typed HO_10.out) (by decide)) (Kd.R_typed HO_46.out) (by decide)) (Kd.N_typed HO178.out) (by decide)) BK105.out (by decide)).1 k_ hs_.symm).1.2) (fun hn_ => (Kd.fresh' (Kd.N_lt (by (with_reducible repeat (first | apply Kd.N_alloc | apply Kd.N_drewN | apply Kd.N_drew)); exact HO178.out)) k_ hn_)), Or.elim hk_ (fun hs_ => ((Kd.R_types (Kd.R_apart' (Kd.R_apart' (Kd.R_apart' (HO184.out) (Kd.R_typed HO_10.out) (by decide)) (Kd.R_typed HO_46.out) (by decide)) (Kd.N_typed HO178.out) (by decide)) BK105.out (by decide)).1 k_ hs_.symm).2) (fun hn_ => (Kd.freshB (g := gb105) (pB BK105.out) k_ hn_)), Or.elim hk_ (fun hs_ => ((Kd.R_types (Kd.R_apart' (Kd.R_apart' (Kd.R_apart' (HO184.out) (Kd.R_typed HO_10.out) (by decide)) (Kd.R_typed HO_46.out) (by decide)) (Kd.N_typed HO178.out) (by decide)) BK105.out (by decide)).1 k_ hs_.symm).1.1.1.1.2) (fun hn_ => (Kd.freshB (g := gb106) (pB BK106.out) k_ hn_))⟩)) (below_size (pL HB.out)))
             replace HO_10 := am (Rb_ HO_10.out hb)
             replace HO_46 := am (Rb_ HO_46.out hb)
             replace HO171 := am (Rb_ HO171.out hb)
             replace HO178 := am (Kd.N_below (by (with_reducible repeat (first | apply Kd.N_alloc | apply Kd.N_drewN | apply Kd.N_drew)); exact HO178.out) hb)
             replace HO184 := am (Rb_ HO184.out hb)
             replace BK105 := am (bb_ BK105.out hb)
             replace BK106 := am (bb_ BK106.out hb)
             replace HB := am (bs_ HB.out hb)
             (try clear hb)
             (try clear hb2)
             (try clear hk)
             (try clear hi)
             (try clear ho0)
             obtain ⟨Ao120, co120, eo120⟩ := Kd.V_slice HO188.out
             (first | subst eo120 | (injection eo120 with f1_ f2_ f3_; have f4_ := f1_.symm; have f5_ := f3_.symm; clear f1_ f2_ f3_; subst f4_; subst f5_))
             refine hK.out _ _ ⟨(blk_cell BK106.out 0).trans rfl, (blk_cell BK106.out 1).trans rfl, (blk_cell BK106.out 2).trans rfl⟩ (fun hHeld => ?_)
             clear hK K
             refine norm_ (a' := ?_) ?_ ?_
             rotate_left
             ·show Act.put _ (some 97) _ = _
              simp only [Act.put, sA, sZ, sS, i64_w, i32_w]
              rfl
             refine one_ (i := 6) (N := some 98) (bl 9 127) rfl rfl (one_of HT_.out (by kernel_rfl)) (by decide) (fun K hK => ?_)
             refine value_ (w1 := ?_) (v := ?_) (by rfl) rfl ?_ ?_
             rotate_left 2
             ·go_simp
              constructor
              ·rfl
              ·rfl
             refine hK.out _ _ ⟨(blk_cell (blk_alloc BK106.out _) 0).trans rfl, (blk_cell (blk_alloc BK106.out _) 1).trans rfl, (blk_cell (blk_alloc BK106.out _) 2).trans rfl⟩ (fun hHeld => ?_)
             clear hK K
             refine norm_ (a' := ?_) ?_ ?_
             rotate_left
             ·show Act.put _ (some 98) _ = _
              simp only [Act.put, sA, sZ, sS, i64_w, i32_w]
              rfl
             refine one_ (i := 7) (N := some 99) (bl 9 255) rfl rfl (one_of HT_.out (by kernel_rfl)) (by decide) (fun K hK => ?_)
             refine Kd.N_append_step k44 (w0 := w) w.heap.size (by rfl) (.tmp 92) (.tmp 98) 24 44 (.agg #[(.string ⟨#[]⟩), (.slice none 0 0)]) 40 rfl Try.underlying24 info44 rfl (by decide) (by omega) v177 y176 (⟨t185, t186⟩ : Fact) [.string t185, .slice Ao120 t186.length co120] (fun k_ => (w.heap.size ≤ k_) ∧ some k_ ≠ (.slice Ao53 t134.length co53 : Value).ownBlock ∧ some k_ ≠ (.slice Ao53 t134.length co53 : Value).ownBlock ∧ k_ ≠ gb105 ∧ k_ ≠ gb106) (fun k_ => ((fun k_ => (w.heap.size ≤ k_) ∧ some k_ ≠ (.slice Ao53 t134.length co53 : Value).ownBlock ∧ some k_ ≠ (.slice Ao53 t134.length co53 : Value).ownBlock ∧ k_ ≠ gb105 ∧ k_ ≠ gb106)) k_ ∧ some k_ ≠ (v177 : Value).ownBlock) rfl rfl ?aP (fun _ hk => hk) ?aF ?aO ?aB ?aS ?aL ?_
             (case aP => exact (k44_mkF _ _ (⟨t185, t186⟩ : Fact) (Kd.V_reads' (Kd.V_mono (ok' := (fun k_ => ((fun k_ => (w.heap.size ≤ k_) ∧ some k_ ≠ (.slice Ao53 t134.length co53 : Value).ownBlock ∧ some k_ ≠ (.slice Ao53 t134.length co53 : Value).ownBlock ∧ k_ ≠ gb105 ∧ k_ ≠ gb106)) k_ ∧ some k_ ≠ (v177 : Value).ownBlock)) (HO188.out) (fun k_ hk => ⟨⟨hk.1, ⟨hk.2.1, ⟨hk.2.2.1, ⟨hk.2.2.2.2.2.1, hk.2.2.2.2.2.2⟩⟩⟩⟩, hk.2.2.2.2.1⟩))).2.1 (Kd.V_F (Kd.V_mono (ok' := (fun k_ => ((fun k_ => (w.heap.size ≤ k_) ∧ some k_ ≠ (.slice Ao53 t134.length co53 : Value).ownBlock ∧ some k_ ≠ (.slice Ao53 t134.length co53 : Value).ownBlock ∧ k_ ≠ gb105 ∧ k_ ≠ gb106)) k_ ∧ some k_ ≠ (v177 : Value).ownBlock)) (HO188.out) (fun k_ hk => ⟨⟨hk.1, ⟨hk.2.1, ⟨hk.2.2.1, ⟨hk.2.2.2.2.2.1, hk.2.2.2.2.2.2⟩⟩⟩⟩, hk.2.2.2.2.1⟩)))))
             (case aB => exact (pL HB.out))
             (case aF => exact (fun k_ hk => ⟨(Nat.le_trans (below_size (pL HB.out)) hk), Kd.fresh' (Kd.R_lt (pR HO_10.out)) k_ hk, Kd.fresh' (Kd.R_lt (pR HO_46.out)) k_ hk, Kd.freshB (g := gb105) (pB BK105.out) k_ hk, Kd.freshB (g := gb106) (pB BK106.out) k_ hk⟩))
             (case aO => exact (by (with_reducible repeat (first | apply Kd.N_alloc | apply Kd.N_drewN | apply Kd.N_drew)); exact Kd.N_mono HO178.out (fun _ hk => ⟨hk.1.1, ⟨hk.1.2.1, ⟨hk.1.2.2.1, ⟨hk.1.2.2.2.1, hk.1.2.2.2.2⟩⟩⟩⟩)))
             (case aS => exact (below_size (pL HB.out)))
             (case aL => have := LMc100.out; omega)
             intro v190 w119 ho hb hg hat
             rw [← Ny189.out] at ho
             replace HO_10 := am (Kd.R_over' (pR HO_10.out) (Kd.N_typed (by (with_reducible repeat (first | apply Kd.N_alloc | apply Kd.N_drewN | apply Kd.N_drew)); exact HO178.out)) (by decide) hg)
             replace HO_46 := am (Kd.R_over' (pR HO_46.out) (Kd.N_typed (by (with_reducible repeat (first | apply Kd.N_alloc | apply Kd.N_drewN | apply Kd.N_drew)); exact HO178.out)) (by decide) hg)
             replace BK105 := am (blk_grown (pB BK105.out) hg (Kd.N_ne HO178.out BK105.out (by decide)))
             replace BK106 := am (blk_grown (pB BK106.out) hg (Kd.N_ne HO178.out BK106.out (by decide)))
             replace HO171 := am (Kd.R_over' (pR HO171.out) (Kd.N_typed (by (with_reducible repeat (first | apply Kd.N_alloc | apply Kd.N_drewN | apply Kd.N_drew)); exact HO178.out)) (by decide) hg)
             replace HO175 := am (Kd.V_afterv (ok := (fun k_ => (w.heap.size ≤ k_) ∧ some k_ ≠ (.slice Ao53 t134.length co53 : Value).ownBlock ∧ some k_ ≠ (.slice Ao53 t134.length co53 : Value).ownBlock ∧ some k_ ≠ (.slice Ao117 y182.length co117 : Value).ownBlock ∧ k_ ≠ gb105 ∧ k_ ≠ gb106)) (by (with_reducible repeat (first | apply Va | apply Vn | apply Vd)); exact Kd.V_mono HO175.out (fun _ hk => ⟨⟨hk.1.1.1, ⟨hk.1.1.2.1, ⟨hk.1.1.2.2.1, ⟨hk.2, ⟨hk.1.1.2.2.2.1, hk.1.1.2.2.2.2⟩⟩⟩⟩⟩, hk.1.2⟩)) hg hat)
             replace HO184 := am (Kd.R_over' (pR HO184.out) (Kd.N_typed (by (with_reducible repeat (first | apply Kd.N_alloc | apply Kd.N_drewN | apply Kd.N_drew)); exact HO178.out)) (by decide) hg)
             replace HO188 := am (Kd.V_afterv (ok := (fun k_ => (w.heap.size ≤ k_) ∧ some k_ ≠ (.slice Ao53 t134.length co53 : Value).ownBlock ∧ some k_ ≠ (.slice Ao53 t134.length co53 : Value).ownBlock ∧ some k_ ≠ (.slice Ao108 y169.length co108 : Value).ownBlock ∧ k_ ≠ gb105 ∧ k_ ≠ gb106)) (by (with_reducible repeat (first | apply Va | apply Vn | apply Vd)); exact Kd.V_mono HO188.out (fun _ hk => ⟨⟨hk.1, ⟨hk.2.1, ⟨hk.2.2.1, ⟨hk.2.2.2.1, ⟨hk.2.2.2.2.2.1, hk.2.2.2.2.2.2⟩⟩⟩⟩⟩, hk.2.2.2.2.1⟩)) hg hat)
             replace HB := am (hb)
             have HO191 := am (ho)
             clear HO178
             clear ho hb hg hat
             refine hK.out _ _ ⟨(blk_cell BK106.out 0).trans rfl, (blk_cell BK106.out 1).trans rfl, (blk_cell BK106.out 2).trans rfl⟩ (fun hHeld => ?_)
             clear hK K
             refine norm_ (a' := ?_) ?_ ?_
             rotate_left
             ·show Act.put _ (some 99) _ = _
              simp only [Act.put, sA, sZ, sS, i64_w, i32_w]
              rfl
             refine pure_ (i := 8) (N := some 7) (v := ?_) (a' := ?_) (bl 9 511) rfl rfl (any_of HT_.out (by kernel_rfl)) (fun _ _ _ h => h) (Or.inl ⟨by rfl, ?_⟩) ?_ ?_
             rotate_left
             ·intro w'
              go_simp
              with_reducible rfl
             rotate_left
             ·simp only [Act.put, sA, sZ, sS, i64_w, i32_w]
              rfl
             refine done_ (done_of HT_.out (by kernel_rfl)) ?_
             try go_wp2
             go_ret
             exact ⟨_, by first | rfl | (simp [errW_none, errW_some] <;> rfl) | (simp [*, errW_none, errW_some] <;> rfl), by (with_reducible repeat (first | apply Kd.N_alloc | apply Kd.N_drewN | apply Kd.N_drew)); exact Kd.N_mono HO191.out (fun _ hk => hk.1), pL HB.out⟩
            ·rw [if_neg c100] at H
             exact absurd H (by simp)
           ·rw [if_neg c97] at H
            have c97b0 : (((rd_T33 l0 a1).kind) == 4) = false := beq_eq_false_iff_ne.mpr c97
            have c97b1 : (((rd_T33 l0 a1).kind) != 4) = true := bne_iff_ne.mpr c97
            have HC121 := am H
            clear H
            have hnb122 := NB105_106.out
            have hnc122 := NB106_105.out
            obtain ⟨hcz123_0, hcz123_1, hcz123_2, hcz123_3, hcz123_4, hcz123_5, hcz123_6, hcz123_7, hfz123_0, hfz123_1, hfz123_2, hfz123_3, hfz123_4, hfz123_5, hfz123_6, hfz123_7⟩ := bc8 BK105.out
            try go_wp2_with (first | ((with_reducible refine gate_callee (f := 12) rfl ?_); refine goesL_ (some 74) rfl rfl Try.func12 (by kernel_rfl) rfl #[.agg #[.int .i64 ((rd_T33 l0 a1).kind), .string ((rd_T33 l0 a1).x), .string ((rd_T33 l0 a1).y), .string ((rd_T33 l0 a1).z), .string ((rd_T33 l0 a1).op), .int .i64 ((rd_T33 l0 a1).n), .int .i64 ((rd_T33 l0 a1).a), .int .i64 ((rd_T33 l0 a1).b)]] rfl (by (try simp only [List.map_toArray, List.map_cons, List.map_nil]); first | done | rfl | (simp only [List.length_drop, List.length_take]; rfl)) ?_; (with_reducible refine (cfg_Def.calls ((rd_T33 l0 a1).kind) ((rd_T33 l0 a1).x) ((rd_T33 l0 a1).y) ((rd_T33 l0 a1).z) ((rd_T33 l0 a1).op) ((rd_T33 l0 a1).n) ((rd_T33 l0 a1).a) ((rd_T33 l0 a1).b) t164 true _ A92.out).mono ?_); rintro e w124 ⟨rfl, hb⟩; refine ⟨_, rfl, ?_⟩; replace HO_7 := am (Kd.N_below (by (with_reducible repeat (first | apply Kd.N_alloc | apply Kd.N_drewN | apply Kd.N_drew)); exact HO_7.out) hb); replace HO_10 := am (Rb_ HO_10.out hb); replace HO_46 := am (Rb_ HO_46.out hb); replace BK105 := am (bb_ BK105.out hb); replace BK106 := am (bb_ BK106.out hb); replace HB := am (bs_ HB.out hb); (try clear hb); (try clear hb2); (try clear hk); (try clear hi)))
            replace HO_7 := am (Kd.N_drew HO_7.out)
            replace HO_10 := am (Kd.R_drew HO_10.out)
            replace HO_46 := am (Kd.R_drew HO_46.out)
            replace BK105 := am (blk_drew BK105.out)
            replace BK106 := am (blk_drew BK106.out)
            replace HB := am (below_drew1 HB.out)
            refine start_ (n := 9) (S := fun w' => w'.cell? ⟨gb106, 0, none⟩ = some (.bool t102) ∧ w'.cell? ⟨gb106, 1, none⟩ = some (.string t103) ∧ w'.cell? ⟨gb106, 2, none⟩ = some (.int .i64 t104)) (ds := []) (bl 9 0) (by kernel_rfl) rfl rfl ⟨(blk_cell BK106.out 0).trans rfl, (blk_cell BK106.out 1).trans rfl, (blk_cell BK106.out 2).trans rfl⟩ (fun hHeld => ?_); refine with_tabW facts_one.tab19 facts_one.bits19 (fun HT_ HW_ => ?_)
            generalize w124.drew = w125 at HO_7 HO_10 HO_46 BK105 BK106 HB hHeld ⊢
            refine pure_ (i := 0) (N := some 80) (v := ?_) (a' := ?_) (bl 9 1) rfl rfl (any_of HT_.out (by kernel_rfl)) (fun _ _ _ h => h) (Or.inl ⟨by rfl, ?_⟩) ?_ ?_
            rotate_left
            ·intro w'
             go_simp
             with_reducible rfl
            rotate_left
            ·simp only [Act.put, sA, sZ, sS, i64_w, i32_w]
             rfl
            refine pure_ (i := 2) (N := some 82) (v := ?_) (a' := ?_) (bl 9 5) rfl rfl (any_of HT_.out (by kernel_rfl)) (fun _ _ _ h => h) (Or.inl ⟨by rfl, ?_⟩) ?_ ?_
            rotate_left
            ·intro w'
             go_simp
             with_reducible rfl
            rotate_left
            ·simp only [Act.put, sA, sZ, sS, i64_w, i32_w]
             rfl
            refine take_ (i := 1) (N := some 81) (v := ?_) (a' := ?_) (bl 9 7) rfl rfl (take_ofW HT_.out HW_.out (by kernel_rfl)) (fun _ _ _ h => h) (Or.inl ⟨by rfl, ?_⟩) hHeld ?_ ?_
            rotate_left
            ·rintro w' ⟨s0, s1, s2⟩
             go_simp
             with_reducible rfl
            rotate_left
            ·simp only [Act.put, sA, sZ, sS, i64_w, i32_w]
             rfl
            refine one_ (i := 3) (N := some 83) (bl 9 15) rfl rfl (one_of HT_.out (by kernel_rfl)) (by decide) (fun K hK => ?_)
            refine goes_ Try.func32 (by kernel_rfl) rfl #[.string t164] (by rfl) rfl rfl (by (try simp only [List.map_toArray, List.map_cons, List.map_nil]); first | done | rfl | (simp only [List.length_drop, List.length_take]; rfl)) ?_
            with_reducible refine (value_Sym.calls t164 t166 t167 t168 _ A94.out).mono ?_
            rintro e w126 ⟨rfl, hb⟩
            refine ⟨_, rfl, ?_⟩
            replace HO_7 := am (Kd.N_below (by (with_reducible repeat (first | apply Kd.N_alloc | apply Kd.N_drewN | apply Kd.N_drew)); exact HO_7.out) hb)
            replace HO_10 := am (Rb_ HO_10.out hb)
            replace HO_46 := am (Rb_ HO_46.out hb)
            replace BK105 := am (bb_ BK105.out hb)
            replace BK106 := am (bb_ BK106.out hb)
            replace HB := am (bs_ HB.out hb)
            (try clear hb)
            (try clear hb2)
            (try clear hk)
            (try clear hi)
            refine hK.out _ _ ⟨(blk_cell BK106.out 0).trans rfl, (blk_cell BK106.out 1).trans rfl, (blk_cell BK106.out 2).trans rfl⟩ (fun hHeld => ?_)
            clear hK K
            refine norm_ (a' := ?_) ?_ ?_
            rotate_left
            ·show Act.put _ (some 83) _ = _
             simp only [Act.put, sA, sZ, sS, i64_w, i32_w]
             rfl
            refine one_ (i := 4) (N := some 84) (bl 9 31) rfl rfl (one_of HT_.out (by kernel_rfl)) (by decide) (fun K hK => ?_)
            refine Kd.R_lit_step k28 _ 28 ?hg (N := 84) ?hd (xs := ([(⟨t102, t103, t104⟩ : Val), (⟨t166, t167, t168⟩ : Val)] : List (Val))) (inner := [.bool t102, .string t103, .int .i64 t104, .bool t166, .string t167, .int .i64 t168]) (ok := fun _ => True) (okp := fun _ => True) ?hr ?hp (fun _ hk => hk) trivial (Below.refl _ _) (Nat.le_refl _) (by simp) ?_; (case hd => rfl); (case hg => rfl); (case hr => first | (go_simp; done) | (go_simp; rfl)); (case hp => exact (Reps.c3 (show Kd.M k28 _ _ _ (⟨t102, t103, t104⟩ : Val) [.bool t102, .string t103, .int .i64 t104] from (k28_mkM _ _ _ (⟨t102, t103, t104⟩ : Val) )) (Reps.c3 (show Kd.M k28 _ _ _ (⟨t166, t167, t168⟩ : Val) [.bool t166, .string t167, .int .i64 t168] from (k28_mkM _ _ _ (⟨t166, t167, t168⟩ : Val) )) (Reps.none _ _))))
            intro v170 w127 ho128 hb hg_ hnew_
            clear hg_ hnew_
            (first | rw [← Ny169.out] at ho128 | (simp only [Int.reduceToNat] at ho128; rw [← Ny169.out] at ho128))
            replace HO_7 := am (Kd.N_elder' (by (with_reducible repeat (first | apply Kd.N_alloc | apply Kd.N_drewN | apply Kd.N_drew)); exact HO_7.out) (Kd.R_base ho128) hb)
            replace HO_10 := am (Rb_ HO_10.out hb)
            replace HO_46 := am (Rb_ HO_46.out hb)
            have HO171 := am (Kd.R_lower (Kd.R_newB (Kd.R_newM (M := fun k_ => (w.heap.size ≤ k_)) ho128 (below_size (pL HB.out)) (fun k_ h_ => h_)) (g := gb106) (o := .cells #[.bool t102, .string t103, .int .i64 t104] 28 (0, 0)) (pB BK106.out)) (below_size (pL HB.out)))
            replace BK105 := am (bb_ BK105.out hb)
            replace BK106 := am (bb_ BK106.out hb)
            replace HB := am (bs_ HB.out hb)
            clear hb ho128
            obtain ⟨Ao129, co129, eo129⟩ := Kd.R_slice HO171.out
            (first | subst eo129 | (injection eo129 with f1_ f2_ f3_; have f4_ := f1_.symm; have f5_ := f3_.symm; clear f1_ f2_ f3_; subst f4_; subst f5_))
            refine hK.out _ _ ⟨(blk_cell BK106.out 0).trans rfl, (blk_cell BK106.out 1).trans rfl, (blk_cell BK106.out 2).trans rfl⟩ (fun hHeld => ?_)
            clear hK K
            refine norm_ (a' := ?_) ?_ ?_
            rotate_left
            ·show Act.put _ (some 84) _ = _
             simp only [Act.put, sA, sZ, sS, i64_w, i32_w]
             rfl
            refine one_ (i := 5) (N := some 85) (bl 9 63) rfl rfl (one_of HT_.out (by kernel_rfl)) (by decide) (fun K hK => ?_)
            refine goes_ Try.func20 (by kernel_rfl) rfl #[.string (⟨#[100, 101, 102]⟩ : ByteArray), .slice Ao129 y169.length co129] (by rfl) rfl rfl (by (try simp only [List.map_toArray, List.map_cons, List.map_nil]); first | done | rfl | (simp only [List.length_drop, List.length_take]; rfl)) ?_
            with_reducible refine (facts_fact.calls (⟨#[100, 101, 102]⟩ : ByteArray) (fun k_ => some k_ = (.slice Ao129 y169.length co129 : Value).ownBlock) _ _ y169 t172 t173 _ ?side1 A95.out).mono ?_
            (case side1 => exact Kd.R_V (Kd.R_tight rfl (Kd.R_types (Kd.R_apart' (Kd.R_apart' (Kd.R_apart' (HO171.out) (Kd.N_typed HO_7.out) (by decide)) (Kd.R_typed HO_10.out) (by decide)) (Kd.R_typed HO_46.out) (by decide)) BK105.out (by decide))))
            rintro e w130 ⟨v174, rfl, ho0, hb⟩
            refine ⟨_, rfl, ?_⟩
            have HO175 := am (Kd.V_lower (Kd.V_mono (ok' := fun k_ => (w.heap.size ≤ k_) ∧ some k_ ≠ (u7 : Value).ownBlock ∧ some k_ ≠ (.slice Ao53 t134.length co53 : Value).ownBlock ∧ some k_ ≠ (.slice Ao53 t134.length co53 : Value).ownBlock ∧ k_ ≠ gb105 ∧ k_ ≠ gb106) ho0 (fun k_ hk_ => ⟨Or.elim hk_ (fun hs_ => ((Kd.R_types (Kd.R_apart' (Kd.R_apart' (Kd.R_apart' (HO171.out) (Kd.N_typed HO_7.out) (by decide)) (Kd.R_typed HO_10.out) (by decide)) (Kd.R_typed HO_46.out) (by decide)) BK105.out (by decide)).1 k_ hs_.symm).1.1.1.1.1.1) (fun hn_ => (Nat.le_trans (below_size (pL HB.out)) hn_)), Or.elim hk_ (fun hs_ => ((Kd.R_types (Kd.R_apart' (Kd.R_apart' (Kd.R_apart' (HO171.out) (Kd.N_typed HO_7.out) (by decide)) (Kd.R_typed HO_10.out) (by decide)) (Kd.R_typed HO_46.out) (by decide)) BK105.out (by decide)).1 k_ hs_.symm).1.1.1.2) (fun hn_ => (Kd.fresh' (Kd.N_lt (by (with_reducible repeat (first | apply Kd.N_alloc | apply Kd.N_drewN | apply Kd.N_drew)); exact HO_7.out)) k_ hn_)), Or.elim hk_ (fun hs_ => ((Kd.R_types (Kd.R_apart' (Kd.R_apart' (Kd.R_apart' (HO171.out) (Kd.N_typed HO_7.out) (by decide)) (Kd.R_typed HO_10.out) (by decide)) (Kd.R_typed HO_46.out) (by decide)) BK105.out (by decide)).1 k_ hs_.symm).1.1.2) (fun hn_ => (Kd.fresh' (Kd.R_lt (pR HO_10.out)) k_ hn_)), Or.elim hk_ (fun hs_ => ((Kd.R_types (Kd.R_apart' (Kd.R_apart' (Kd.R_apart' (HO171.out) (Kd.N_typed HO_7.out) (by decide)) (Kd.R_typed HO_10.out) (by decide)) (Kd.R_typed HO_46.out) (by decide)) BK105.out (by decide)).1 k_ hs_.symm).1.2) (fun hn_ => (Kd.fresh' (Kd.R_lt (pR HO_46.out)) k_ hn_)), Or.elim hk_ (fun hs_ => ((Kd.R_types (Kd.R_apart' (Kd.R_apart' (Kd.R_apart' (HO171.out) (Kd.N_typed HO_7.out) (by decide)) (Kd.R_typed HO_10.out) (by decide)) (Kd.R_typed HO_46.out) (by decide)) BK105.out (by decide)).1 k_ hs_.symm).2) (fun hn_ => (Kd.freshB (g := gb105) (pB BK105.out) k_ hn_)), Or.elim hk_ (fun hs_ => ((Kd.R_types (Kd.R_apart' (Kd.R_apart' (Kd.R_apart' (HO171.out) (Kd.N_typed HO_7.out) (by decide)) (Kd.R_typed HO_10.out) (by decide)) (Kd.R_typed HO_46.out) (by decide)) BK105.out (by decide)).1 k_ hs_.symm).1.1.1.1.2) (fun hn_ => (Kd.freshB (g := gb106) (pB BK106.out) k_ hn_))⟩)) (below_size (pL HB.out)))
            replace HO_7 := am (Kd.N_below (by (with_reducible repeat (first | apply Kd.N_alloc | apply Kd.N_drewN | apply Kd.N_drew)); exact HO_7.out) hb)
            replace HO_10 := am (Rb_ HO_10.out hb)
            replace HO_46 := am (Rb_ HO_46.out hb)
            replace HO171 := am (Rb_ HO171.out hb)
            replace BK105 := am (bb_ BK105.out hb)
            replace BK106 := am (bb_ BK106.out hb)
            replace HB := am (bs_ HB.out hb)
            (try clear hb)
            (try clear hb2)
            (try clear hk)
            (try clear hi)
            (try clear ho0)
            obtain ⟨Ao132, co132, eo132⟩ := Kd.V_slice HO175.out
            (first | subst eo132 | (injection eo132 with f1_ f2_ f3_; have f4_ := f1_.symm; have f5_ := f3_.symm; clear f1_ f2_ f3_; subst f4_; subst f5_))
            refine hK.out _ _ ⟨(blk_cell BK106.out 0).trans rfl, (blk_cell BK106.out 1).trans rfl, (blk_cell BK106.out 2).trans rfl⟩ (fun hHeld => ?_)
            clear hK K
            refine norm_ (a' := ?_) ?_ ?_
            rotate_left
            ·show Act.put _ (some 85) _ = _
             simp only [Act.put, sA, sZ, sS, i64_w, i32_w]
             rfl
            refine one_ (i := 6) (N := some 86) (bl 9 127) rfl rfl (one_of HT_.out (by kernel_rfl)) (by decide) (fun K hK => ?_)
            refine value_ (w1 := ?_) (v := ?_) (by rfl) rfl ?_ ?_
            rotate_left 2
            ·go_simp
             constructor
             ·rfl
             ·rfl
            refine hK.out _ _ ⟨(blk_cell (blk_alloc BK106.out _) 0).trans rfl, (blk_cell (blk_alloc BK106.out _) 1).trans rfl, (blk_cell (blk_alloc BK106.out _) 2).trans rfl⟩ (fun hHeld => ?_)
            clear hK K
            refine norm_ (a' := ?_) ?_ ?_
            rotate_left
            ·show Act.put _ (some 86) _ = _
             simp only [Act.put, sA, sZ, sS, i64_w, i32_w]
             rfl
            refine one_ (i := 7) (N := some 87) (bl 9 255) rfl rfl (one_of HT_.out (by kernel_rfl)) (by decide) (fun K hK => ?_)
            refine Kd.N_append_step k44 (w0 := w) w.heap.size (by rfl) (.tmp 80) (.tmp 86) 24 44 (.agg #[(.string ⟨#[]⟩), (.slice none 0 0)]) 40 rfl Try.underlying24 info44 rfl (by decide) (by omega) u7 x7_2 (⟨t172, t173⟩ : Fact) [.string t172, .slice Ao132 t173.length co132] (fun k_ => (w.heap.size ≤ k_) ∧ some k_ ≠ (.slice Ao53 t134.length co53 : Value).ownBlock ∧ some k_ ≠ (.slice Ao53 t134.length co53 : Value).ownBlock ∧ k_ ≠ gb105 ∧ k_ ≠ gb106) (fun k_ => ((fun k_ => (w.heap.size ≤ k_) ∧ some k_ ≠ (.slice Ao53 t134.length co53 : Value).ownBlock ∧ some k_ ≠ (.slice Ao53 t134.length co53 : Value).ownBlock ∧ k_ ≠ gb105 ∧ k_ ≠ gb106)) k_ ∧ some k_ ≠ (u7 : Value).ownBlock) rfl rfl ?aP (fun _ hk => hk) ?aF ?aO ?aB ?aS ?aL ?_
            (case aP => exact (k44_mkF _ _ (⟨t172, t173⟩ : Fact) (Kd.V_reads' (Kd.V_mono (ok' := (fun k_ => ((fun k_ => (w.heap.size ≤ k_) ∧ some k_ ≠ (.slice Ao53 t134.length co53 : Value).ownBlock ∧ some k_ ≠ (.slice Ao53 t134.length co53 : Value).ownBlock ∧ k_ ≠ gb105 ∧ k_ ≠ gb106)) k_ ∧ some k_ ≠ (u7 : Value).ownBlock)) (HO175.out) (fun k_ hk => ⟨⟨hk.1, ⟨hk.2.2.1, ⟨hk.2.2.2.1, ⟨hk.2.2.2.2.1, hk.2.2.2.2.2⟩⟩⟩⟩, hk.2.1⟩))).2.1 (Kd.V_F (Kd.V_mono (ok' := (fun k_ => ((fun k_ => (w.heap.size ≤ k_) ∧ some k_ ≠ (.slice Ao53 t134.length co53 : Value).ownBlock ∧ some k_ ≠ (.slice Ao53 t134.length co53 : Value).ownBlock ∧ k_ ≠ gb105 ∧ k_ ≠ gb106)) k_ ∧ some k_ ≠ (u7 : Value).ownBlock)) (HO175.out) (fun k_ hk => ⟨⟨hk.1, ⟨hk.2.2.1, ⟨hk.2.2.2.1, ⟨hk.2.2.2.2.1, hk.2.2.2.2.2⟩⟩⟩⟩, hk.2.1⟩)))))
            (case aB => exact (pL HB.out))
            (case aF => exact (fun k_ hk => ⟨(Nat.le_trans (below_size (pL HB.out)) hk), Kd.fresh' (Kd.R_lt (pR HO_10.out)) k_ hk, Kd.fresh' (Kd.R_lt (pR HO_46.out)) k_ hk, Kd.freshB (g := gb105) (pB BK105.out) k_ hk, Kd.freshB (g := gb106) (pB BK106.out) k_ hk⟩))
            (case aO => exact (by (with_reducible repeat (first | apply Kd.N_alloc | apply Kd.N_drewN | apply Kd.N_drew)); exact Kd.N_mono HO_7.out (fun _ hk => ⟨hk.1.1, ⟨hk.1.2.1, ⟨hk.1.2.2.1, ⟨hk.1.2.2.2.1, hk.1.2.2.2.2⟩⟩⟩⟩)))
            (case aS => exact (below_size (pL HB.out)))
            (case aL => have := LMc96.out; omega)
            intro v177 w131 ho hb hg hat
            rw [← Ny176.out] at ho
            replace HO_10 := am (Kd.R_over' (pR HO_10.out) (Kd.N_typed (by (with_reducible repeat (first | apply Kd.N_alloc | apply Kd.N_drewN | apply Kd.N_drew)); exact HO_7.out)) (by decide) hg)
            replace HO_46 := am (Kd.R_over' (pR HO_46.out) (Kd.N_typed (by (with_reducible repeat (first | apply Kd.N_alloc | apply Kd.N_drewN | apply Kd.N_drew)); exact HO_7.out)) (by decide) hg)
            replace BK105 := am (blk_grown (pB BK105.out) hg (Kd.N_ne HO_7.out BK105.out (by decide)))
            replace BK106 := am (blk_grown (pB BK106.out) hg (Kd.N_ne HO_7.out BK106.out (by decide)))
            replace HO171 := am (Kd.R_over' (pR HO171.out) (Kd.N_typed (by (with_reducible repeat (first | apply Kd.N_alloc | apply Kd.N_drewN | apply Kd.N_drew)); exact HO_7.out)) (by decide) hg)
            replace HO175 := am (Kd.V_afterv (ok := (fun k_ => (w.heap.size ≤ k_) ∧ some k_ ≠ (.slice Ao53 t134.length co53 : Value).ownBlock ∧ some k_ ≠ (.slice Ao53 t134.length co53 : Value).ownBlock ∧ k_ ≠ gb105 ∧ k_ ≠ gb106)) (by (with_reducible repeat (first | apply Va | apply Vn | apply Vd)); exact Kd.V_mono HO175.out (fun _ hk => ⟨⟨hk.1, ⟨hk.2.2.1, ⟨hk.2.2.2.1, ⟨hk.2.2.2.2.1, hk.2.2.2.2.2⟩⟩⟩⟩, hk.2.1⟩)) hg hat)
            replace HB := am (hb)
            have HO178 := am (ho)
            clear HO_7
            clear ho hb hg hat
            refine hK.out _ _ ⟨(blk_cell BK106.out 0).trans rfl, (blk_cell BK106.out 1).trans rfl, (blk_cell BK106.out 2).trans rfl⟩ (fun hHeld => ?_)
            clear hK K
            refine norm_ (a' := ?_) ?_ ?_
            rotate_left
            ·show Act.put _ (some 87) _ = _
             simp only [Act.put, sA, sZ, sS, i64_w, i32_w]
             rfl
            refine pure_ (i := 8) (N := some 7) (v := ?_) (a' := ?_) (bl 9 511) rfl rfl (any_of HT_.out (by kernel_rfl)) (fun _ _ _ h => h) (Or.inl ⟨by rfl, ?_⟩) ?_ ?_
            rotate_left
            ·intro w'
             go_simp
             with_reducible rfl
            rotate_left
            ·simp only [Act.put, sA, sZ, sS, i64_w, i32_w]
             rfl
            refine done_ (done_of HT_.out (by kernel_rfl)) ?_
            obtain ⟨hcz133_0, hcz133_1, hcz133_2, hcz133_3, hcz133_4, hcz133_5, hcz133_6, hcz133_7, hfz133_0, hfz133_1, hfz133_2, hfz133_3, hfz133_4, hfz133_5, hfz133_6, hfz133_7⟩ := bc8 BK105.out
            go_upto_if 100 with (fail)
            go_cut [100] (fun v100 wc => ∃ (kq : Nat) (x100_120 : Bool), v100 = .bool x100_120 ∧ Aside0 (facts_one.j2 kq y176 t134 t164 x100_120 t102 t103 t104 = some r) ∧ Aside0 (kq ≤ k2) ∧ Aside0 (Kd.N k44 44 wc w.heap.size (fun k_ => (w.heap.size ≤ k_) ∧ some k_ ≠ ((.slice Ao53 t134.length co53) : Value).ownBlock ∧ k_ ≠ gb105 ∧ k_ ≠ gb106) v177 y176) ∧ Aside0 (Kd.R Kd.string 9 wc w.heap.size (fun k_ => (w.heap.size ≤ k_)) (.slice Ao53 t134.length co53) t134) ∧ Aside0 (wc.heap[gb105]? = some (.cells #[.int .i64 ((rd_T33 l0 a1).kind), .string ((rd_T33 l0 a1).x), .string ((rd_T33 l0 a1).y), .string ((rd_T33 l0 a1).z), .string ((rd_T33 l0 a1).op), .int .i64 ((rd_T33 l0 a1).n), .int .i64 ((rd_T33 l0 a1).a), .int .i64 ((rd_T33 l0 a1).b)] 33 (0, 0))) ∧ Aside0 (wc.heap[gb106]? = some (.cells #[.bool t102, .string t103, .int .i64 t104] 28 (0, 0))) ∧ Aside0 (Below w.heap.size w wc))
            case first =>
             have H := HC121.out
             clear HC121
             by_cases c134 : ((rd_T33 l0 a1).kind) = 2
             ·rw [if_pos c134] at H
              have c134b0 : (((rd_T33 l0 a1).kind) == 2) = true := beq_iff_eq.mpr c134
              have c134b1 : (((rd_T33 l0 a1).kind) != 2) = false := bne_eq_false_iff_eq.mpr c134
              clear c134
              (first | rw [c134b0] | (simp only [i64_w, i32_w]; rw [c134b0]) | skip)
              have H' := am H
              clear H
              go_wp2
              go_meet
              case rel => exact ⟨_, ((((rd_T33 l0 a1).kind) == 2)), rs_, H', ⟨by have := HK1.out; have := HK2.out; first | omega | exact Nat.le_refl _⟩, ⟨by (with_reducible repeat (first | apply Kd.N_alloc | apply Kd.N_drewN | apply Kd.N_drew)); exact Kd.N_mono HO178.out (fun _ hk => ⟨hk.1, ⟨hk.2.1, ⟨hk.2.2.2.1, hk.2.2.2.2⟩⟩⟩)⟩, ⟨pR HO_10.out⟩, ⟨pB BK105.out⟩, ⟨pB BK106.out⟩, ⟨pL HB.out⟩⟩
             ·rw [if_neg c134] at H
              have c134b0 : (((rd_T33 l0 a1).kind) == 2) = false := beq_eq_false_iff_ne.mpr c134
              have c134b1 : (((rd_T33 l0 a1).kind) != 2) = true := bne_iff_ne.mpr c134
              (first | rw [c134b0] | (simp only [i64_w, i32_w]; rw [c134b0]) | skip)
              have H' := am H
              clear H
              go_wp2
              go_meet
              case rel => exact ⟨_, ((((rd_T33 l0 a1).kind) == 3)), rs_, H', ⟨by have := HK1.out; have := HK2.out; first | omega | exact Nat.le_refl _⟩, ⟨by (with_reducible repeat (first | apply Kd.N_alloc | apply Kd.N_drewN | apply Kd.N_drew)); exact Kd.N_mono HO178.out (fun _ hk => ⟨hk.1, ⟨hk.2.1, ⟨hk.2.2.2.1, hk.2.2.2.2⟩⟩⟩)⟩, ⟨pR HO_10.out⟩, ⟨pB BK105.out⟩, ⟨pB BK106.out⟩, ⟨pL HB.out⟩⟩
            case rest =>
             clear HC121
             try clear c1
             try clear c2
             try clear p2
             try clear c3
             try clear c9
             try clear c10
             try clear c12
             try clear c13
             try clear c20
             try clear c32
             try clear c96
             try clear c97
             try clear c97b0
             try clear c97b1
             try clear c100
             try clear c122
             try clear c134
             try clear c134b0
             try clear c134b1
             try clear hcz112_0
             try clear hcz112_1
             try clear hcz112_2
             try clear hcz112_3
             try clear hcz112_4
             try clear hcz112_5
             try clear hcz112_6
             try clear hcz112_7
             try clear hcz123_0
             try clear hcz123_1
             try clear hcz123_2
             try clear hcz123_3
             try clear hcz123_4
             try clear hcz123_5
             try clear hcz123_6
             try clear hcz123_7
             try clear hcz133_0
             try clear hcz133_1
             try clear hcz133_2
             try clear hcz133_3
             try clear hcz133_4
             try clear hcz133_5
             try clear hcz133_6
             try clear hcz133_7
             try clear hfz112_0
             try clear hfz112_1
             try clear hfz112_2
             try clear hfz112_3
             try clear hfz112_4
             try clear hfz112_5
             try clear hfz112_6
             try clear hfz112_7
             try clear hfz123_0
             try clear hfz123_1
             try clear hfz123_2
             try clear hfz123_3
             try clear hfz123_4
             try clear hfz123_5
             try clear hfz123_6
             try clear hfz123_7
             try clear hfz133_0
             try clear hfz133_1
             try clear hfz133_2
             try clear hfz133_3
             try clear hfz133_4
             try clear hfz133_5
             try clear hfz133_6
             try clear hfz133_7
             obtain ⟨kq, x100_120, rfl, HA, HJ120, HO_7, HO_10, BK105, BK106, HB⟩ := hcut
             cases kq with
             | zero => exact absurd HA.out (by simp [facts_one.j2])
             | succ kj120 =>
              have H := HA.out
              clear HA
              simp only [facts_one.j2] at H
              by_cases c135 : x100_120 = true
              ·subst c135
               have H1 : (facts_one.l2 kj120 y176 t164 t134 (t134.length : Int) 0 t102 t103 t104) = some r := by rw [if_pos rfl] at H; exact H
               clear H
               have H := H1
               clear H1
               have H' := am H
               clear H
               go_wp2
               go_loopg [7, 105] kj120 (fun kq v7 v105 w' => ∃ (x7_4 : List (Fact)) (x105_4 : Int), v105 = .int .i64 x105_4 ∧ Aside0 (facts_one.l2 kq x7_4 t164 t134 (t134.length : Int) x105_4 t102 t103 t104 = some r) ∧ Aside0 (kq ≤ kj120) ∧ Aside0 (Kd.N k44 44 w' w.heap.size (fun k_ => (w.heap.size ≤ k_) ∧ some k_ ≠ ((.slice Ao53 t134.length co53) : Value).ownBlock ∧ k_ ≠ gb105 ∧ k_ ≠ gb106) v7 x7_4) ∧ Aside0 (Kd.R Kd.string 9 w' w.heap.size (fun k_ => (w.heap.size ≤ k_)) (.slice Ao53 t134.length co53) t134) ∧ Aside0 (w'.heap[gb105]? = some (.cells #[.int .i64 ((rd_T33 l0 a1).kind), .string ((rd_T33 l0 a1).x), .string ((rd_T33 l0 a1).y), .string ((rd_T33 l0 a1).z), .string ((rd_T33 l0 a1).op), .int .i64 ((rd_T33 l0 a1).n), .int .i64 ((rd_T33 l0 a1).a), .int .i64 ((rd_T33 l0 a1).b)] 33 (0, 0))) ∧ Aside0 (w'.heap[gb106]? = some (.cells #[.bool t102, .string t103, .int .i64 t104] 28 (0, 0))) ∧ Aside0 (Below w.heap.size w w'))
               case atStart => exact ⟨(y176), (0), rs_, H', ⟨Nat.le_refl _⟩, ⟨by (with_reducible repeat (first | apply Kd.N_alloc | apply Kd.N_drewN | apply Kd.N_drew)); exact HO_7.out⟩, ⟨pR HO_10.out⟩, ⟨pB BK105.out⟩, ⟨pB BK106.out⟩, ⟨pL HB.out⟩⟩
               case round =>
                clear H'
                try clear c1
                try clear c2
                try clear p2
                try clear c3
                try clear c9
                try clear c10
                try clear c12
                try clear c13
                try clear c20
                try clear c32
                try clear c96
                try clear c97
                try clear c97b0
                try clear c97b1
                try clear c100
                try clear c122
                try clear c134
                try clear c134b0
                try clear c134b1
                try clear c135
                try clear hcz112_0
                try clear hcz112_1
                try clear hcz112_2
                try clear hcz112_3
                try clear hcz112_4
                try clear hcz112_5
                try clear hcz112_6
                try clear hcz112_7
                try clear hcz123_0
                try clear hcz123_1
                try clear hcz123_2
                try clear hcz123_3
                try clear hcz123_4
                try clear hcz123_5
                try clear hcz123_6
                try clear hcz123_7
                try clear hcz133_0
                try clear hcz133_1
                try clear hcz133_2
                try clear hcz133_3
                try clear hcz133_4
                try clear hcz133_5
                try clear hcz133_6
                try clear hcz133_7
                try clear hfz112_0
                try clear hfz112_1
                try clear hfz112_2
                try clear hfz112_3
                try clear hfz112_4
                try clear hfz112_5
                try clear hfz112_6
                try clear hfz112_7
                try clear hfz123_0
                try clear hfz123_1
                try clear hfz123_2
                try clear hfz123_3
                try clear hfz123_4
                try clear hfz123_5
                try clear hfz123_6
                try clear hfz123_7
                try clear hfz133_0
                try clear hfz133_1
                try clear hfz133_2
                try clear hfz133_3
                try clear hfz133_4
                try clear hfz133_5
                try clear hfz133_6
                try clear hfz133_7
                try clear p2
                obtain ⟨x7_4, x105_4, rfl, HA, HK4, HO_7, HO_103, BK105, BK106, HB⟩ := hrel
                cases gk with
                | zero => exact absurd HA.out (by simp [facts_one.l2])
                | succ k4 =>
                 have H := HA.out
                 clear HA
                 simp only [facts_one.l2] at H
                 by_cases c136 : x105_4 < (t134.length : Int)
                 ·rw [if_pos c136] at H
                  have c136b0 : decide (x105_4 < (t134.length : Int)) = true := decide_eq_true c136
                  clear c136
                  by_cases c137 : 0 ≤ x105_4
                  ·rw [if_pos c137] at H
                   have c137b0 : decide (0 ≤ x105_4) = true := decide_eq_true c137
                   clear c137
                   by_cases c138 : x105_4 < (t134.length : Int)
                   ·rw [if_pos c138] at H
                    have c138b0 : decide (x105_4 < (t134.length : Int)) = true := decide_eq_true c138
                    clear c138
                    replace H := Option.bind_eq_some_iff.mp H
                    obtain ⟨⟨t193, t194, t195⟩, A1390, H⟩ := H
                    replace H : ((value_Sym.f (rdOf ByteArray.empty t134 x105_4)).bind fun bt196 => ((facts_fact.f (⟨#[102, 108, 111, 119]⟩ : ByteArray) (([(⟨t102, t103, t104⟩ : Val), (⟨t193, t194, t195⟩ : Val), (⟨bt196.1, bt196.2.1, bt196.2.2⟩ : Val)] : List (Val)))).bind fun bt202 => (if x7_4.length < 3518437208883 then (facts_one.l2 k4 (x7_4 ++ [(⟨bt202.1, bt202.2⟩ : Fact)]) t164 t134 (t134.length : Int) (wrap64 (x105_4 + 1)) t102 t103 t104) else (none)))) = some r := H
                    have A139 := am A1390
                    clear A1390
                    replace H := Option.bind_eq_some_iff.mp H
                    obtain ⟨⟨t196, t197, t198⟩, A1400, H⟩ := H
                    replace H : ((facts_fact.f (⟨#[102, 108, 111, 119]⟩ : ByteArray) (([(⟨t102, t103, t104⟩ : Val), (⟨t193, t194, t195⟩ : Val), (⟨t196, t197, t198⟩ : Val)] : List (Val)))).bind fun bt202 => (if x7_4.length < 3518437208883 then (facts_one.l2 k4 (x7_4 ++ [(⟨bt202.1, bt202.2⟩ : Fact)]) t164 t134 (t134.length : Int) (wrap64 (x105_4 + 1)) t102 t103 t104) else (none))) = some r := H
                    have A140 := am A1400
                    clear A1400
                    obtain ⟨y199, hy199⟩ : ∃ y_ : List (Val), y_ = (([(⟨t102, t103, t104⟩ : Val), (⟨t193, t194, t195⟩ : Val), (⟨t196, t197, t198⟩ : Val)] : List (Val))) := ⟨_, rfl⟩
                    replace H : ((facts_fact.f (⟨#[102, 108, 111, 119]⟩ : ByteArray) y199).bind fun bt202 => (if x7_4.length < 3518437208883 then (facts_one.l2 k4 (x7_4 ++ [(⟨bt202.1, bt202.2⟩ : Fact)]) t164 t134 (t134.length : Int) (wrap64 (x105_4 + 1)) t102 t103 t104) else (none))) = some r := by first | (rw [hy199]; with_reducible exact H) | (have H2_ := (Option.bind_some _ _).symm.trans H; rw [hy199]; with_reducible exact H2_) | (have H2_ := (Option.bind_some _ _).symm.trans H; with_reducible exact H2_) | with_reducible exact H | (rw [hy199]; exact H) | exact H
                    have Ny199 := am hy199
                    clear hy199
                    replace H := Option.bind_eq_some_iff.mp H
                    obtain ⟨⟨t202, t203⟩, A1410, H⟩ := H
                    replace H : (if x7_4.length < 3518437208883 then (facts_one.l2 k4 (x7_4 ++ [(⟨t202, t203⟩ : Fact)]) t164 t134 (t134.length : Int) (wrap64 (x105_4 + 1)) t102 t103 t104) else (none)) = some r := H
                    have A141 := am A1410
                    clear A1410
                    by_cases c142 : x7_4.length < 3518437208883
                    ·rw [if_pos c142] at H
                     have LMc142 := am c142
                     clear c142
                     obtain ⟨y206, hy206⟩ : ∃ y_ : List (Fact), y_ = (x7_4 ++ [(⟨t202, t203⟩ : Fact)]) := ⟨_, rfl⟩
                     replace H : (facts_one.l2 k4 y206 t164 t134 (t134.length : Int) (wrap64 (x105_4 + 1)) t102 t103 t104) = some r := by first | (rw [hy206]; with_reducible exact H) | (have H2_ := (Option.bind_some _ _).symm.trans H; rw [hy206]; with_reducible exact H2_) | (have H2_ := (Option.bind_some _ _).symm.trans H; with_reducible exact H2_) | with_reducible exact H | (rw [hy206]; exact H) | exact H
                     have Ny206 := am hy206
                     clear hy206
                     have H' := am H
                     clear H
                     have p192 : 0 ≤ (x105_4 : Int) := dt_
                     have q192 : x105_4 < (t134.length : Int) := dt_
                     obtain ⟨ad192, e192, hx192_0⟩ := Kd.at_string (Kd.R_reads' HO_103.out).2.2 x105_4 p192 q192
                     cases e192
                     replace p192 := eq_true p192
                     replace q192 := eq_true q192
                     try go_wp2
                     replace HO_7 := am (Kd.N_drew HO_7.out)
                     replace HO_103 := am (Kd.R_drew HO_103.out)
                     replace BK105 := am (blk_drew BK105.out)
                     replace BK106 := am (blk_drew BK106.out)
                     replace HB := am (below_drew1 HB.out)
                     refine start_ (n := 11) (S := fun w' => w'.cell? ⟨gb106, 0, none⟩ = some (.bool t102) ∧ w'.cell? ⟨gb106, 1, none⟩ = some (.string t103) ∧ w'.cell? ⟨gb106, 2, none⟩ = some (.int .i64 t104)) (ds := []) (bl 11 0) (by kernel_rfl) rfl rfl ⟨(blk_cell BK106.out 0).trans rfl, (blk_cell BK106.out 1).trans rfl, (blk_cell BK106.out 2).trans rfl⟩ (fun hHeld => ?_); refine with_tabW facts_one.tab28 facts_one.bits28 (fun HT_ HW_ => ?_)
                     generalize wr.drew = w143 at HO_7 HO_103 BK105 BK106 HB hHeld ⊢
                     refine pure_ (i := 0) (N := some 109) (v := ?_) (a' := ?_) (bl 11 1) rfl rfl (any_of HT_.out (by kernel_rfl)) (fun _ _ _ h => h) (Or.inl ⟨by rfl, ?_⟩) ?_ ?_
                     rotate_left
                     ·intro w'
                      go_simp
                      with_reducible rfl
                     rotate_left
                     ·simp only [Act.put, sA, sZ, sS, i64_w, i32_w]
                      rfl
                     refine pure_ (i := 2) (N := some 111) (v := ?_) (a' := ?_) (bl 11 5) rfl rfl (any_of HT_.out (by kernel_rfl)) (fun _ _ _ h => h) (Or.inl ⟨by rfl, ?_⟩) ?_ ?_
                     rotate_left
                     ·intro w'
                      go_simp
                      with_reducible rfl
                     rotate_left
                     ·simp only [Act.put, sA, sZ, sS, i64_w, i32_w]
                      rfl
                     refine pure_ (i := 4) (N := some 113) (v := ?_) (a' := ?_) (bl 11 21) rfl rfl (any_of HT_.out (by kernel_rfl)) (fun _ _ _ h => h) (Or.inl ⟨by rfl, ?_⟩) ?_ ?_
                     rotate_left
                     ·intro w'
                      go_simp
                      with_reducible rfl
                     rotate_left
                     ·simp only [Act.put, sA, sZ, sS, i64_w, i32_w]
                      rfl
                     refine take_ (i := 1) (N := some 110) (v := ?_) (a' := ?_) (bl 11 23) rfl rfl (take_ofW HT_.out HW_.out (by kernel_rfl)) (fun _ _ _ h => h) (Or.inl ⟨by rfl, ?_⟩) hHeld ?_ ?_
                     rotate_left
                     ·rintro w' ⟨s0, s1, s2⟩
                      go_simp
                      with_reducible rfl
                     rotate_left
                     ·simp only [Act.put, sA, sZ, sS, i64_w, i32_w]
                      rfl
                     refine one_ (i := 3) (N := some 112) (bl 11 31) rfl rfl (one_of HT_.out (by kernel_rfl)) (by decide) (fun K hK => ?_)
                     refine goes_ Try.func32 (by kernel_rfl) rfl #[.string t164] (by rfl) rfl rfl (by (try simp only [List.map_toArray, List.map_cons, List.map_nil]); first | done | rfl | (simp only [List.length_drop, List.length_take]; rfl)) ?_
                     with_reducible refine (value_Sym.calls t164 t193 t194 t195 _ A139.out).mono ?_
                     rintro e w144 ⟨rfl, hb⟩
                     refine ⟨_, rfl, ?_⟩
                     replace HO_7 := am (Kd.N_below (by (with_reducible repeat (first | apply Kd.N_alloc | apply Kd.N_drewN | apply Kd.N_drew)); exact HO_7.out) hb)
                     replace HO_103 := am (Rb_ HO_103.out hb)
                     replace BK105 := am (bb_ BK105.out hb)
                     replace BK106 := am (bb_ BK106.out hb)
                     replace HB := am (bs_ HB.out hb)
                     (try clear hb)
                     (try clear hb2)
                     (try clear hk)
                     (try clear hi)
                     refine hK.out _ _ ⟨(blk_cell BK106.out 0).trans rfl, (blk_cell BK106.out 1).trans rfl, (blk_cell BK106.out 2).trans rfl⟩ (fun hHeld => ?_)
                     clear hK K
                     refine norm_ (a' := ?_) ?_ ?_
                     rotate_left
                     ·show Act.put _ (some 112) _ = _
                      simp only [Act.put, sA, sZ, sS, i64_w, i32_w]
                      rfl
                     refine one_ (i := 5) (N := some 114) (bl 11 63) rfl rfl (one_of HT_.out (by kernel_rfl)) (by decide) (fun K hK => ?_)
                     refine goes_ Try.func32 (by kernel_rfl) rfl #[.string (rdOf ByteArray.empty t134 x105_4)] (by rfl) rfl rfl (by (try simp only [List.map_toArray, List.map_cons, List.map_nil]); first | done | rfl | (simp only [List.length_drop, List.length_take]; rfl)) ?_
                     with_reducible refine (value_Sym.calls (rdOf ByteArray.empty t134 x105_4) t196 t197 t198 _ A140.out).mono ?_
                     rintro e w145 ⟨rfl, hb⟩
                     refine ⟨_, rfl, ?_⟩
                     replace HO_7 := am (Kd.N_below (by (with_reducible repeat (first | apply Kd.N_alloc | apply Kd.N_drewN | apply Kd.N_drew)); exact HO_7.out) hb)
                     replace HO_103 := am (Rb_ HO_103.out hb)
                     replace BK105 := am (bb_ BK105.out hb)
                     replace BK106 := am (bb_ BK106.out hb)
                     replace HB := am (bs_ HB.out hb)
                     (try clear hb)
                     (try clear hb2)
                     (try clear hk)
                     (try clear hi)
                     refine hK.out _ _ ⟨(blk_cell BK106.out 0).trans rfl, (blk_cell BK106.out 1).trans rfl, (blk_cell BK106.out 2).trans rfl⟩ (fun hHeld => ?_)
                     clear hK K
                     refine norm_ (a' := ?_) ?_ ?_
                     rotate_left
                     ·show Act.put _ (some 114) _ = _
                      simp only [Act.put, sA, sZ, sS, i64_w, i32_w]
                      rfl
                     refine one_ (i := 6) (N := some 115) (bl 11 127) rfl rfl (one_of HT_.out (by kernel_rfl)) (by decide) (fun K hK => ?_)
                     refine Kd.R_lit_step k28 _ 28 ?hg (N := 115) ?hd (xs := ([(⟨t102, t103, t104⟩ : Val), (⟨t193, t194, t195⟩ : Val), (⟨t196, t197, t198⟩ : Val)] : List (Val))) (inner := [.bool t102, .string t103, .int .i64 t104, .bool t193, .string t194, .int .i64 t195, .bool t196, .string t197, .int .i64 t198]) (ok := fun _ => True) (okp := fun _ => True) ?hr ?hp (fun _ hk => hk) trivial (Below.refl _ _) (Nat.le_refl _) (by simp) ?_; (case hd => rfl); (case hg => rfl); (case hr => first | (go_simp; done) | (go_simp; rfl)); (case hp => exact (Reps.c3 (show Kd.M k28 _ _ _ (⟨t102, t103, t104⟩ : Val) [.bool t102, .string t103, .int .i64 t104] from (k28_mkM _ _ _ (⟨t102, t103, t104⟩ : Val) )) (Reps.c3 (show Kd.M k28 _ _ _ (⟨t193, t194, t195⟩ : Val) [.bool t193, .string t194, .int .i64 t195] from (k28_mkM _ _ _ (⟨t193, t194, t195⟩ : Val) )) (Reps.c3 (show Kd.M k28 _ _ _ (⟨t196, t197, t198⟩ : Val) [.bool t196, .string t197, .int .i64 t198] from (k28_mkM _ _ _ (⟨t196, t197, t198⟩ : Val) )) (Reps.none _ _)))))
                     intro v200 w146 ho147 hb hg_ hnew_
                     clear hg_ hnew_
                     (first | rw [← Ny199.out] at ho147 | (simp only [Int.reduceToNat] at ho147; rw [← Ny199.out] at ho147))
                     replace HO_7 := am (Kd.N_elder' (by (with_reducible repeat (first | apply Kd.N_alloc | apply Kd.N_drewN | apply Kd.N_drew)); exact HO_7.out) (Kd.R_base ho147) hb)
                     replace HO_103 := am (Rb_ HO_103.out hb)
                     have HO201 := am (Kd.R_lower (Kd.R_newB (Kd.R_newM (M := fun k_ => (w.heap.size ≤ k_)) ho147 (below_size (pL HB.out)) (fun k_ h_ => h_)) (g := gb106) (o := .cells #[.bool t102, .string t103, .int .i64 t104] 28 (0, 0)) (pB BK106.out)) (below_size (pL HB.out)))
                     replace BK105 := am (bb_ BK105.out hb)
                     replace BK106 := am (bb_ BK106.out hb)
                     replace HB := am (bs_ HB.out hb)
                     clear hb ho147
                     obtain ⟨Ao148, co148, eo148⟩ := Kd.R_slice HO201.out
                     (first | subst eo148 | (injection eo148 with f1_ f2_ f3_; have f4_ := f1_.symm; have f5_ := f3_.symm; clear f1_ f2_ f3_; subst f4_; subst f5_))
                     refine hK.out _ _ ⟨(blk_cell BK106.out 0).trans rfl, (blk_cell BK106.out 1).trans rfl, (blk_cell BK106.out 2).trans rfl⟩ (fun hHeld => ?_)
                     clear hK K
                     refine norm_ (a' := ?_) ?_ ?_
                     rotate_left
                     ·show Act.put _ (some 115) _ = _
                      simp only [Act.put, sA, sZ, sS, i64_w, i32_w]
                      rfl
                     refine one_ (i := 7) (N := some 116) (bl 11 255) rfl rfl (one_of HT_.out (by kernel_rfl)) (by decide) (fun K hK => ?_)
                     refine goes_ Try.func20 (by kernel_rfl) rfl #[.string (⟨#[102, 108, 111, 119]⟩ : ByteArray), .slice Ao148 y199.length co148] (by rfl) rfl rfl (by (try simp only [List.map_toArray, List.map_cons, List.map_nil]); first | done | rfl | (simp only [List.length_drop, List.length_take]; rfl)) ?_
                     with_reducible refine (facts_fact.calls (⟨#[102, 108, 111, 119]⟩ : ByteArray) (fun k_ => some k_ = (.slice Ao148 y199.length co148 : Value).ownBlock) _ _ y199 t202 t203 _ ?side1 A141.out).mono ?_
                     (case side1 => exact Kd.R_V (Kd.R_tight rfl (Kd.R_types (Kd.R_apart' (Kd.R_apart' (HO201.out) (Kd.N_typed HO_7.out) (by decide)) (Kd.R_typed HO_103.out) (by decide)) BK105.out (by decide))))
                     rintro e w149 ⟨v204, rfl, ho0, hb⟩
                     refine ⟨_, rfl, ?_⟩
                     have HO205 := am (Kd.V_lower (Kd.V_mono (ok' := fun k_ => (w.heap.size ≤ k_) ∧ some k_ ≠ (u7 : Value).ownBlock ∧ some k_ ≠ (.slice (some ad192) t134.length co53 : Value).ownBlock ∧ k_ ≠ gb105 ∧ k_ ≠ gb106) ho0 (fun k_ hk_ => ⟨Or.elim hk_ (fun hs_ => ((Kd.R_types (Kd.R_apart' (Kd.R_apart' (HO201.out) (Kd.N_typed HO_7.out) (by decide)) (Kd.R_typed HO_103.out) (by decide)) BK105.out (by decide)).1 k_ hs_.symm).1.1.1.1.1) (fun hn_ => (Nat.le_trans (below_size (pL HB.out)) hn_)), Or.elim hk_ (fun hs_ => ((Kd.R_types (Kd.R_apart' (Kd.R_apart' (HO201.out) (Kd.N_typed HO_7.out) (by decide)) (Kd.R_typed HO_103.out) (by decide)) BK105.out (by decide)).1 k_ hs_.symm).1.1.2) (fun hn_ => (Kd.fresh' (Kd.N_lt (by (with_reducible repeat (first | apply Kd.N_alloc | apply Kd.N_drewN | apply Kd.N_drew)); exact HO_7.out)) k_ hn_)), Or.elim hk_ (fun hs_ => ((Kd.R_types (Kd.R_apart' (Kd.R_apart' (HO201.out) (Kd.N_typed HO_7.out) (by decide)) (Kd.R_typed HO_103.out) (by decide)) BK105.out (by decide)).1 k_ hs_.symm).1.2) (fun hn_ => (Kd.fresh' (Kd.R_lt (pR HO_103.out)) k_ hn_)), Or.elim hk_ (fun hs_ => ((Kd.R_types (Kd.R_apart' (Kd.R_apart' (HO201.out) (Kd.N_typed HO_7.out) (by decide)) (Kd.R_typed HO_103.out) (by decide)) BK105.out (by decide)).1 k_ hs_.symm).2) (fun hn_ => (Kd.freshB (g := gb105) (pB BK105.out) k_ hn_)), Or.elim hk_ (fun hs_ => ((Kd.R_types (Kd.R_apart' (Kd.R_apart' (HO201.out) (Kd.N_typed HO_7.out) (by decide)) (Kd.R_typed HO_103.out) (by decide)) BK105.out (by decide)).1 k_ hs_.symm).1.1.1.2) (fun hn_ => (Kd.freshB (g := gb106) (pB BK106.out) k_ hn_))⟩)) (below_size (pL HB.out)))
                     replace HO_7 := am (Kd.N_below (by (with_reducible repeat (first | apply Kd.N_alloc | apply Kd.N_drewN | apply Kd.N_drew)); exact HO_7.out) hb)
                     replace HO_103 := am (Rb_ HO_103.out hb)
                     replace HO201 := am (Rb_ HO201.out hb)
                     replace BK105 := am (bb_ BK105.out hb)
                     replace BK106 := am (bb_ BK106.out hb)
                     replace HB := am (bs_ HB.out hb)
                     (try clear hb)
                     (try clear hb2)
                     (try clear hk)
                     (try clear hi)
                     (try clear ho0)
                     obtain ⟨Ao151, co151, eo151⟩ := Kd.V_slice HO205.out
                     (first | subst eo151 | (injection eo151 with f1_ f2_ f3_; have f4_ := f1_.symm; have f5_ := f3_.symm; clear f1_ f2_ f3_; subst f4_; subst f5_))
                     refine hK.out _ _ ⟨(blk_cell BK106.out 0).trans rfl, (blk_cell BK106.out 1).trans rfl, (blk_cell BK106.out 2).trans rfl⟩ (fun hHeld => ?_)
                     clear hK K
                     refine norm_ (a' := ?_) ?_ ?_
                     rotate_left
                     ·show Act.put _ (some 116) _ = _
                      simp only [Act.put, sA, sZ, sS, i64_w, i32_w]
                      rfl
                     refine one_ (i := 8) (N := some 117) (bl 11 511) rfl rfl (one_of HT_.out (by kernel_rfl)) (by decide) (fun K hK => ?_)
                     refine value_ (w1 := ?_) (v := ?_) (by rfl) rfl ?_ ?_
                     rotate_left 2
                     ·go_simp
                      constructor
                      ·rfl
                      ·rfl
                     refine hK.out _ _ ⟨(blk_cell (blk_alloc BK106.out _) 0).trans rfl, (blk_cell (blk_alloc BK106.out _) 1).trans rfl, (blk_cell (blk_alloc BK106.out _) 2).trans rfl⟩ (fun hHeld => ?_)
                     clear hK K
                     refine norm_ (a' := ?_) ?_ ?_
                     rotate_left
                     ·show Act.put _ (some 117) _ = _
                      simp only [Act.put, sA, sZ, sS, i64_w, i32_w]
                      rfl
                     refine one_ (i := 9) (N := some 118) (bl 11 1023) rfl rfl (one_of HT_.out (by kernel_rfl)) (by decide) (fun K hK => ?_)
                     refine Kd.N_append_step k44 (w0 := w) w.heap.size (by rfl) (.tmp 109) (.tmp 117) 24 44 (.agg #[(.string ⟨#[]⟩), (.slice none 0 0)]) 40 rfl Try.underlying24 info44 rfl (by decide) (by omega) u7 x7_4 (⟨t202, t203⟩ : Fact) [.string t202, .slice Ao151 t203.length co151] (fun k_ => (w.heap.size ≤ k_) ∧ some k_ ≠ (.slice (some ad192) t134.length co53 : Value).ownBlock ∧ k_ ≠ gb105 ∧ k_ ≠ gb106) (fun k_ => ((fun k_ => (w.heap.size ≤ k_) ∧ some k_ ≠ (.slice (some ad192) t134.length co53 : Value).ownBlock ∧ k_ ≠ gb105 ∧ k_ ≠ gb106)) k_ ∧ some k_ ≠ (u7 : Value).ownBlock) rfl rfl ?aP (fun _ hk => hk) ?aF ?aO ?aB ?aS ?aL ?_
                     (case aP => exact (k44_mkF _ _ (⟨t202, t203⟩ : Fact) (Kd.V_reads' (Kd.V_mono (ok' := (fun k_ => ((fun k_ => (w.heap.size ≤ k_) ∧ some k_ ≠ (.slice (some ad192) t134.length co53 : Value).ownBlock ∧ k_ ≠ gb105 ∧ k_ ≠ gb106)) k_ ∧ some k_ ≠ (u7 : Value).ownBlock)) (HO205.out) (fun k_ hk => ⟨⟨hk.1, ⟨hk.2.2.1, ⟨hk.2.2.2.1, hk.2.2.2.2⟩⟩⟩, hk.2.1⟩))).2.1 (Kd.V_F (Kd.V_mono (ok' := (fun k_ => ((fun k_ => (w.heap.size ≤ k_) ∧ some k_ ≠ (.slice (some ad192) t134.length co53 : Value).ownBlock ∧ k_ ≠ gb105 ∧ k_ ≠ gb106)) k_ ∧ some k_ ≠ (u7 : Value).ownBlock)) (HO205.out) (fun k_ hk => ⟨⟨hk.1, ⟨hk.2.2.1, ⟨hk.2.2.2.1, hk.2.2.2.2⟩⟩⟩, hk.2.1⟩)))))
                     (case aB => exact (pL HB.out))
                     (case aF => exact (fun k_ hk => ⟨(Nat.le_trans (below_size (pL HB.out)) hk), Kd.fresh' (Kd.R_lt (pR HO_103.out)) k_ hk, Kd.freshB (g := gb105) (pB BK105.out) k_ hk, Kd.freshB (g := gb106) (pB BK106.out) k_ hk⟩))
                     (case aO => exact (by (with_reducible repeat (first | apply Kd.N_alloc | apply Kd.N_drewN | apply Kd.N_drew)); exact Kd.N_mono HO_7.out (fun _ hk => ⟨hk.1.1, ⟨hk.1.2.1, ⟨hk.1.2.2.1, hk.1.2.2.2⟩⟩⟩)))
                     (case aS => exact (below_size (pL HB.out)))
                     (case aL => have := LMc142.out; omega)
                     intro v207 w150 ho hb hg hat
                     rw [← Ny206.out] at ho
                     replace HO_103 := am (Kd.R_over' (pR HO_103.out) (Kd.N_typed (by (with_reducible repeat (first | apply Kd.N_alloc | apply Kd.N_drewN | apply Kd.N_drew)); exact HO_7.out)) (by decide) hg)
                     replace BK105 := am (blk_grown (pB BK105.out) hg (Kd.N_ne HO_7.out BK105.out (by decide)))
                     replace BK106 := am (blk_grown (pB BK106.out) hg (Kd.N_ne HO_7.out BK106.out (by decide)))
                     replace HO201 := am (Kd.R_over' (pR HO201.out) (Kd.N_typed (by (with_reducible repeat (first | apply Kd.N_alloc | apply Kd.N_drewN | apply Kd.N_drew)); exact HO_7.out)) (by decide) hg)
                     replace HO205 := am (Kd.V_afterv (ok := (fun k_ => (w.heap.size ≤ k_) ∧ some k_ ≠ (.slice (some ad192) t134.length co53 : Value).ownBlock ∧ k_ ≠ gb105 ∧ k_ ≠ gb106)) (by (with_reducible repeat (first | apply Va | apply Vn | apply Vd)); exact Kd.V_mono HO205.out (fun _ hk => ⟨⟨hk.1, ⟨hk.2.2.1, ⟨hk.2.2.2.1, hk.2.2.2.2⟩⟩⟩, hk.2.1⟩)) hg hat)
                     replace HB := am (hb)
                     have HO208 := am (ho)
                     clear HO_7
                     clear ho hb hg hat
                     refine hK.out _ _ ⟨(blk_cell BK106.out 0).trans rfl, (blk_cell BK106.out 1).trans rfl, (blk_cell BK106.out 2).trans rfl⟩ (fun hHeld => ?_)
                     clear hK K
                     refine norm_ (a' := ?_) ?_ ?_
                     rotate_left
                     ·show Act.put _ (some 118) _ = _
                      simp only [Act.put, sA, sZ, sS, i64_w, i32_w]
                      rfl
                     refine pure_ (i := 10) (N := some 7) (v := ?_) (a' := ?_) (bl 11 2047) rfl rfl (any_of HT_.out (by kernel_rfl)) (fun _ _ _ h => h) (Or.inl ⟨by rfl, ?_⟩) ?_ ?_
                     rotate_left
                     ·intro w'
                      go_simp
                      with_reducible rfl
                     rotate_left
                     ·simp only [Act.put, sA, sZ, sS, i64_w, i32_w]
                      rfl
                     refine done_ (done_of HT_.out (by kernel_rfl)) ?_
                     try go_wp2
                     go_roundg k4
                     case measure => have := HK1.out; have := HK2.out; have := HJ120.out; have := HK4.out; omega
                     case rel => exact ⟨(y206), (wrap64 (x105_4 + 1)), rs_, H', ⟨by have := HK1.out; have := HK2.out; have := HJ120.out; have := HK4.out; omega⟩, ⟨by (with_reducible repeat (first | apply Kd.N_alloc | apply Kd.N_drewN | apply Kd.N_drew)); exact HO208.out⟩, ⟨pR HO_103.out⟩, ⟨pB BK105.out⟩, ⟨pB BK106.out⟩, ⟨pL HB.out⟩⟩
                    ·rw [if_neg c142] at H
                     exact absurd H (by simp)
                   ·rw [if_neg c138] at H
                    exact absurd H (by simp)
                  ·rw [if_neg c137] at H
                   exact absurd H (by simp)
                 ·rw [if_neg c136] at H
                  have c136b0 : decide (x105_4 < (t134.length : Int)) = false := decide_eq_false c136
                  clear c136
                  obtain rfl := Option.some.inj H
                  go_wp2
                  go_ret
                  exact ⟨_, by first | rfl | (simp [errW_none, errW_some] <;> rfl) | (simp [*, errW_none, errW_some] <;> rfl), by (with_reducible repeat (first | apply Kd.N_alloc | apply Kd.N_drewN | apply Kd.N_drew)); exact Kd.N_mono HO_7.out (fun _ hk => hk.1), pL HB.out⟩
              ·replace c135 := Bool.eq_false_iff.mpr c135
               subst c135
               have H1 : (some y176) = some r := by rw [if_neg (show ¬ (false = true) by decide)] at H; exact H
               clear H
               have H := H1
               clear H1
               obtain rfl := Option.some.inj H
               go_wp2
               go_ret
               exact ⟨_, by first | rfl | (simp [errW_none, errW_some] <;> rfl) | (simp [*, errW_none, errW_some] <;> rfl), by (with_reducible repeat (first | apply Kd.N_alloc | apply Kd.N_drewN | apply Kd.N_drew)); exact Kd.N_mono HO_7.out (fun _ hk => hk.1), pL HB.out⟩
          ·rw [if_neg c96] at H
           exact absurd H (by simp)
         ·replace c93 := Bool.eq_false_iff.mpr c93
          subst c93
          have H1 : (some x7_2) = some r := by rw [if_neg (show ¬ (false = true) by decide)] at H; exact H
          clear H
          have H := H1
          clear H1
          obtain rfl := Option.some.inj H
          have hnb152 := NB105_106.out
          have hnc152 := NB106_105.out
          obtain ⟨hcz153_0, hcz153_1, hcz153_2, hcz153_3, hcz153_4, hcz153_5, hcz153_6, hcz153_7, hfz153_0, hfz153_1, hfz153_2, hfz153_3, hfz153_4, hfz153_5, hfz153_6, hfz153_7⟩ := bc8 BK105.out
          go_wp2_with (first | ((with_reducible refine gate_callee (f := 12) rfl ?_); refine goesL_ (some 74) rfl rfl Try.func12 (by kernel_rfl) rfl #[.agg #[.int .i64 ((rd_T33 l0 a1).kind), .string ((rd_T33 l0 a1).x), .string ((rd_T33 l0 a1).y), .string ((rd_T33 l0 a1).z), .string ((rd_T33 l0 a1).op), .int .i64 ((rd_T33 l0 a1).n), .int .i64 ((rd_T33 l0 a1).a), .int .i64 ((rd_T33 l0 a1).b)]] rfl (by (try simp only [List.map_toArray, List.map_cons, List.map_nil]); first | done | rfl | (simp only [List.length_drop, List.length_take]; rfl)) ?_; (with_reducible refine (cfg_Def.calls ((rd_T33 l0 a1).kind) ((rd_T33 l0 a1).x) ((rd_T33 l0 a1).y) ((rd_T33 l0 a1).z) ((rd_T33 l0 a1).op) ((rd_T33 l0 a1).n) ((rd_T33 l0 a1).a) ((rd_T33 l0 a1).b) t164 false _ A92.out).mono ?_); rintro e w154 ⟨rfl, hb⟩; refine ⟨_, rfl, ?_⟩; replace HO_7 := am (Kd.N_below (by (with_reducible repeat (first | apply Kd.N_alloc | apply Kd.N_drewN | apply Kd.N_drew)); exact HO_7.out) hb); replace HO_10 := am (Rb_ HO_10.out hb); replace HO_46 := am (Rb_ HO_46.out hb); replace BK105 := am (bb_ BK105.out hb); replace BK106 := am (bb_ BK106.out hb); replace HB := am (bs_ HB.out hb); (try clear hb); (try clear hb2); (try clear hk); (try clear hi)))
          go_ret
          exact ⟨_, by first | rfl | (simp [errW_none, errW_some] <;> rfl) | (simp [*, errW_none, errW_some] <;> rfl), by (with_reducible repeat (first | apply Kd.N_alloc | apply Kd.N_drewN | apply Kd.N_drew)); exact Kd.N_mono HO_7.out (fun _ hk => hk.1), pL HB.out⟩
  ·rw [if_neg c4] at H
   exact absurd H (by simp)
 ·rw [if_neg c3] at H
  exact absurd H (by simp)
end Go.Proofs.Ytoekfmdcplphmaa.H
