/- RowFactsOf of the seat's law FactsOf: the law holds, under the statement's own conditions. -/
import Derived.Test.YtoekfmdcplphmaaGreatNXFactsOf
import Derived.Shelf.GgSortFunc.InsertionK
import Derived.Shelf.SlSortCmp.NoneTotal
import Derived.Sort.Grow
import Derived.Shelf.SlSortCmp.QuietGrown
import Derived.Test.YtoekfmdcplphmaaGreatNW
set_option linter.unusedVariables false
set_option linter.unusedSimpArgs false
set_option linter.unusedSectionVars false
namespace Go.Proofs.YtoekfmdcplphmaaGreat.H
open Go.RowKit Go.Proofs.YtoekfmdcplphmaaGreatW.PrintWords Go.Proofs.YtoekfmdcplphmaaGreatW.PrintLast Go.Proofs.YtoekfmdcplphmaaGreatW.PrintMore
attribute [local go_sem] max2_int min2_int max_two min_two max_three min_three max_four min_four
mutual
def facts_one.l0 : Nat → List (Fact) → List Int → Int → Int → Int → ByteArray → ByteArray → ByteArray → ByteArray → Int → Int → Int → Bool → ByteArray → Int → Option ((List (Fact)))
 | 0, _, _, _, _, _, _, _, _, _, _, _, _, _, _, _ => none
 | k + 1, x7, x29, x30, x31, x106000, x106001, x106002, x106003, x106004, x106005, x106006, x106007, x107000, x107001, x107002 => if x31 < x30 then (if 0 ≤ x31 then (if x31 < (x29.length : Int) then ((value_Int.f (rd x29 x31)).bind fun bt121 => ((facts_fact.f (⟨#[110, 101, 120, 116]⟩ : ByteArray) (([(⟨x107000, x107001, x107002⟩ : Val), (⟨bt121.1, bt121.2.1, bt121.2.2⟩ : Val)] : List (Val)))).bind fun bt127 => (if x7.length < 3518437208883 then (facts_one.l0 k (x7 ++ [(⟨bt127.1, bt127.2⟩ : Fact)]) x29 x30 (wrap64 (x31 + 1)) x106000 x106001 x106002 x106003 x106004 x106005 x106006 x106007 x107000 x107001 x107002) else (none)))) else (none)) else (none)) else ((cfg_Uses.f x106000 x106001 x106002 x106003 x106004 x106005 x106006 x106007).bind fun t134 => (facts_one.l1 k x7 t134 t134 (t134.length : Int) 0 x106000 x106001 x106002 x106003 x106004 x106005 x106006 x106007 x107000 x107001 x107002))
def facts_one.l1 : Nat → List (Fact) → List ByteArray → List ByteArray → Int → Int → Int → ByteArray → ByteArray → ByteArray → ByteArray → Int → Int → Int → Bool → ByteArray → Int → Option ((List (Fact)))
 | 0, _, _, _, _, _, _, _, _, _, _, _, _, _, _, _, _ => none
 | k + 1, x7, x10, x46, x47, x48, x106000, x106001, x106002, x106003, x106004, x106005, x106006, x106007, x107000, x107001, x107002 => if x48 < x47 then (if 0 ≤ x48 then (if x48 < (x46.length : Int) then ((value_Sym.f (rdOf ByteArray.empty x46 x48)).bind fun bt138 => ((facts_fact.f (⟨#[117, 115, 101]⟩ : ByteArray) (([(⟨x107000, x107001, x107002⟩ : Val), (⟨bt138.1, bt138.2.1, bt138.2.2⟩ : Val)] : List (Val)))).bind fun bt144 => (if x7.length < 3518437208883 then (facts_one.j2 k (x7 ++ [(⟨bt144.1, bt144.2⟩ : Fact)]) x10 (rdOf ByteArray.empty x46 x48) x46 x47 x48 (x106000 == 6) x106000 x106001 x106002 x106003 x106004 x106005 x106006 x106007 x107000 x107001 x107002) else (none)))) else (none)) else (none)) else ((cfg_Def.f x106000 x106001 x106002 x106003 x106004 x106005 x106006 x106007).bind fun bt164 => (if bt164.2 = true then ((value_Sym.f bt164.1).bind fun bt166 => ((facts_fact.f (⟨#[100, 101, 102]⟩ : ByteArray) (([(⟨x107000, x107001, x107002⟩ : Val), (⟨bt166.1, bt166.2.1, bt166.2.2⟩ : Val)] : List (Val)))).bind fun bt172 => (if x7.length < 3518437208883 then (facts_one.j3 k (x7 ++ [(⟨bt172.1, bt172.2⟩ : Fact)]) x10 bt164.1 x106000 x107000 x107001 x107002) else (none)))) else (some x7)))
def facts_one.j2 : Nat → List (Fact) → List ByteArray → ByteArray → List ByteArray → Int → Int → Bool → Int → ByteArray → ByteArray → ByteArray → ByteArray → Int → Int → Int → Bool → ByteArray → Int → Option ((List (Fact)))
 | 0, _, _, _, _, _, _, _, _, _, _, _, _, _, _, _, _, _, _ => none
 | k + 1, x7, x10, x12, x46, x47, x48, x62, x106000, x106001, x106002, x106003, x106004, x106005, x106006, x106007, x107000, x107001, x107002 => if x62 = true then ((value_Sym.f x12).bind fun bt151 => ((facts_fact.f (⟨#[115, 105, 110, 107]⟩ : ByteArray) (([(⟨x107000, x107001, x107002⟩ : Val), (⟨bt151.1, bt151.2.1, bt151.2.2⟩ : Val)] : List (Val)))).bind fun bt157 => (if x7.length < 3518437208883 then (facts_one.l1 k (x7 ++ [(⟨bt157.1, bt157.2⟩ : Fact)]) x10 x46 x47 (wrap64 (x48 + 1)) x106000 x106001 x106002 x106003 x106004 x106005 x106006 x106007 x107000 x107001 x107002) else (none)))) else (facts_one.l1 k x7 x10 x46 x47 (wrap64 (x48 + 1)) x106000 x106001 x106002 x106003 x106004 x106005 x106006 x106007 x107000 x107001 x107002)
def facts_one.j3 : Nat → List (Fact) → List ByteArray → ByteArray → Int → Bool → ByteArray → Int → Option ((List (Fact)))
 | 0, _, _, _, _, _, _, _ => none
 | k + 1, x7, x10, x13, x89, x107000, x107001, x107002 => if x89 = 4 then ((value_Sym.f x13).bind fun bt179 => ((facts_fact.f (⟨#[115, 111, 117, 114, 99, 101]⟩ : ByteArray) (([(⟨x107000, x107001, x107002⟩ : Val), (⟨bt179.1, bt179.2.1, bt179.2.2⟩ : Val)] : List (Val)))).bind fun bt185 => (if x7.length < 3518437208883 then (some (x7 ++ [(⟨bt185.1, bt185.2⟩ : Fact)])) else (none)))) else (if x89 = 2 then (facts_one.j4 k x7 x10 x13 (x89 == 2) x107000 x107001 x107002) else (facts_one.j4 k x7 x10 x13 (x89 == 3) x107000 x107001 x107002))
def facts_one.j4 : Nat → List (Fact) → List ByteArray → ByteArray → Bool → Bool → ByteArray → Int → Option ((List (Fact)))
 | 0, _, _, _, _, _, _, _ => none
 | k + 1, x7, x10, x13, x100, x107000, x107001, x107002 => if x100 = true then (facts_one.l2 k x7 x13 x10 (x10.length : Int) 0 x107000 x107001 x107002) else (some x7)
def facts_one.l2 : Nat → List (Fact) → ByteArray → List ByteArray → Int → Int → Bool → ByteArray → Int → Option ((List (Fact)))
 | 0, _, _, _, _, _, _, _, _ => none
 | k + 1, x7, x13, x103, x104, x105, x107000, x107001, x107002 => if x105 < x104 then (if 0 ≤ x105 then (if x105 < (x103.length : Int) then ((value_Sym.f x13).bind fun bt193 => ((value_Sym.f (rdOf ByteArray.empty x103 x105)).bind fun bt196 => ((facts_fact.f (⟨#[102, 108, 111, 119]⟩ : ByteArray) (([(⟨x107000, x107001, x107002⟩ : Val), (⟨bt193.1, bt193.2.1, bt193.2.2⟩ : Val), (⟨bt196.1, bt196.2.1, bt196.2.2⟩ : Val)] : List (Val)))).bind fun bt202 => (if x7.length < 3518437208883 then (facts_one.l2 k (x7 ++ [(⟨bt202.1, bt202.2⟩ : Fact)]) x13 x103 x104 (wrap64 (x105 + 1)) x107000 x107001 x107002) else (none))))) else (none)) else (none)) else (some x7)
end
def facts_one.f (k : Nat) (l0 : List (Stmt)) (a1 : Int) : Option ((List (Fact))) := if 0 ≤ a1 then (if a1 < (l0.length : Int) then ((value_Int.f a1).bind fun bt102 => ((facts_fact.f (⟨#[110, 111, 100, 101]⟩ : ByteArray) (([(⟨bt102.1, bt102.2.1, bt102.2.2⟩ : Val)] : List (Val)))).bind fun bt110 => ((cfg_Next.f l0 a1).bind fun t117 => (facts_one.l0 k (([(⟨bt110.1, bt110.2⟩ : Fact)] : List (Fact))) t117 (t117.length : Int) 0 ((rd_T34 l0 a1).kind) ((rd_T34 l0 a1).x) ((rd_T34 l0 a1).y) ((rd_T34 l0 a1).z) ((rd_T34 l0 a1).op) ((rd_T34 l0 a1).n) ((rd_T34 l0 a1).a) ((rd_T34 l0 a1).b) bt102.1 bt102.2.1 bt102.2.2)))) else (none)) else (none)
theorem facts_one.mono_l : ∀ k, (∀ y0 y1 y2 y3 y4 y5 y6 y7 y8 y9 y10 y11 y12 y13 y14, LeO (facts_one.l0 k y0 y1 y2 y3 y4 y5 y6 y7 y8 y9 y10 y11 y12 y13 y14) (facts_one.l0 (k + 1) y0 y1 y2 y3 y4 y5 y6 y7 y8 y9 y10 y11 y12 y13 y14)) ∧ (∀ y0 y1 y2 y3 y4 y5 y6 y7 y8 y9 y10 y11 y12 y13 y14 y15, LeO (facts_one.l1 k y0 y1 y2 y3 y4 y5 y6 y7 y8 y9 y10 y11 y12 y13 y14 y15) (facts_one.l1 (k + 1) y0 y1 y2 y3 y4 y5 y6 y7 y8 y9 y10 y11 y12 y13 y14 y15)) ∧ (∀ y0 y1 y2 y3 y4 y5 y6 y7 y8 y9 y10 y11 y12 y13 y14 y15 y16 y17, LeO (facts_one.j2 k y0 y1 y2 y3 y4 y5 y6 y7 y8 y9 y10 y11 y12 y13 y14 y15 y16 y17) (facts_one.j2 (k + 1) y0 y1 y2 y3 y4 y5 y6 y7 y8 y9 y10 y11 y12 y13 y14 y15 y16 y17)) ∧ (∀ y0 y1 y2 y3 y4 y5 y6, LeO (facts_one.j3 k y0 y1 y2 y3 y4 y5 y6) (facts_one.j3 (k + 1) y0 y1 y2 y3 y4 y5 y6)) ∧ (∀ y0 y1 y2 y3 y4 y5 y6, LeO (facts_one.j4 k y0 y1 y2 y3 y4 y5 y6) (facts_one.j4 (k + 1) y0 y1 y2 y3 y4 y5 y6)) ∧ (∀ y0 y1 y2 y3 y4 y5 y6 y7, LeO (facts_one.l2 k y0 y1 y2 y3 y4 y5 y6 y7) (facts_one.l2 (k + 1) y0 y1 y2 y3 y4 y5 y6 y7))
 | 0 => ⟨fun _ _ _ _ _ _ _ _ _ _ _ _ _ _ _ r h => by simp [facts_one.l0] at h, fun _ _ _ _ _ _ _ _ _ _ _ _ _ _ _ _ r h => by simp [facts_one.l1] at h, fun _ _ _ _ _ _ _ _ _ _ _ _ _ _ _ _ _ _ r h => by simp [facts_one.j2] at h, fun _ _ _ _ _ _ _ r h => by simp [facts_one.j3] at h, fun _ _ _ _ _ _ _ r h => by simp [facts_one.j4] at h, fun _ _ _ _ _ _ _ _ r h => by simp [facts_one.l2] at h⟩
 | k + 1 => by
  obtain ⟨ih0, ih1, ih2, ih3, ih4, ih5⟩ := facts_one.mono_l k
  refine ⟨?_, ?_, ?_, ?_, ?_, ?_⟩
  ·intro y0 y1 y2 y3 y4 y5 y6 y7 y8 y9 y10 y11 y12 y13 y14
   unfold facts_one.l0
   repeat' first
   | (with_reducible exact ih0 _ _ _ _ _ _ _ _ _ _ _ _ _ _ _)
   | (with_reducible exact ih1 _ _ _ _ _ _ _ _ _ _ _ _ _ _ _ _)
   | (with_reducible exact ih2 _ _ _ _ _ _ _ _ _ _ _ _ _ _ _ _ _ _)
   | (with_reducible exact ih3 _ _ _ _ _ _ _)
   | (with_reducible exact ih4 _ _ _ _ _ _ _)
   | (with_reducible exact ih5 _ _ _ _ _ _ _ _)
   | (with_reducible exact LeO.refl _)
   | (with_reducible exact LeO.none _)
   | (with_reducible refine LeO.ite ?_ ?_)
   | (with_reducible refine LeO.bind ?_ (fun _ => ?_))
   | exact ih0 _ _ _ _ _ _ _ _ _ _ _ _ _ _ _
   | exact ih1 _ _ _ _ _ _ _ _ _ _ _ _ _ _ _ _
   | exact ih2 _ _ _ _ _ _ _ _ _ _ _ _ _ _ _ _ _ _
   | exact ih3 _ _ _ _ _ _ _
   | exact ih4 _ _ _ _ _ _ _
   | exact ih5 _ _ _ _ _ _ _ _
   | exact LeO.none _
   | refine LeO.ite ?_ ?_
   | refine LeO.bind ?_ (fun _ => ?_)
  ·intro y0 y1 y2 y3 y4 y5 y6 y7 y8 y9 y10 y11 y12 y13 y14 y15
   unfold facts_one.l1
   repeat' first
   | (with_reducible exact ih0 _ _ _ _ _ _ _ _ _ _ _ _ _ _ _)
   | (with_reducible exact ih1 _ _ _ _ _ _ _ _ _ _ _ _ _ _ _ _)
   | (with_reducible exact ih2 _ _ _ _ _ _ _ _ _ _ _ _ _ _ _ _ _ _)
   | (with_reducible exact ih3 _ _ _ _ _ _ _)
   | (with_reducible exact ih4 _ _ _ _ _ _ _)
   | (with_reducible exact ih5 _ _ _ _ _ _ _ _)
   | (with_reducible exact LeO.refl _)
   | (with_reducible exact LeO.none _)
   | (with_reducible refine LeO.ite ?_ ?_)
   | (with_reducible refine LeO.bind ?_ (fun _ => ?_))
   | exact ih0 _ _ _ _ _ _ _ _ _ _ _ _ _ _ _
   | exact ih1 _ _ _ _ _ _ _ _ _ _ _ _ _ _ _ _
   | exact ih2 _ _ _ _ _ _ _ _ _ _ _ _ _ _ _ _ _ _
   | exact ih3 _ _ _ _ _ _ _
   | exact ih4 _ _ _ _ _ _ _
   | exact ih5 _ _ _ _ _ _ _ _
   | exact LeO.none _
   | refine LeO.ite ?_ ?_
   | refine LeO.bind ?_ (fun _ => ?_)
  ·intro y0 y1 y2 y3 y4 y5 y6 y7 y8 y9 y10 y11 y12 y13 y14 y15 y16 y17
   unfold facts_one.j2
   repeat' first
   | (with_reducible exact ih0 _ _ _ _ _ _ _ _ _ _ _ _ _ _ _)
   | (with_reducible exact ih1 _ _ _ _ _ _ _ _ _ _ _ _ _ _ _ _)
   | (with_reducible exact ih2 _ _ _ _ _ _ _ _ _ _ _ _ _ _ _ _ _ _)
   | (with_reducible exact ih3 _ _ _ _ _ _ _)
   | (with_reducible exact ih4 _ _ _ _ _ _ _)
   | (with_reducible exact ih5 _ _ _ _ _ _ _ _)
   | (with_reducible exact LeO.refl _)
   | (with_reducible exact LeO.none _)
   | (with_reducible refine LeO.ite ?_ ?_)
   | (with_reducible refine LeO.bind ?_ (fun _ => ?_))
   | exact ih0 _ _ _ _ _ _ _ _ _ _ _ _ _ _ _
   | exact ih1 _ _ _ _ _ _ _ _ _ _ _ _ _ _ _ _
   | exact ih2 _ _ _ _ _ _ _ _ _ _ _ _ _ _ _ _ _ _
   | exact ih3 _ _ _ _ _ _ _
   | exact ih4 _ _ _ _ _ _ _
   | exact ih5 _ _ _ _ _ _ _ _
   | exact LeO.none _
   | refine LeO.ite ?_ ?_
   | refine LeO.bind ?_ (fun _ => ?_)
  ·intro y0 y1 y2 y3 y4 y5 y6
   unfold facts_one.j3
   repeat' first
   | (with_reducible exact ih0 _ _ _ _ _ _ _ _ _ _ _ _ _ _ _)
   | (with_reducible exact ih1 _ _ _ _ _ _ _ _ _ _ _ _ _ _ _ _)
   | (with_reducible exact ih2 _ _ _ _ _ _ _ _ _ _ _ _ _ _ _ _ _ _)
   | (with_reducible exact ih3 _ _ _ _ _ _ _)
   | (with_reducible exact ih4 _ _ _ _ _ _ _)
   | (with_reducible exact ih5 _ _ _ _ _ _ _ _)
   | (with_reducible exact LeO.refl _)
   | (with_reducible exact LeO.none _)
   | (with_reducible refine LeO.ite ?_ ?_)
   | (with_reducible refine LeO.bind ?_ (fun _ => ?_))
   | exact ih0 _ _ _ _ _ _ _ _ _ _ _ _ _ _ _
   | exact ih1 _ _ _ _ _ _ _ _ _ _ _ _ _ _ _ _
   | exact ih2 _ _ _ _ _ _ _ _ _ _ _ _ _ _ _ _ _ _
   | exact ih3 _ _ _ _ _ _ _
   | exact ih4 _ _ _ _ _ _ _
   | exact ih5 _ _ _ _ _ _ _ _
   | exact LeO.none _
   | refine LeO.ite ?_ ?_
   | refine LeO.bind ?_ (fun _ => ?_)
  ·intro y0 y1 y2 y3 y4 y5 y6
   unfold facts_one.j4
   repeat' first
   | (with_reducible exact ih0 _ _ _ _ _ _ _ _ _ _ _ _ _ _ _)
   | (with_reducible exact ih1 _ _ _ _ _ _ _ _ _ _ _ _ _ _ _ _)
   | (with_reducible exact ih2 _ _ _ _ _ _ _ _ _ _ _ _ _ _ _ _ _ _)
   | (with_reducible exact ih3 _ _ _ _ _ _ _)
   | (with_reducible exact ih4 _ _ _ _ _ _ _)
   | (with_reducible exact ih5 _ _ _ _ _ _ _ _)
   | (with_reducible exact LeO.refl _)
   | (with_reducible exact LeO.none _)
   | (with_reducible refine LeO.ite ?_ ?_)
   | (with_reducible refine LeO.bind ?_ (fun _ => ?_))
   | exact ih0 _ _ _ _ _ _ _ _ _ _ _ _ _ _ _
   | exact ih1 _ _ _ _ _ _ _ _ _ _ _ _ _ _ _ _
   | exact ih2 _ _ _ _ _ _ _ _ _ _ _ _ _ _ _ _ _ _
   | exact ih3 _ _ _ _ _ _ _
   | exact ih4 _ _ _ _ _ _ _
   | exact ih5 _ _ _ _ _ _ _ _
   | exact LeO.none _
   | refine LeO.ite ?_ ?_
   | refine LeO.bind ?_ (fun _ => ?_)
  intro y0 y1 y2 y3 y4 y5 y6 y7
  unfold facts_one.l2
  repeat' first
  | (with_reducible exact ih0 _ _ _ _ _ _ _ _ _ _ _ _ _ _ _)
  | (with_reducible exact ih1 _ _ _ _ _ _ _ _ _ _ _ _ _ _ _ _)
  | (with_reducible exact ih2 _ _ _ _ _ _ _ _ _ _ _ _ _ _ _ _ _ _)
  | (with_reducible exact ih3 _ _ _ _ _ _ _)
  | (with_reducible exact ih4 _ _ _ _ _ _ _)
  | (with_reducible exact ih5 _ _ _ _ _ _ _ _)
  | (with_reducible exact LeO.refl _)
  | (with_reducible exact LeO.none _)
  | (with_reducible refine LeO.ite ?_ ?_)
  | (with_reducible refine LeO.bind ?_ (fun _ => ?_))
  | exact ih0 _ _ _ _ _ _ _ _ _ _ _ _ _ _ _
  | exact ih1 _ _ _ _ _ _ _ _ _ _ _ _ _ _ _ _
  | exact ih2 _ _ _ _ _ _ _ _ _ _ _ _ _ _ _ _ _ _
  | exact ih3 _ _ _ _ _ _ _
  | exact ih4 _ _ _ _ _ _ _
  | exact ih5 _ _ _ _ _ _ _ _
  | exact LeO.none _
  | refine LeO.ite ?_ ?_
  | refine LeO.bind ?_ (fun _ => ?_)
theorem facts_one.mono : ∀ a0 a1 k, LeO (facts_one.f k a0 a1) (facts_one.f (k + 1) a0 a1) := by
 intro a0 a1 k
 obtain ⟨ih0, ih1, ih2, ih3, ih4, ih5⟩ := facts_one.mono_l k
 unfold facts_one.f
 repeat' first
   | (with_reducible exact ih0 _ _ _ _ _ _ _ _ _ _ _ _ _ _ _)
   | (with_reducible exact ih1 _ _ _ _ _ _ _ _ _ _ _ _ _ _ _ _)
   | (with_reducible exact ih2 _ _ _ _ _ _ _ _ _ _ _ _ _ _ _ _ _ _)
   | (with_reducible exact ih3 _ _ _ _ _ _ _)
   | (with_reducible exact ih4 _ _ _ _ _ _ _)
   | (with_reducible exact ih5 _ _ _ _ _ _ _ _)
   | (with_reducible exact LeO.refl _)
   | (with_reducible exact LeO.none _)
   | (with_reducible refine LeO.ite ?_ ?_)
   | (with_reducible refine LeO.bind ?_ (fun _ => ?_))
   | exact ih0 _ _ _ _ _ _ _ _ _ _ _ _ _ _ _
   | exact ih1 _ _ _ _ _ _ _ _ _ _ _ _ _ _ _ _
   | exact ih2 _ _ _ _ _ _ _ _ _ _ _ _ _ _ _ _ _ _
   | exact ih3 _ _ _ _ _ _ _
   | exact ih4 _ _ _ _ _ _ _
   | exact ih5 _ _ _ _ _ _ _ _
   | exact LeO.none _
   | refine LeO.ite ?_ ?_
   | refine LeO.bind ?_ (fun _ => ?_)
def facts_one.T1 : Bool × List (List Nat × List Nat) := (true, [([], []), ([], []), ([0, 1], [0, 1]), ([2], [2]), ([], []), ([4], [4]), ([], []), ([], []), ([6, 3, 5, 0, 1, 2, 3, 6, 7], [3, 6]), ([7, 5, 8, 0, 1, 2, 3, 4, 5, 6, 7, 8], [5, 7])])
def facts_one.B1 : List Nat := [0, 0, 3, 7, 0, 16, 0, 0, 255, 511]
theorem facts_one.tab1 : rtab .any (opsOf Tryz.f13 1) = facts_one.T1 := by kernel_rfl
theorem facts_one.bits1 : waitsOk facts_one.T1.2 facts_one.B1 = true := by kernel_rfl
def facts_one.T6 : Bool × List (List Nat × List Nat) := (true, [([], []), ([], []), ([], []), ([2], [2]), ([1, 3], [1, 3]), ([4, 3], [4]), ([5], [5]), ([0, 6, 5], [0, 6]), ([7, 7, 0, 1, 2, 3, 4, 5, 6, 7], [0, 7])])
def facts_one.B6 : List Nat := [0, 0, 0, 4, 14, 30, 62, 127, 255]
theorem facts_one.tab6 : rtab .any (opsOf Tryz.f13 6) = facts_one.T6 := by kernel_rfl
theorem facts_one.bits6 : waitsOk facts_one.T6.2 facts_one.B6 = true := by kernel_rfl
def facts_one.T12 : Bool × List (List Nat × List Nat) := (true, [([], []), ([], []), ([], []), ([2], [2]), ([1, 3], [1, 3]), ([4, 3], [4]), ([5], [5]), ([0, 6, 5], [0, 6]), ([7, 7, 0, 1, 2, 3, 4, 5, 6, 7], [0, 7])])
def facts_one.B12 : List Nat := [0, 0, 0, 4, 14, 30, 62, 127, 255]
theorem facts_one.tab12 : rtab .any (opsOf Tryz.f13 12) = facts_one.T12 := by kernel_rfl
theorem facts_one.bits12 : waitsOk facts_one.T12.2 facts_one.B12 = true := by kernel_rfl
def facts_one.T14 : Bool × List (List Nat × List Nat) := (true, [([], []), ([], []), ([], []), ([2], [2]), ([1, 3], [1, 3]), ([4, 3], [4]), ([5], [5]), ([0, 6, 5], [0, 6]), ([7, 7, 0, 1, 2, 3, 4, 5, 6, 7], [0, 7])])
def facts_one.B14 : List Nat := [0, 0, 0, 4, 14, 30, 62, 127, 255]
theorem facts_one.tab14 : rtab .any (opsOf Tryz.f13 14) = facts_one.T14 := by kernel_rfl
theorem facts_one.bits14 : waitsOk facts_one.T14.2 facts_one.B14 = true := by kernel_rfl
def facts_one.T19 : Bool × List (List Nat × List Nat) := (true, [([], []), ([], []), ([], []), ([2], [2]), ([1, 3], [1, 3]), ([4, 3], [4]), ([5], [5]), ([0, 6, 5], [0, 6]), ([7, 7, 0, 1, 2, 3, 4, 5, 6, 7], [0, 7])])
def facts_one.B19 : List Nat := [0, 0, 0, 4, 14, 30, 62, 127, 255]
theorem facts_one.tab19 : rtab .any (opsOf Tryz.f13 19) = facts_one.T19 := by kernel_rfl
theorem facts_one.bits19 : waitsOk facts_one.T19.2 facts_one.B19 = true := by kernel_rfl
def facts_one.T22 : Bool × List (List Nat × List Nat) := (true, [([], []), ([], []), ([], []), ([2], [2]), ([1, 3], [1, 3]), ([4, 3], [4]), ([5], [5]), ([0, 6, 5], [0, 6]), ([7, 7, 0, 1, 2, 3, 4, 5, 6, 7], [0, 7])])
def facts_one.B22 : List Nat := [0, 0, 0, 4, 14, 30, 62, 127, 255]
theorem facts_one.tab22 : rtab .any (opsOf Tryz.f13 22) = facts_one.T22 := by kernel_rfl
theorem facts_one.bits22 : waitsOk facts_one.T22.2 facts_one.B22 = true := by kernel_rfl
def facts_one.T28 : Bool × List (List Nat × List Nat) := (true, [([], []), ([], []), ([], []), ([2], [2]), ([], []), ([4, 3], [4]), ([1, 3, 5], [1, 3, 5]), ([6, 5], [6]), ([7], [7]), ([0, 8, 7], [0, 8]), ([9, 9, 0, 1, 2, 3, 4, 5, 6, 7, 8, 9], [0, 9])])
def facts_one.B28 : List Nat := [0, 0, 0, 4, 0, 28, 62, 126, 254, 511, 1023]
theorem facts_one.tab28 : rtab .any (opsOf Tryz.f13 28) = facts_one.T28 := by kernel_rfl
theorem facts_one.bits28 : waitsOk facts_one.T28.2 facts_one.B28 = true := by kernel_rfl
set_option maxHeartbeats 8000000 in
set_option maxRecDepth 100000 in
theorem facts_one.calls (k : Nat) (A0 : Option Addr) (c0 : Nat) (l0 : List (Stmt)) (a1 : Int) (r : List (Fact)) (w : World) (hr0 : Kd.C k34 w A0 l0.length l0) (hc0 : l0.length ≤ c0) (h : facts_one.f k l0 a1 = some r) :
  Calls Tryz.prog 13 #[.slice A0 l0.length c0, .int .i64 a1] w fun e w' => ∃ v0_ : Value, e = .returned (v0_) ∧ Kd.N k26 26 w' w.heap.size (fun k_ => (w.heap.size ≤ k_)) v0_ r ∧ Below w.heap.size w w' := by
 have hu34 := Tryz.underlying34
 have hu36 := Tryz.underlying36
 have HR0 := am hr0
 have HC0 := am hc0
 clear hr0 hc0
 have HB := am (Below.refl w.heap.size w)
 have H : (if 0 ≤ a1 then (if a1 < (l0.length : Int) then ((value_Int.f a1).bind fun bt102 => ((facts_fact.f (⟨#[110, 111, 100, 101]⟩ : ByteArray) (([(⟨bt102.1, bt102.2.1, bt102.2.2⟩ : Val)] : List (Val)))).bind fun bt110 => ((cfg_Next.f l0 a1).bind fun t117 => (facts_one.l0 k (([(⟨bt110.1, bt110.2⟩ : Fact)] : List (Fact))) t117 (t117.length : Int) 0 ((rd_T34 l0 a1).kind) ((rd_T34 l0 a1).x) ((rd_T34 l0 a1).y) ((rd_T34 l0 a1).z) ((rd_T34 l0 a1).op) ((rd_T34 l0 a1).n) ((rd_T34 l0 a1).a) ((rd_T34 l0 a1).b) bt102.1 bt102.2.1 bt102.2.2)))) else (none)) else (none)) = some r := h
 clear h
 by_cases c3 : 0 ≤ a1
 rotate_left
 ·rw [if_neg c3] at H
  exact absurd H (by simp)
 rw [if_pos c3] at H
 have c3b0 : decide (0 ≤ a1) = true := decide_eq_true c3
 clear c3
 by_cases c4 : a1 < (l0.length : Int)
 rotate_left
 ·rw [if_neg c4] at H
  exact absurd H (by simp)
 rw [if_pos c4] at H
 have c4b0 : decide (a1 < (l0.length : Int)) = true := decide_eq_true c4
 clear c4
 replace H := Option.bind_eq_some_iff.mp H
 obtain ⟨⟨t102, t103, t104⟩, A50, H⟩ := H
 replace H : ((facts_fact.f (⟨#[110, 111, 100, 101]⟩ : ByteArray) (([(⟨t102, t103, t104⟩ : Val)] : List (Val)))).bind fun bt110 => ((cfg_Next.f l0 a1).bind fun t117 => (facts_one.l0 k (([(⟨bt110.1, bt110.2⟩ : Fact)] : List (Fact))) t117 (t117.length : Int) 0 ((rd_T34 l0 a1).kind) ((rd_T34 l0 a1).x) ((rd_T34 l0 a1).y) ((rd_T34 l0 a1).z) ((rd_T34 l0 a1).op) ((rd_T34 l0 a1).n) ((rd_T34 l0 a1).a) ((rd_T34 l0 a1).b) t102 t103 t104))) = some r := H
 have A5 := am A50
 clear A50
 obtain ⟨y107, hy107⟩ : ∃ y_ : List (Val), y_ = (([(⟨t102, t103, t104⟩ : Val)] : List (Val))) := ⟨_, rfl⟩
 replace H : ((facts_fact.f (⟨#[110, 111, 100, 101]⟩ : ByteArray) y107).bind fun bt110 => ((cfg_Next.f l0 a1).bind fun t117 => (facts_one.l0 k (([(⟨bt110.1, bt110.2⟩ : Fact)] : List (Fact))) t117 (t117.length : Int) 0 ((rd_T34 l0 a1).kind) ((rd_T34 l0 a1).x) ((rd_T34 l0 a1).y) ((rd_T34 l0 a1).z) ((rd_T34 l0 a1).op) ((rd_T34 l0 a1).n) ((rd_T34 l0 a1).a) ((rd_T34 l0 a1).b) t102 t103 t104))) = some r := by first | (rw [hy107]; with_reducible exact H) | (have H2_ := (Option.bind_some _ _).symm.trans H; rw [hy107]; with_reducible exact H2_) | (have H2_ := (Option.bind_some _ _).symm.trans H; with_reducible exact H2_) | with_reducible exact H | (rw [hy107]; exact H) | exact H
 have Ny107 := am hy107
 clear hy107
 replace H := Option.bind_eq_some_iff.mp H
 obtain ⟨⟨t110, t111⟩, A60, H⟩ := H
 replace H : ((cfg_Next.f l0 a1).bind fun t117 => (facts_one.l0 k (([(⟨t110, t111⟩ : Fact)] : List (Fact))) t117 (t117.length : Int) 0 ((rd_T34 l0 a1).kind) ((rd_T34 l0 a1).x) ((rd_T34 l0 a1).y) ((rd_T34 l0 a1).z) ((rd_T34 l0 a1).op) ((rd_T34 l0 a1).n) ((rd_T34 l0 a1).a) ((rd_T34 l0 a1).b) t102 t103 t104)) = some r := H
 have A6 := am A60
 clear A60
 obtain ⟨y114, hy114⟩ : ∃ y_ : List (Fact), y_ = (([(⟨t110, t111⟩ : Fact)] : List (Fact))) := ⟨_, rfl⟩
 replace H : ((cfg_Next.f l0 a1).bind fun t117 => (facts_one.l0 k y114 t117 (t117.length : Int) 0 ((rd_T34 l0 a1).kind) ((rd_T34 l0 a1).x) ((rd_T34 l0 a1).y) ((rd_T34 l0 a1).z) ((rd_T34 l0 a1).op) ((rd_T34 l0 a1).n) ((rd_T34 l0 a1).a) ((rd_T34 l0 a1).b) t102 t103 t104)) = some r := by first | (rw [hy114]; with_reducible exact H) | (have H2_ := (Option.bind_some _ _).symm.trans H; rw [hy114]; with_reducible exact H2_) | (have H2_ := (Option.bind_some _ _).symm.trans H; with_reducible exact H2_) | with_reducible exact H | (rw [hy114]; exact H) | exact H
 have Ny114 := am hy114
 clear hy114
 replace H := Option.bind_eq_some_iff.mp H
 obtain ⟨t117, A70, H⟩ := H
 replace H : (facts_one.l0 k y114 t117 (t117.length : Int) 0 ((rd_T34 l0 a1).kind) ((rd_T34 l0 a1).x) ((rd_T34 l0 a1).y) ((rd_T34 l0 a1).z) ((rd_T34 l0 a1).op) ((rd_T34 l0 a1).n) ((rd_T34 l0 a1).a) ((rd_T34 l0 a1).b) t102 t103 t104) = some r := H
 have A7 := am A70
 clear A70
 have H' := am H
 clear H
 go_enter Tryz.func13, Tryz.ntmps13
 try go_wp2
 replace HB := am (below_drew1 HB.out)
 have p101 : 0 ≤ (a1 : Int) := dt_
 have q101 : a1 < (l0.length : Int) := dt_
 obtain ⟨ad101, e101, hx101_0, hx101_1, hx101_2, hx101_3, hx101_4, hx101_5, hx101_6, hx101_7⟩ := at_T34 HR0.out a1 p101 q101
 have hw101_7 := hx101_7
 have hw101_6 := hx101_6
 have hw101_5 := hx101_5
 have hw101_4 := hx101_4
 have hw101_3 := hx101_3
 have hw101_2 := hx101_2
 have hw101_1 := hx101_1
 have hw101_0 := hx101_0
 cases e101
 replace hx101_0 := up_ HB.out hx101_0
 replace hx101_1 := up_ HB.out hx101_1
 replace hx101_2 := up_ HB.out hx101_2
 replace hx101_3 := up_ HB.out hx101_3
 replace hx101_4 := up_ HB.out hx101_4
 replace hx101_5 := up_ HB.out hx101_5
 replace hx101_6 := up_ HB.out hx101_6
 replace hx101_7 := up_ HB.out hx101_7
 replace p101 := eq_true p101
 replace q101 := eq_true q101
 refine start_ (n := 10) (S := fun w' => w'.cell? (ad101.add ((a1).toNat * 8)) = some (.int .i64 ((rd_T34 l0 a1).kind)) ∧ w'.cell? ⟨(ad101.add ((a1).toNat * 8)).block, (ad101.add ((a1).toNat * 8)).off + 1, none⟩ = some (.string ((rd_T34 l0 a1).x)) ∧ w'.cell? ⟨(ad101.add ((a1).toNat * 8)).block, (ad101.add ((a1).toNat * 8)).off + 2, none⟩ = some (.string ((rd_T34 l0 a1).y)) ∧ w'.cell? ⟨(ad101.add ((a1).toNat * 8)).block, (ad101.add ((a1).toNat * 8)).off + 3, none⟩ = some (.string ((rd_T34 l0 a1).z)) ∧ w'.cell? ⟨(ad101.add ((a1).toNat * 8)).block, (ad101.add ((a1).toNat * 8)).off + 4, none⟩ = some (.string ((rd_T34 l0 a1).op)) ∧ w'.cell? ⟨(ad101.add ((a1).toNat * 8)).block, (ad101.add ((a1).toNat * 8)).off + 5, none⟩ = some (.int .i64 ((rd_T34 l0 a1).n)) ∧ w'.cell? ⟨(ad101.add ((a1).toNat * 8)).block, (ad101.add ((a1).toNat * 8)).off + 6, none⟩ = some (.int .i64 ((rd_T34 l0 a1).a)) ∧ w'.cell? ⟨(ad101.add ((a1).toNat * 8)).block, (ad101.add ((a1).toNat * 8)).off + 7, none⟩ = some (.int .i64 ((rd_T34 l0 a1).b))) (ds := []) (bl 10 0) (by kernel_rfl) rfl rfl ⟨(up_ HB.out hw101_0), (up_ HB.out hw101_1), (up_ HB.out hw101_2), (up_ HB.out hw101_3), (up_ HB.out hw101_4), (up_ HB.out hw101_5), (up_ HB.out hw101_6), (up_ HB.out hw101_7)⟩ (fun hHeld => ?_); refine with_tabW facts_one.tab1 facts_one.bits1 (fun HT_ HW_ => ?_)
 generalize w.drew = w8 at HB hx101_0 hx101_1 hx101_2 hx101_3 hx101_4 hx101_5 hx101_6 hx101_7 hHeld ⊢
 refine pu_ (i := 0) (N := some 17) (bl 10 1) rfl rfl (any_of HT_.out (by kernel_rfl)) ?_
 refine pu_ (i := 1) (N := some 18) (bl 10 3) rfl rfl (any_of HT_.out (by kernel_rfl)) ?_
 refine pu_ (i := 2) (N := some 19) (bl 10 7) rfl rfl (any_of HT_.out (by kernel_rfl)) ?_
 refine pu_ (i := 4) (N := some 21) (bl 10 23) rfl rfl (any_of HT_.out (by kernel_rfl)) ?_
 refine take_ (i := 3) (N := some 20) (v := ?_) (a' := ?_) (bl 10 31) rfl rfl (take_ofW HT_.out HW_.out (by kernel_rfl)) (fun _ _ _ h => h) (Or.inl ⟨by rfl, ?_⟩) hHeld ?_ ?_
 rotate_left
 ·rintro w' ⟨s0, s1, s2, s3, s4, s5, s6, s7⟩
  go_simp
  with_reducible rfl
 rotate_left
 ·simp only [Act.put, sA, sZ, sS, i64_w, i32_w]
  rfl
 refine join_ (σ := Nat × Nat) 2 (bl 10 255) (fun s_ => [(22, .agg #[.bool t102, .string t103, .int .i64 t104]), (5, .pointer (some ⟨s_.1, 0, none⟩)), (6, .pointer (some ⟨s_.2, 0, none⟩))]) (fun s_ w' => (w'.cell? (ad101.add ((a1).toNat * 8)) = some (.int .i64 ((rd_T34 l0 a1).kind)) ∧ w'.cell? ⟨(ad101.add ((a1).toNat * 8)).block, (ad101.add ((a1).toNat * 8)).off + 1, none⟩ = some (.string ((rd_T34 l0 a1).x)) ∧ w'.cell? ⟨(ad101.add ((a1).toNat * 8)).block, (ad101.add ((a1).toNat * 8)).off + 2, none⟩ = some (.string ((rd_T34 l0 a1).y)) ∧ w'.cell? ⟨(ad101.add ((a1).toNat * 8)).block, (ad101.add ((a1).toNat * 8)).off + 3, none⟩ = some (.string ((rd_T34 l0 a1).z)) ∧ w'.cell? ⟨(ad101.add ((a1).toNat * 8)).block, (ad101.add ((a1).toNat * 8)).off + 4, none⟩ = some (.string ((rd_T34 l0 a1).op)) ∧ w'.cell? ⟨(ad101.add ((a1).toNat * 8)).block, (ad101.add ((a1).toNat * 8)).off + 5, none⟩ = some (.int .i64 ((rd_T34 l0 a1).n)) ∧ w'.cell? ⟨(ad101.add ((a1).toNat * 8)).block, (ad101.add ((a1).toNat * 8)).off + 6, none⟩ = some (.int .i64 ((rd_T34 l0 a1).a)) ∧ w'.cell? ⟨(ad101.add ((a1).toNat * 8)).block, (ad101.add ((a1).toNat * 8)).off + 7, none⟩ = some (.int .i64 ((rd_T34 l0 a1).b))) ∧ (w'.heap[s_.1]? = some (.cells #[.int .i64 0, .string (⟨#[]⟩ : ByteArray), .string (⟨#[]⟩ : ByteArray), .string (⟨#[]⟩ : ByteArray), .string (⟨#[]⟩ : ByteArray), .int .i64 0, .int .i64 0, .int .i64 0] 34 (0, 0))) ∧ (w'.heap[s_.2]? = some (.cells #[.bool false, .string (⟨#[]⟩ : ByteArray), .int .i64 0] 36 (0, 0))) ∧ (w.heap.size ≤ s_.1) ∧ (w.heap.size ≤ s_.1) ∧ (s_.2 ≠ s_.1) ∧ (s_.1 ≠ s_.2) ∧ (w.heap.size ≤ s_.2) ∧ (w.heap.size ≤ s_.2) ∧ (Below w.heap.size w w')) ?_ ?_
 rotate_left
 ·intro hJ5_6_7
  refine join_ (σ := Nat) 3 (bl 10 127) (fun s_ => [(22, .agg #[.bool t102, .string t103, .int .i64 t104]), (5, .pointer (some ⟨s_, 0, none⟩))]) (fun s_ w' => (w'.cell? (ad101.add ((a1).toNat * 8)) = some (.int .i64 ((rd_T34 l0 a1).kind)) ∧ w'.cell? ⟨(ad101.add ((a1).toNat * 8)).block, (ad101.add ((a1).toNat * 8)).off + 1, none⟩ = some (.string ((rd_T34 l0 a1).x)) ∧ w'.cell? ⟨(ad101.add ((a1).toNat * 8)).block, (ad101.add ((a1).toNat * 8)).off + 2, none⟩ = some (.string ((rd_T34 l0 a1).y)) ∧ w'.cell? ⟨(ad101.add ((a1).toNat * 8)).block, (ad101.add ((a1).toNat * 8)).off + 3, none⟩ = some (.string ((rd_T34 l0 a1).z)) ∧ w'.cell? ⟨(ad101.add ((a1).toNat * 8)).block, (ad101.add ((a1).toNat * 8)).off + 4, none⟩ = some (.string ((rd_T34 l0 a1).op)) ∧ w'.cell? ⟨(ad101.add ((a1).toNat * 8)).block, (ad101.add ((a1).toNat * 8)).off + 5, none⟩ = some (.int .i64 ((rd_T34 l0 a1).n)) ∧ w'.cell? ⟨(ad101.add ((a1).toNat * 8)).block, (ad101.add ((a1).toNat * 8)).off + 6, none⟩ = some (.int .i64 ((rd_T34 l0 a1).a)) ∧ w'.cell? ⟨(ad101.add ((a1).toNat * 8)).block, (ad101.add ((a1).toNat * 8)).off + 7, none⟩ = some (.int .i64 ((rd_T34 l0 a1).b))) ∧ (w'.heap[s_]? = some (.cells #[.int .i64 0, .string (⟨#[]⟩ : ByteArray), .string (⟨#[]⟩ : ByteArray), .string (⟨#[]⟩ : ByteArray), .string (⟨#[]⟩ : ByteArray), .int .i64 0, .int .i64 0, .int .i64 0] 34 (0, 0))) ∧ (w.heap.size ≤ s_) ∧ (w.heap.size ≤ s_) ∧ (Below w.heap.size w w')) ?_ ?_
  rotate_left
  rotate_left
  ·skip
   rintro gb105 w11 ⟨hS_, h0_, h1_, h2_, h3_⟩
   have BK105 : Aside0 (w11.heap[gb105]? = some (.cells #[.int .i64 0, .string (⟨#[]⟩ : ByteArray), .string (⟨#[]⟩ : ByteArray), .string (⟨#[]⟩ : ByteArray), .string (⟨#[]⟩ : ByteArray), .int .i64 0, .int .i64 0, .int .i64 0] 34 (0, 0))) := ⟨h0_⟩
   have GW105 : Aside0 (w.heap.size ≤ gb105) := ⟨h1_⟩
   have GE105 : Aside0 (w.heap.size ≤ gb105) := ⟨h2_⟩
   replace HB : Aside0 (Below w.heap.size w w11) := ⟨h3_⟩
   clear h0_ h1_ h2_ h3_
   have hHeld : w11.cell? (ad101.add ((a1).toNat * 8)) = some (.int .i64 ((rd_T34 l0 a1).kind)) ∧ w11.cell? ⟨(ad101.add ((a1).toNat * 8)).block, (ad101.add ((a1).toNat * 8)).off + 1, none⟩ = some (.string ((rd_T34 l0 a1).x)) ∧ w11.cell? ⟨(ad101.add ((a1).toNat * 8)).block, (ad101.add ((a1).toNat * 8)).off + 2, none⟩ = some (.string ((rd_T34 l0 a1).y)) ∧ w11.cell? ⟨(ad101.add ((a1).toNat * 8)).block, (ad101.add ((a1).toNat * 8)).off + 3, none⟩ = some (.string ((rd_T34 l0 a1).z)) ∧ w11.cell? ⟨(ad101.add ((a1).toNat * 8)).block, (ad101.add ((a1).toNat * 8)).off + 4, none⟩ = some (.string ((rd_T34 l0 a1).op)) ∧ w11.cell? ⟨(ad101.add ((a1).toNat * 8)).block, (ad101.add ((a1).toNat * 8)).off + 5, none⟩ = some (.int .i64 ((rd_T34 l0 a1).n)) ∧ w11.cell? ⟨(ad101.add ((a1).toNat * 8)).block, (ad101.add ((a1).toNat * 8)).off + 6, none⟩ = some (.int .i64 ((rd_T34 l0 a1).a)) ∧ w11.cell? ⟨(ad101.add ((a1).toNat * 8)).block, (ad101.add ((a1).toNat * 8)).off + 7, none⟩ = some (.int .i64 ((rd_T34 l0 a1).b)) := hS_
   refine norm_ (a' := ?_) ?_ ?_
   rotate_left
   ·simp only [putAll, Act.put, List.setIfInBounds_toArray, List.set_cons_zero, List.set_cons_succ]
    rfl
   refine one_ (i := 7) (N := some 6) (bl 10 255) rfl rfl (one_of HT_.out (by kernel_rfl)) (by decide) (fun K hK => ?_)
   refine box_step ?hg (N := 6) ?hd (cs := #[.bool false, .string (⟨#[]⟩ : ByteArray), .int .i64 0]) (t := 36) ?hr ?_; (case hd => rfl); (case hg => rfl); (case hr => first | (go_simp; done) | (go_simp; rfl))
   intro gb106 hg w12 hbox hb
   have BK106 := am (hbox)
   have GW106 := am ((by rw [hg]; exact (below_size (pL HB.out)) : w.heap.size ≤ gb106))
   have GE106 := am ((by rw [hg]; exact (below_size (pL HB.out)) : w.heap.size ≤ gb106))
   replace HB := am (bs_ HB.out hb)
   have NB105_106 := am ((by rw [hg]; exact Nat.ne_of_lt (blk_lt (pB BK105.out)) : gb105 ≠ gb106))
   have NB106_105 := am ((by rw [hg]; exact Nat.ne_of_gt (blk_lt (pB BK105.out)) : gb106 ≠ gb105))
   replace BK105 := am (bb_ BK105.out hb)
   clear hb hbox hg
   refine hK.out _ _ ⟨(up_ HB.out hw101_0), (up_ HB.out hw101_1), (up_ HB.out hw101_2), (up_ HB.out hw101_3), (up_ HB.out hw101_4), (up_ HB.out hw101_5), (up_ HB.out hw101_6), (up_ HB.out hw101_7)⟩ (fun hHeld => ?_)
   clear hK K
   refine norm_ (a' := ?_) ?_ ?_
   rotate_left
   ·show Act.put _ (some 6) _ = _
    simp only [Act.put, sA, sZ, sS, i64_w, i32_w]
    rfl
   exact norm_ (by first | (simp only [putAll, Act.put, List.setIfInBounds_toArray, List.set_cons_zero, List.set_cons_succ]; done) | (simp only [putAll, Act.put, List.setIfInBounds_toArray, List.set_cons_zero, List.set_cons_succ]; rfl)) (hJ5_6_7 (gb105, gb106) _ ⟨hHeld, (pB BK105.out), (pB BK106.out), GW105.out, GE105.out, NB106_105.out, NB105_106.out, GW106.out, GE106.out, (pL HB.out)⟩)
  intro hJ5_6
  refine join_ (σ := Nat) 3 (bl 10 191) (fun s_ => [(22, .agg #[.bool t102, .string t103, .int .i64 t104]), (6, .pointer (some ⟨s_, 0, none⟩))]) (fun s_ w' => (w'.cell? (ad101.add ((a1).toNat * 8)) = some (.int .i64 ((rd_T34 l0 a1).kind)) ∧ w'.cell? ⟨(ad101.add ((a1).toNat * 8)).block, (ad101.add ((a1).toNat * 8)).off + 1, none⟩ = some (.string ((rd_T34 l0 a1).x)) ∧ w'.cell? ⟨(ad101.add ((a1).toNat * 8)).block, (ad101.add ((a1).toNat * 8)).off + 2, none⟩ = some (.string ((rd_T34 l0 a1).y)) ∧ w'.cell? ⟨(ad101.add ((a1).toNat * 8)).block, (ad101.add ((a1).toNat * 8)).off + 3, none⟩ = some (.string ((rd_T34 l0 a1).z)) ∧ w'.cell? ⟨(ad101.add ((a1).toNat * 8)).block, (ad101.add ((a1).toNat * 8)).off + 4, none⟩ = some (.string ((rd_T34 l0 a1).op)) ∧ w'.cell? ⟨(ad101.add ((a1).toNat * 8)).block, (ad101.add ((a1).toNat * 8)).off + 5, none⟩ = some (.int .i64 ((rd_T34 l0 a1).n)) ∧ w'.cell? ⟨(ad101.add ((a1).toNat * 8)).block, (ad101.add ((a1).toNat * 8)).off + 6, none⟩ = some (.int .i64 ((rd_T34 l0 a1).a)) ∧ w'.cell? ⟨(ad101.add ((a1).toNat * 8)).block, (ad101.add ((a1).toNat * 8)).off + 7, none⟩ = some (.int .i64 ((rd_T34 l0 a1).b))) ∧ (w'.heap[s_]? = some (.cells #[.bool false, .string (⟨#[]⟩ : ByteArray), .int .i64 0] 36 (0, 0))) ∧ (w.heap.size ≤ s_) ∧ (w.heap.size ≤ s_) ∧ (Below w.heap.size w w')) ?_ ?_
  rotate_left
  rotate_left
  ·skip
   rintro gb106 w11 ⟨hS_, h0_, h1_, h2_, h3_⟩
   have BK106 : Aside0 (w11.heap[gb106]? = some (.cells #[.bool false, .string (⟨#[]⟩ : ByteArray), .int .i64 0] 36 (0, 0))) := ⟨h0_⟩
   have GW106 : Aside0 (w.heap.size ≤ gb106) := ⟨h1_⟩
   have GE106 : Aside0 (w.heap.size ≤ gb106) := ⟨h2_⟩
   replace HB : Aside0 (Below w.heap.size w w11) := ⟨h3_⟩
   clear h0_ h1_ h2_ h3_
   have hHeld : w11.cell? (ad101.add ((a1).toNat * 8)) = some (.int .i64 ((rd_T34 l0 a1).kind)) ∧ w11.cell? ⟨(ad101.add ((a1).toNat * 8)).block, (ad101.add ((a1).toNat * 8)).off + 1, none⟩ = some (.string ((rd_T34 l0 a1).x)) ∧ w11.cell? ⟨(ad101.add ((a1).toNat * 8)).block, (ad101.add ((a1).toNat * 8)).off + 2, none⟩ = some (.string ((rd_T34 l0 a1).y)) ∧ w11.cell? ⟨(ad101.add ((a1).toNat * 8)).block, (ad101.add ((a1).toNat * 8)).off + 3, none⟩ = some (.string ((rd_T34 l0 a1).z)) ∧ w11.cell? ⟨(ad101.add ((a1).toNat * 8)).block, (ad101.add ((a1).toNat * 8)).off + 4, none⟩ = some (.string ((rd_T34 l0 a1).op)) ∧ w11.cell? ⟨(ad101.add ((a1).toNat * 8)).block, (ad101.add ((a1).toNat * 8)).off + 5, none⟩ = some (.int .i64 ((rd_T34 l0 a1).n)) ∧ w11.cell? ⟨(ad101.add ((a1).toNat * 8)).block, (ad101.add ((a1).toNat * 8)).off + 6, none⟩ = some (.int .i64 ((rd_T34 l0 a1).a)) ∧ w11.cell? ⟨(ad101.add ((a1).toNat * 8)).block, (ad101.add ((a1).toNat * 8)).off + 7, none⟩ = some (.int .i64 ((rd_T34 l0 a1).b)) := hS_
   refine norm_ (a' := ?_) ?_ ?_
   rotate_left
   ·simp only [putAll, Act.put, List.setIfInBounds_toArray, List.set_cons_zero, List.set_cons_succ]
    rfl
   refine one_ (i := 6) (N := some 5) (bl 10 255) rfl rfl (one_of HT_.out (by kernel_rfl)) (by decide) (fun K hK => ?_)
   refine box_step ?hg (N := 5) ?hd (cs := #[.int .i64 0, .string (⟨#[]⟩ : ByteArray), .string (⟨#[]⟩ : ByteArray), .string (⟨#[]⟩ : ByteArray), .string (⟨#[]⟩ : ByteArray), .int .i64 0, .int .i64 0, .int .i64 0]) (t := 34) ?hr ?_; (case hd => rfl); (case hg => rfl); (case hr => first | (go_simp; done) | (go_simp; rfl))
   intro gb105 hg w12 hbox hb
   have BK105 := am (hbox)
   have GW105 := am ((by rw [hg]; exact (below_size (pL HB.out)) : w.heap.size ≤ gb105))
   have GE105 := am ((by rw [hg]; exact (below_size (pL HB.out)) : w.heap.size ≤ gb105))
   replace HB := am (bs_ HB.out hb)
   have NB106_105 := am ((by rw [hg]; exact Nat.ne_of_lt (blk_lt (pB BK106.out)) : gb106 ≠ gb105))
   have NB105_106 := am ((by rw [hg]; exact Nat.ne_of_gt (blk_lt (pB BK106.out)) : gb105 ≠ gb106))
   replace BK106 := am (bb_ BK106.out hb)
   clear hb hbox hg
   refine hK.out _ _ ⟨(up_ HB.out hw101_0), (up_ HB.out hw101_1), (up_ HB.out hw101_2), (up_ HB.out hw101_3), (up_ HB.out hw101_4), (up_ HB.out hw101_5), (up_ HB.out hw101_6), (up_ HB.out hw101_7)⟩ (fun hHeld => ?_)
   clear hK K
   refine norm_ (a' := ?_) ?_ ?_
   rotate_left
   ·show Act.put _ (some 5) _ = _
    simp only [Act.put, sA, sZ, sS, i64_w, i32_w]
    rfl
   exact norm_ (by first | (simp only [putAll, Act.put, List.setIfInBounds_toArray, List.set_cons_zero, List.set_cons_succ]; done) | (simp only [putAll, Act.put, List.setIfInBounds_toArray, List.set_cons_zero, List.set_cons_succ]; rfl)) (hJ5_6_7 (gb105, gb106) _ ⟨hHeld, (pB BK105.out), (pB BK106.out), GW105.out, GE105.out, NB106_105.out, NB105_106.out, GW106.out, GE106.out, (pL HB.out)⟩)
  intro hJ5_7
  refine join_ (σ := Nat × Nat) 3 (bl 10 223) (fun s_ => [(5, .pointer (some ⟨s_.1, 0, none⟩)), (6, .pointer (some ⟨s_.2, 0, none⟩))]) (fun s_ w' => (w'.cell? (ad101.add ((a1).toNat * 8)) = some (.int .i64 ((rd_T34 l0 a1).kind)) ∧ w'.cell? ⟨(ad101.add ((a1).toNat * 8)).block, (ad101.add ((a1).toNat * 8)).off + 1, none⟩ = some (.string ((rd_T34 l0 a1).x)) ∧ w'.cell? ⟨(ad101.add ((a1).toNat * 8)).block, (ad101.add ((a1).toNat * 8)).off + 2, none⟩ = some (.string ((rd_T34 l0 a1).y)) ∧ w'.cell? ⟨(ad101.add ((a1).toNat * 8)).block, (ad101.add ((a1).toNat * 8)).off + 3, none⟩ = some (.string ((rd_T34 l0 a1).z)) ∧ w'.cell? ⟨(ad101.add ((a1).toNat * 8)).block, (ad101.add ((a1).toNat * 8)).off + 4, none⟩ = some (.string ((rd_T34 l0 a1).op)) ∧ w'.cell? ⟨(ad101.add ((a1).toNat * 8)).block, (ad101.add ((a1).toNat * 8)).off + 5, none⟩ = some (.int .i64 ((rd_T34 l0 a1).n)) ∧ w'.cell? ⟨(ad101.add ((a1).toNat * 8)).block, (ad101.add ((a1).toNat * 8)).off + 6, none⟩ = some (.int .i64 ((rd_T34 l0 a1).a)) ∧ w'.cell? ⟨(ad101.add ((a1).toNat * 8)).block, (ad101.add ((a1).toNat * 8)).off + 7, none⟩ = some (.int .i64 ((rd_T34 l0 a1).b))) ∧ (w'.heap[s_.1]? = some (.cells #[.int .i64 0, .string (⟨#[]⟩ : ByteArray), .string (⟨#[]⟩ : ByteArray), .string (⟨#[]⟩ : ByteArray), .string (⟨#[]⟩ : ByteArray), .int .i64 0, .int .i64 0, .int .i64 0] 34 (0, 0))) ∧ (w'.heap[s_.2]? = some (.cells #[.bool false, .string (⟨#[]⟩ : ByteArray), .int .i64 0] 36 (0, 0))) ∧ (w.heap.size ≤ s_.1) ∧ (w.heap.size ≤ s_.1) ∧ (s_.2 ≠ s_.1) ∧ (s_.1 ≠ s_.2) ∧ (w.heap.size ≤ s_.2) ∧ (w.heap.size ≤ s_.2) ∧ (Below w.heap.size w w')) ?_ ?_
  rotate_left
  rotate_left
  ·skip
   rintro ⟨gb105, gb106⟩ w11 ⟨hS_, h0_, h1_, h2_, h3_, h4_, h5_, h6_, h7_, h8_⟩
   have BK105 : Aside0 (w11.heap[gb105]? = some (.cells #[.int .i64 0, .string (⟨#[]⟩ : ByteArray), .string (⟨#[]⟩ : ByteArray), .string (⟨#[]⟩ : ByteArray), .string (⟨#[]⟩ : ByteArray), .int .i64 0, .int .i64 0, .int .i64 0] 34 (0, 0))) := ⟨h0_⟩
   have BK106 : Aside0 (w11.heap[gb106]? = some (.cells #[.bool false, .string (⟨#[]⟩ : ByteArray), .int .i64 0] 36 (0, 0))) := ⟨h1_⟩
   have GW105 : Aside0 (w.heap.size ≤ gb105) := ⟨h2_⟩
   have GE105 : Aside0 (w.heap.size ≤ gb105) := ⟨h3_⟩
   have NB106_105 : Aside0 (gb106 ≠ gb105) := ⟨h4_⟩
   have NB105_106 : Aside0 (gb105 ≠ gb106) := ⟨h5_⟩
   have GW106 : Aside0 (w.heap.size ≤ gb106) := ⟨h6_⟩
   have GE106 : Aside0 (w.heap.size ≤ gb106) := ⟨h7_⟩
   replace HB : Aside0 (Below w.heap.size w w11) := ⟨h8_⟩
   clear h0_ h1_ h2_ h3_ h4_ h5_ h6_ h7_ h8_
   have hHeld : w11.cell? (ad101.add ((a1).toNat * 8)) = some (.int .i64 ((rd_T34 l0 a1).kind)) ∧ w11.cell? ⟨(ad101.add ((a1).toNat * 8)).block, (ad101.add ((a1).toNat * 8)).off + 1, none⟩ = some (.string ((rd_T34 l0 a1).x)) ∧ w11.cell? ⟨(ad101.add ((a1).toNat * 8)).block, (ad101.add ((a1).toNat * 8)).off + 2, none⟩ = some (.string ((rd_T34 l0 a1).y)) ∧ w11.cell? ⟨(ad101.add ((a1).toNat * 8)).block, (ad101.add ((a1).toNat * 8)).off + 3, none⟩ = some (.string ((rd_T34 l0 a1).z)) ∧ w11.cell? ⟨(ad101.add ((a1).toNat * 8)).block, (ad101.add ((a1).toNat * 8)).off + 4, none⟩ = some (.string ((rd_T34 l0 a1).op)) ∧ w11.cell? ⟨(ad101.add ((a1).toNat * 8)).block, (ad101.add ((a1).toNat * 8)).off + 5, none⟩ = some (.int .i64 ((rd_T34 l0 a1).n)) ∧ w11.cell? ⟨(ad101.add ((a1).toNat * 8)).block, (ad101.add ((a1).toNat * 8)).off + 6, none⟩ = some (.int .i64 ((rd_T34 l0 a1).a)) ∧ w11.cell? ⟨(ad101.add ((a1).toNat * 8)).block, (ad101.add ((a1).toNat * 8)).off + 7, none⟩ = some (.int .i64 ((rd_T34 l0 a1).b)) := hS_
   refine norm_ (a' := ?_) ?_ ?_
   rotate_left
   ·simp only [putAll, Act.put, List.setIfInBounds_toArray, List.set_cons_zero, List.set_cons_succ]
    rfl
   refine one_ (i := 5) (N := some 22) (bl 10 255) rfl rfl (one_of HT_.out (by kernel_rfl)) (by decide) (fun K hK => ?_)
   refine goes_ Tryz.func27 (by kernel_rfl) rfl #[.int .i64 a1] (by rfl) rfl rfl gl_ ?_
   with_reducible refine (value_Int.calls a1 t102 t103 t104 _ A5.out).mono ?_
   rintro e w12 ⟨rfl, hb⟩
   refine ⟨_, rfl, ?_⟩
   replace BK105 := am (bb_ BK105.out hb)
   replace BK106 := am (bb_ BK106.out hb)
   replace HB := am (bs_ HB.out hb)
   (try clear hb)
   (try clear hb2)
   (try clear hk)
   (try clear hi)
   refine hK.out _ _ ⟨(up_ HB.out hw101_0), (up_ HB.out hw101_1), (up_ HB.out hw101_2), (up_ HB.out hw101_3), (up_ HB.out hw101_4), (up_ HB.out hw101_5), (up_ HB.out hw101_6), (up_ HB.out hw101_7)⟩ (fun hHeld => ?_)
   clear hK K
   refine norm_ (a' := ?_) ?_ ?_
   rotate_left
   ·show Act.put _ (some 22) _ = _
    simp only [Act.put, sA, sZ, sS, i64_w, i32_w]
    rfl
   exact norm_ (by first | (simp only [putAll, Act.put, List.setIfInBounds_toArray, List.set_cons_zero, List.set_cons_succ]; done) | (simp only [putAll, Act.put, List.setIfInBounds_toArray, List.set_cons_zero, List.set_cons_succ]; rfl)) (hJ5_6_7 (gb105, gb106) _ ⟨hHeld, (pB BK105.out), (pB BK106.out), GW105.out, GE105.out, NB106_105.out, NB105_106.out, GW106.out, GE106.out, (pL HB.out)⟩)
  intro hJ6_7
  refine join_ (σ := Unit) 4 (bl 10 63) (fun s_ => [(22, .agg #[.bool t102, .string t103, .int .i64 t104])]) (fun s_ w' => (w'.cell? (ad101.add ((a1).toNat * 8)) = some (.int .i64 ((rd_T34 l0 a1).kind)) ∧ w'.cell? ⟨(ad101.add ((a1).toNat * 8)).block, (ad101.add ((a1).toNat * 8)).off + 1, none⟩ = some (.string ((rd_T34 l0 a1).x)) ∧ w'.cell? ⟨(ad101.add ((a1).toNat * 8)).block, (ad101.add ((a1).toNat * 8)).off + 2, none⟩ = some (.string ((rd_T34 l0 a1).y)) ∧ w'.cell? ⟨(ad101.add ((a1).toNat * 8)).block, (ad101.add ((a1).toNat * 8)).off + 3, none⟩ = some (.string ((rd_T34 l0 a1).z)) ∧ w'.cell? ⟨(ad101.add ((a1).toNat * 8)).block, (ad101.add ((a1).toNat * 8)).off + 4, none⟩ = some (.string ((rd_T34 l0 a1).op)) ∧ w'.cell? ⟨(ad101.add ((a1).toNat * 8)).block, (ad101.add ((a1).toNat * 8)).off + 5, none⟩ = some (.int .i64 ((rd_T34 l0 a1).n)) ∧ w'.cell? ⟨(ad101.add ((a1).toNat * 8)).block, (ad101.add ((a1).toNat * 8)).off + 6, none⟩ = some (.int .i64 ((rd_T34 l0 a1).a)) ∧ w'.cell? ⟨(ad101.add ((a1).toNat * 8)).block, (ad101.add ((a1).toNat * 8)).off + 7, none⟩ = some (.int .i64 ((rd_T34 l0 a1).b))) ∧ (Below w.heap.size w w')) ?_ ?_
  rotate_left
  rotate_left
  ·skip
   rintro _ w10 ⟨hS_, h0_⟩
   replace HB : Aside0 (Below w.heap.size w w10) := ⟨h0_⟩
   clear h0_
   have hHeld : w10.cell? (ad101.add ((a1).toNat * 8)) = some (.int .i64 ((rd_T34 l0 a1).kind)) ∧ w10.cell? ⟨(ad101.add ((a1).toNat * 8)).block, (ad101.add ((a1).toNat * 8)).off + 1, none⟩ = some (.string ((rd_T34 l0 a1).x)) ∧ w10.cell? ⟨(ad101.add ((a1).toNat * 8)).block, (ad101.add ((a1).toNat * 8)).off + 2, none⟩ = some (.string ((rd_T34 l0 a1).y)) ∧ w10.cell? ⟨(ad101.add ((a1).toNat * 8)).block, (ad101.add ((a1).toNat * 8)).off + 3, none⟩ = some (.string ((rd_T34 l0 a1).z)) ∧ w10.cell? ⟨(ad101.add ((a1).toNat * 8)).block, (ad101.add ((a1).toNat * 8)).off + 4, none⟩ = some (.string ((rd_T34 l0 a1).op)) ∧ w10.cell? ⟨(ad101.add ((a1).toNat * 8)).block, (ad101.add ((a1).toNat * 8)).off + 5, none⟩ = some (.int .i64 ((rd_T34 l0 a1).n)) ∧ w10.cell? ⟨(ad101.add ((a1).toNat * 8)).block, (ad101.add ((a1).toNat * 8)).off + 6, none⟩ = some (.int .i64 ((rd_T34 l0 a1).a)) ∧ w10.cell? ⟨(ad101.add ((a1).toNat * 8)).block, (ad101.add ((a1).toNat * 8)).off + 7, none⟩ = some (.int .i64 ((rd_T34 l0 a1).b)) := hS_
   refine norm_ (a' := ?_) ?_ ?_
   rotate_left
   ·simp only [putAll, Act.put, List.setIfInBounds_toArray, List.set_cons_zero, List.set_cons_succ]
    rfl
   refine two_ (i := 6) (j := 7) (Ni := some 5) (Nj := some 6) (bl 10 127) (bl 10 191) rfl rfl rfl rfl (two_of HT_.out (by kernel_rfl)) (by decide) (by decide) (fun K hK => ?_) (fun K hK => ?_)
   ·skip
    refine box_step ?hg (N := 5) ?hd (cs := #[.int .i64 0, .string (⟨#[]⟩ : ByteArray), .string (⟨#[]⟩ : ByteArray), .string (⟨#[]⟩ : ByteArray), .string (⟨#[]⟩ : ByteArray), .int .i64 0, .int .i64 0, .int .i64 0]) (t := 34) ?hr ?_; (case hd => rfl); (case hg => rfl); (case hr => first | (go_simp; done) | (go_simp; rfl))
    intro gb105 hg w11 hbox hb
    have BK105 := am (hbox)
    have GW105 := am ((by rw [hg]; exact (below_size (pL HB.out)) : w.heap.size ≤ gb105))
    have GE105 := am ((by rw [hg]; exact (below_size (pL HB.out)) : w.heap.size ≤ gb105))
    replace HB := am (bs_ HB.out hb)
    clear hb hbox hg
    refine hK.out _ _ ⟨(up_ HB.out hw101_0), (up_ HB.out hw101_1), (up_ HB.out hw101_2), (up_ HB.out hw101_3), (up_ HB.out hw101_4), (up_ HB.out hw101_5), (up_ HB.out hw101_6), (up_ HB.out hw101_7)⟩ (fun hHeld => ?_)
    clear hK K
    refine norm_ (a' := ?_) ?_ ?_
    rotate_left
    ·show Act.put _ (some 5) _ = _
     simp only [Act.put, sA, sZ, sS, i64_w, i32_w]
     rfl
    exact norm_ (by first | (simp only [putAll, Act.put, List.setIfInBounds_toArray, List.set_cons_zero, List.set_cons_succ]; done) | (simp only [putAll, Act.put, List.setIfInBounds_toArray, List.set_cons_zero, List.set_cons_succ]; rfl)) (hJ5_6 (gb105) _ ⟨hHeld, (pB BK105.out), GW105.out, GE105.out, (pL HB.out)⟩)
   skip
   refine box_step ?hg (N := 6) ?hd (cs := #[.bool false, .string (⟨#[]⟩ : ByteArray), .int .i64 0]) (t := 36) ?hr ?_; (case hd => rfl); (case hg => rfl); (case hr => first | (go_simp; done) | (go_simp; rfl))
   intro gb106 hg w11 hbox hb
   have BK106 := am (hbox)
   have GW106 := am ((by rw [hg]; exact (below_size (pL HB.out)) : w.heap.size ≤ gb106))
   have GE106 := am ((by rw [hg]; exact (below_size (pL HB.out)) : w.heap.size ≤ gb106))
   replace HB := am (bs_ HB.out hb)
   clear hb hbox hg
   refine hK.out _ _ ⟨(up_ HB.out hw101_0), (up_ HB.out hw101_1), (up_ HB.out hw101_2), (up_ HB.out hw101_3), (up_ HB.out hw101_4), (up_ HB.out hw101_5), (up_ HB.out hw101_6), (up_ HB.out hw101_7)⟩ (fun hHeld => ?_)
   clear hK K
   refine norm_ (a' := ?_) ?_ ?_
   rotate_left
   ·show Act.put _ (some 6) _ = _
    simp only [Act.put, sA, sZ, sS, i64_w, i32_w]
    rfl
   exact norm_ (by first | (simp only [putAll, Act.put, List.setIfInBounds_toArray, List.set_cons_zero, List.set_cons_succ]; done) | (simp only [putAll, Act.put, List.setIfInBounds_toArray, List.set_cons_zero, List.set_cons_succ]; rfl)) (hJ5_7 (gb106) _ ⟨hHeld, (pB BK106.out), GW106.out, GE106.out, (pL HB.out)⟩)
  intro hJ5
  refine join_ (σ := Nat) 4 (bl 10 95) (fun s_ => [(5, .pointer (some ⟨s_, 0, none⟩))]) (fun s_ w' => (w'.cell? (ad101.add ((a1).toNat * 8)) = some (.int .i64 ((rd_T34 l0 a1).kind)) ∧ w'.cell? ⟨(ad101.add ((a1).toNat * 8)).block, (ad101.add ((a1).toNat * 8)).off + 1, none⟩ = some (.string ((rd_T34 l0 a1).x)) ∧ w'.cell? ⟨(ad101.add ((a1).toNat * 8)).block, (ad101.add ((a1).toNat * 8)).off + 2, none⟩ = some (.string ((rd_T34 l0 a1).y)) ∧ w'.cell? ⟨(ad101.add ((a1).toNat * 8)).block, (ad101.add ((a1).toNat * 8)).off + 3, none⟩ = some (.string ((rd_T34 l0 a1).z)) ∧ w'.cell? ⟨(ad101.add ((a1).toNat * 8)).block, (ad101.add ((a1).toNat * 8)).off + 4, none⟩ = some (.string ((rd_T34 l0 a1).op)) ∧ w'.cell? ⟨(ad101.add ((a1).toNat * 8)).block, (ad101.add ((a1).toNat * 8)).off + 5, none⟩ = some (.int .i64 ((rd_T34 l0 a1).n)) ∧ w'.cell? ⟨(ad101.add ((a1).toNat * 8)).block, (ad101.add ((a1).toNat * 8)).off + 6, none⟩ = some (.int .i64 ((rd_T34 l0 a1).a)) ∧ w'.cell? ⟨(ad101.add ((a1).toNat * 8)).block, (ad101.add ((a1).toNat * 8)).off + 7, none⟩ = some (.int .i64 ((rd_T34 l0 a1).b))) ∧ (w'.heap[s_]? = some (.cells #[.int .i64 0, .string (⟨#[]⟩ : ByteArray), .string (⟨#[]⟩ : ByteArray), .string (⟨#[]⟩ : ByteArray), .string (⟨#[]⟩ : ByteArray), .int .i64 0, .int .i64 0, .int .i64 0] 34 (0, 0))) ∧ (w.heap.size ≤ s_) ∧ (w.heap.size ≤ s_) ∧ (Below w.heap.size w w')) ?_ ?_
  rotate_left
  rotate_left
  ·skip
   rintro gb105 w10 ⟨hS_, h0_, h1_, h2_, h3_⟩
   have BK105 : Aside0 (w10.heap[gb105]? = some (.cells #[.int .i64 0, .string (⟨#[]⟩ : ByteArray), .string (⟨#[]⟩ : ByteArray), .string (⟨#[]⟩ : ByteArray), .string (⟨#[]⟩ : ByteArray), .int .i64 0, .int .i64 0, .int .i64 0] 34 (0, 0))) := ⟨h0_⟩
   have GW105 : Aside0 (w.heap.size ≤ gb105) := ⟨h1_⟩
   have GE105 : Aside0 (w.heap.size ≤ gb105) := ⟨h2_⟩
   replace HB : Aside0 (Below w.heap.size w w10) := ⟨h3_⟩
   clear h0_ h1_ h2_ h3_
   have hHeld : w10.cell? (ad101.add ((a1).toNat * 8)) = some (.int .i64 ((rd_T34 l0 a1).kind)) ∧ w10.cell? ⟨(ad101.add ((a1).toNat * 8)).block, (ad101.add ((a1).toNat * 8)).off + 1, none⟩ = some (.string ((rd_T34 l0 a1).x)) ∧ w10.cell? ⟨(ad101.add ((a1).toNat * 8)).block, (ad101.add ((a1).toNat * 8)).off + 2, none⟩ = some (.string ((rd_T34 l0 a1).y)) ∧ w10.cell? ⟨(ad101.add ((a1).toNat * 8)).block, (ad101.add ((a1).toNat * 8)).off + 3, none⟩ = some (.string ((rd_T34 l0 a1).z)) ∧ w10.cell? ⟨(ad101.add ((a1).toNat * 8)).block, (ad101.add ((a1).toNat * 8)).off + 4, none⟩ = some (.string ((rd_T34 l0 a1).op)) ∧ w10.cell? ⟨(ad101.add ((a1).toNat * 8)).block, (ad101.add ((a1).toNat * 8)).off + 5, none⟩ = some (.int .i64 ((rd_T34 l0 a1).n)) ∧ w10.cell? ⟨(ad101.add ((a1).toNat * 8)).block, (ad101.add ((a1).toNat * 8)).off + 6, none⟩ = some (.int .i64 ((rd_T34 l0 a1).a)) ∧ w10.cell? ⟨(ad101.add ((a1).toNat * 8)).block, (ad101.add ((a1).toNat * 8)).off + 7, none⟩ = some (.int .i64 ((rd_T34 l0 a1).b)) := hS_
   refine norm_ (a' := ?_) ?_ ?_
   rotate_left
   ·simp only [putAll, Act.put, List.setIfInBounds_toArray, List.set_cons_zero, List.set_cons_succ]
    rfl
   refine two_ (i := 5) (j := 7) (Ni := some 22) (Nj := some 6) (bl 10 127) (bl 10 223) rfl rfl rfl rfl (two_of HT_.out (by kernel_rfl)) (by decide) (by decide) (fun K hK => ?_) (fun K hK => ?_)
   ·skip
    refine goes_ Tryz.func27 (by kernel_rfl) rfl #[.int .i64 a1] (by rfl) rfl rfl gl_ ?_
    with_reducible refine (value_Int.calls a1 t102 t103 t104 _ A5.out).mono ?_
    rintro e w11 ⟨rfl, hb⟩
    refine ⟨_, rfl, ?_⟩
    replace BK105 := am (bb_ BK105.out hb)
    replace HB := am (bs_ HB.out hb)
    (try clear hb)
    (try clear hb2)
    (try clear hk)
    (try clear hi)
    refine hK.out _ _ ⟨(up_ HB.out hw101_0), (up_ HB.out hw101_1), (up_ HB.out hw101_2), (up_ HB.out hw101_3), (up_ HB.out hw101_4), (up_ HB.out hw101_5), (up_ HB.out hw101_6), (up_ HB.out hw101_7)⟩ (fun hHeld => ?_)
    clear hK K
    refine norm_ (a' := ?_) ?_ ?_
    rotate_left
    ·show Act.put _ (some 22) _ = _
     simp only [Act.put, sA, sZ, sS, i64_w, i32_w]
     rfl
    exact norm_ (by first | (simp only [putAll, Act.put, List.setIfInBounds_toArray, List.set_cons_zero, List.set_cons_succ]; done) | (simp only [putAll, Act.put, List.setIfInBounds_toArray, List.set_cons_zero, List.set_cons_succ]; rfl)) (hJ5_6 (gb105) _ ⟨hHeld, (pB BK105.out), GW105.out, GE105.out, (pL HB.out)⟩)
   skip
   refine box_step ?hg (N := 6) ?hd (cs := #[.bool false, .string (⟨#[]⟩ : ByteArray), .int .i64 0]) (t := 36) ?hr ?_; (case hd => rfl); (case hg => rfl); (case hr => first | (go_simp; done) | (go_simp; rfl))
   intro gb106 hg w11 hbox hb
   have BK106 := am (hbox)
   have GW106 := am ((by rw [hg]; exact (below_size (pL HB.out)) : w.heap.size ≤ gb106))
   have GE106 := am ((by rw [hg]; exact (below_size (pL HB.out)) : w.heap.size ≤ gb106))
   replace HB := am (bs_ HB.out hb)
   have NB105_106 := am ((by rw [hg]; exact Nat.ne_of_lt (blk_lt (pB BK105.out)) : gb105 ≠ gb106))
   have NB106_105 := am ((by rw [hg]; exact Nat.ne_of_gt (blk_lt (pB BK105.out)) : gb106 ≠ gb105))
   replace BK105 := am (bb_ BK105.out hb)
   clear hb hbox hg
   refine hK.out _ _ ⟨(up_ HB.out hw101_0), (up_ HB.out hw101_1), (up_ HB.out hw101_2), (up_ HB.out hw101_3), (up_ HB.out hw101_4), (up_ HB.out hw101_5), (up_ HB.out hw101_6), (up_ HB.out hw101_7)⟩ (fun hHeld => ?_)
   clear hK K
   refine norm_ (a' := ?_) ?_ ?_
   rotate_left
   ·show Act.put _ (some 6) _ = _
    simp only [Act.put, sA, sZ, sS, i64_w, i32_w]
    rfl
   exact norm_ (by first | (simp only [putAll, Act.put, List.setIfInBounds_toArray, List.set_cons_zero, List.set_cons_succ]; done) | (simp only [putAll, Act.put, List.setIfInBounds_toArray, List.set_cons_zero, List.set_cons_succ]; rfl)) (hJ6_7 (gb105, gb106) _ ⟨hHeld, (pB BK105.out), (pB BK106.out), GW105.out, GE105.out, NB106_105.out, NB105_106.out, GW106.out, GE106.out, (pL HB.out)⟩)
  intro hJ6
  refine join_ (σ := Nat) 4 (bl 10 159) (fun s_ => [(6, .pointer (some ⟨s_, 0, none⟩))]) (fun s_ w' => (w'.cell? (ad101.add ((a1).toNat * 8)) = some (.int .i64 ((rd_T34 l0 a1).kind)) ∧ w'.cell? ⟨(ad101.add ((a1).toNat * 8)).block, (ad101.add ((a1).toNat * 8)).off + 1, none⟩ = some (.string ((rd_T34 l0 a1).x)) ∧ w'.cell? ⟨(ad101.add ((a1).toNat * 8)).block, (ad101.add ((a1).toNat * 8)).off + 2, none⟩ = some (.string ((rd_T34 l0 a1).y)) ∧ w'.cell? ⟨(ad101.add ((a1).toNat * 8)).block, (ad101.add ((a1).toNat * 8)).off + 3, none⟩ = some (.string ((rd_T34 l0 a1).z)) ∧ w'.cell? ⟨(ad101.add ((a1).toNat * 8)).block, (ad101.add ((a1).toNat * 8)).off + 4, none⟩ = some (.string ((rd_T34 l0 a1).op)) ∧ w'.cell? ⟨(ad101.add ((a1).toNat * 8)).block, (ad101.add ((a1).toNat * 8)).off + 5, none⟩ = some (.int .i64 ((rd_T34 l0 a1).n)) ∧ w'.cell? ⟨(ad101.add ((a1).toNat * 8)).block, (ad101.add ((a1).toNat * 8)).off + 6, none⟩ = some (.int .i64 ((rd_T34 l0 a1).a)) ∧ w'.cell? ⟨(ad101.add ((a1).toNat * 8)).block, (ad101.add ((a1).toNat * 8)).off + 7, none⟩ = some (.int .i64 ((rd_T34 l0 a1).b))) ∧ (w'.heap[s_]? = some (.cells #[.bool false, .string (⟨#[]⟩ : ByteArray), .int .i64 0] 36 (0, 0))) ∧ (w.heap.size ≤ s_) ∧ (w.heap.size ≤ s_) ∧ (Below w.heap.size w w')) ?_ ?_
  rotate_left
  ·intro hJ7
   refine three_ (i := 5) (j := 6) (k := 7) (Ni := some 22) (Nj := some 5) (Nk := some 6) (bl 10 63) (bl 10 95) (bl 10 159) rfl rfl rfl rfl rfl rfl (three_of HT_.out (by kernel_rfl)) (by decide) (by decide) (by decide) (fun K hK => ?_) (fun K hK => ?_) (fun K hK => ?_)
   ·skip
    refine goes_ Tryz.func27 (by kernel_rfl) rfl #[.int .i64 a1] (by rfl) rfl rfl gl_ ?_
    with_reducible refine (value_Int.calls a1 t102 t103 t104 _ A5.out).mono ?_
    rintro e w9 ⟨rfl, hb⟩
    refine ⟨_, rfl, ?_⟩
    replace HB := am (bs_ HB.out hb)
    (try clear hb)
    (try clear hb2)
    (try clear hk)
    (try clear hi)
    refine hK.out _ _ ⟨(up_ HB.out hw101_0), (up_ HB.out hw101_1), (up_ HB.out hw101_2), (up_ HB.out hw101_3), (up_ HB.out hw101_4), (up_ HB.out hw101_5), (up_ HB.out hw101_6), (up_ HB.out hw101_7)⟩ (fun hHeld => ?_)
    clear hK K
    refine norm_ (a' := ?_) ?_ ?_
    rotate_left
    ·show Act.put _ (some 22) _ = _
     simp only [Act.put, sA, sZ, sS, i64_w, i32_w]
     rfl
    exact norm_ (by first | (simp only [putAll, Act.put, List.setIfInBounds_toArray, List.set_cons_zero, List.set_cons_succ]; done) | (simp only [putAll, Act.put, List.setIfInBounds_toArray, List.set_cons_zero, List.set_cons_succ]; rfl)) (hJ5 () _ ⟨hHeld, (pL HB.out)⟩)
   ·skip
    refine box_step ?hg (N := 5) ?hd (cs := #[.int .i64 0, .string (⟨#[]⟩ : ByteArray), .string (⟨#[]⟩ : ByteArray), .string (⟨#[]⟩ : ByteArray), .string (⟨#[]⟩ : ByteArray), .int .i64 0, .int .i64 0, .int .i64 0]) (t := 34) ?hr ?_; (case hd => rfl); (case hg => rfl); (case hr => first | (go_simp; done) | (go_simp; rfl))
    intro gb105 hg w9 hbox hb
    have BK105 := am (hbox)
    have GW105 := am ((by rw [hg]; exact (below_size (pL HB.out)) : w.heap.size ≤ gb105))
    have GE105 := am ((by rw [hg]; exact (below_size (pL HB.out)) : w.heap.size ≤ gb105))
    replace HB := am (bs_ HB.out hb)
    clear hb hbox hg
    refine hK.out _ _ ⟨(up_ HB.out hw101_0), (up_ HB.out hw101_1), (up_ HB.out hw101_2), (up_ HB.out hw101_3), (up_ HB.out hw101_4), (up_ HB.out hw101_5), (up_ HB.out hw101_6), (up_ HB.out hw101_7)⟩ (fun hHeld => ?_)
    clear hK K
    refine norm_ (a' := ?_) ?_ ?_
    rotate_left
    ·show Act.put _ (some 5) _ = _
     simp only [Act.put, sA, sZ, sS, i64_w, i32_w]
     rfl
    exact norm_ (by first | (simp only [putAll, Act.put, List.setIfInBounds_toArray, List.set_cons_zero, List.set_cons_succ]; done) | (simp only [putAll, Act.put, List.setIfInBounds_toArray, List.set_cons_zero, List.set_cons_succ]; rfl)) (hJ6 (gb105) _ ⟨hHeld, (pB BK105.out), GW105.out, GE105.out, (pL HB.out)⟩)
   skip
   refine box_step ?hg (N := 6) ?hd (cs := #[.bool false, .string (⟨#[]⟩ : ByteArray), .int .i64 0]) (t := 36) ?hr ?_; (case hd => rfl); (case hg => rfl); (case hr => first | (go_simp; done) | (go_simp; rfl))
   intro gb106 hg w9 hbox hb
   have BK106 := am (hbox)
   have GW106 := am ((by rw [hg]; exact (below_size (pL HB.out)) : w.heap.size ≤ gb106))
   have GE106 := am ((by rw [hg]; exact (below_size (pL HB.out)) : w.heap.size ≤ gb106))
   replace HB := am (bs_ HB.out hb)
   clear hb hbox hg
   refine hK.out _ _ ⟨(up_ HB.out hw101_0), (up_ HB.out hw101_1), (up_ HB.out hw101_2), (up_ HB.out hw101_3), (up_ HB.out hw101_4), (up_ HB.out hw101_5), (up_ HB.out hw101_6), (up_ HB.out hw101_7)⟩ (fun hHeld => ?_)
   clear hK K
   refine norm_ (a' := ?_) ?_ ?_
   rotate_left
   ·show Act.put _ (some 6) _ = _
    simp only [Act.put, sA, sZ, sS, i64_w, i32_w]
    rfl
   exact norm_ (by first | (simp only [putAll, Act.put, List.setIfInBounds_toArray, List.set_cons_zero, List.set_cons_succ]; done) | (simp only [putAll, Act.put, List.setIfInBounds_toArray, List.set_cons_zero, List.set_cons_succ]; rfl)) (hJ7 (gb106) _ ⟨hHeld, (pB BK106.out), GW106.out, GE106.out, (pL HB.out)⟩)
  skip
  rintro gb106 w10 ⟨hS_, h0_, h1_, h2_, h3_⟩
  have BK106 : Aside0 (w10.heap[gb106]? = some (.cells #[.bool false, .string (⟨#[]⟩ : ByteArray), .int .i64 0] 36 (0, 0))) := ⟨h0_⟩
  have GW106 : Aside0 (w.heap.size ≤ gb106) := ⟨h1_⟩
  have GE106 : Aside0 (w.heap.size ≤ gb106) := ⟨h2_⟩
  replace HB : Aside0 (Below w.heap.size w w10) := ⟨h3_⟩
  clear h0_ h1_ h2_ h3_
  have hHeld : w10.cell? (ad101.add ((a1).toNat * 8)) = some (.int .i64 ((rd_T34 l0 a1).kind)) ∧ w10.cell? ⟨(ad101.add ((a1).toNat * 8)).block, (ad101.add ((a1).toNat * 8)).off + 1, none⟩ = some (.string ((rd_T34 l0 a1).x)) ∧ w10.cell? ⟨(ad101.add ((a1).toNat * 8)).block, (ad101.add ((a1).toNat * 8)).off + 2, none⟩ = some (.string ((rd_T34 l0 a1).y)) ∧ w10.cell? ⟨(ad101.add ((a1).toNat * 8)).block, (ad101.add ((a1).toNat * 8)).off + 3, none⟩ = some (.string ((rd_T34 l0 a1).z)) ∧ w10.cell? ⟨(ad101.add ((a1).toNat * 8)).block, (ad101.add ((a1).toNat * 8)).off + 4, none⟩ = some (.string ((rd_T34 l0 a1).op)) ∧ w10.cell? ⟨(ad101.add ((a1).toNat * 8)).block, (ad101.add ((a1).toNat * 8)).off + 5, none⟩ = some (.int .i64 ((rd_T34 l0 a1).n)) ∧ w10.cell? ⟨(ad101.add ((a1).toNat * 8)).block, (ad101.add ((a1).toNat * 8)).off + 6, none⟩ = some (.int .i64 ((rd_T34 l0 a1).a)) ∧ w10.cell? ⟨(ad101.add ((a1).toNat * 8)).block, (ad101.add ((a1).toNat * 8)).off + 7, none⟩ = some (.int .i64 ((rd_T34 l0 a1).b)) := hS_
  refine norm_ (a' := ?_) ?_ ?_
  rotate_left
  ·simp only [putAll, Act.put, List.setIfInBounds_toArray, List.set_cons_zero, List.set_cons_succ]
   rfl
  refine two_ (i := 5) (j := 6) (Ni := some 22) (Nj := some 5) (bl 10 191) (bl 10 223) rfl rfl rfl rfl (two_of HT_.out (by kernel_rfl)) (by decide) (by decide) (fun K hK => ?_) (fun K hK => ?_)
  ·skip
   refine goes_ Tryz.func27 (by kernel_rfl) rfl #[.int .i64 a1] (by rfl) rfl rfl gl_ ?_
   with_reducible refine (value_Int.calls a1 t102 t103 t104 _ A5.out).mono ?_
   rintro e w11 ⟨rfl, hb⟩
   refine ⟨_, rfl, ?_⟩
   replace BK106 := am (bb_ BK106.out hb)
   replace HB := am (bs_ HB.out hb)
   (try clear hb)
   (try clear hb2)
   (try clear hk)
   (try clear hi)
   refine hK.out _ _ ⟨(up_ HB.out hw101_0), (up_ HB.out hw101_1), (up_ HB.out hw101_2), (up_ HB.out hw101_3), (up_ HB.out hw101_4), (up_ HB.out hw101_5), (up_ HB.out hw101_6), (up_ HB.out hw101_7)⟩ (fun hHeld => ?_)
   clear hK K
   refine norm_ (a' := ?_) ?_ ?_
   rotate_left
   ·show Act.put _ (some 22) _ = _
    simp only [Act.put, sA, sZ, sS, i64_w, i32_w]
    rfl
   exact norm_ (by first | (simp only [putAll, Act.put, List.setIfInBounds_toArray, List.set_cons_zero, List.set_cons_succ]; done) | (simp only [putAll, Act.put, List.setIfInBounds_toArray, List.set_cons_zero, List.set_cons_succ]; rfl)) (hJ5_7 (gb106) _ ⟨hHeld, (pB BK106.out), GW106.out, GE106.out, (pL HB.out)⟩)
  skip
  refine box_step ?hg (N := 5) ?hd (cs := #[.int .i64 0, .string (⟨#[]⟩ : ByteArray), .string (⟨#[]⟩ : ByteArray), .string (⟨#[]⟩ : ByteArray), .string (⟨#[]⟩ : ByteArray), .int .i64 0, .int .i64 0, .int .i64 0]) (t := 34) ?hr ?_; (case hd => rfl); (case hg => rfl); (case hr => first | (go_simp; done) | (go_simp; rfl))
  intro gb105 hg w11 hbox hb
  have BK105 := am (hbox)
  have GW105 := am ((by rw [hg]; exact (below_size (pL HB.out)) : w.heap.size ≤ gb105))
  have GE105 := am ((by rw [hg]; exact (below_size (pL HB.out)) : w.heap.size ≤ gb105))
  replace HB := am (bs_ HB.out hb)
  have NB106_105 := am ((by rw [hg]; exact Nat.ne_of_lt (blk_lt (pB BK106.out)) : gb106 ≠ gb105))
  have NB105_106 := am ((by rw [hg]; exact Nat.ne_of_gt (blk_lt (pB BK106.out)) : gb105 ≠ gb106))
  replace BK106 := am (bb_ BK106.out hb)
  clear hb hbox hg
  refine hK.out _ _ ⟨(up_ HB.out hw101_0), (up_ HB.out hw101_1), (up_ HB.out hw101_2), (up_ HB.out hw101_3), (up_ HB.out hw101_4), (up_ HB.out hw101_5), (up_ HB.out hw101_6), (up_ HB.out hw101_7)⟩ (fun hHeld => ?_)
  clear hK K
  refine norm_ (a' := ?_) ?_ ?_
  rotate_left
  ·show Act.put _ (some 5) _ = _
   simp only [Act.put, sA, sZ, sS, i64_w, i32_w]
   rfl
  exact norm_ (by first | (simp only [putAll, Act.put, List.setIfInBounds_toArray, List.set_cons_zero, List.set_cons_succ]; done) | (simp only [putAll, Act.put, List.setIfInBounds_toArray, List.set_cons_zero, List.set_cons_succ]; rfl)) (hJ6_7 (gb105, gb106) _ ⟨hHeld, (pB BK105.out), (pB BK106.out), GW105.out, GE105.out, NB106_105.out, NB105_106.out, GW106.out, GE106.out, (pL HB.out)⟩)
 rintro ⟨gb105, gb106⟩ w12 ⟨hS_, h0_, h1_, h2_, h3_, h4_, h5_, h6_, h7_, h8_⟩
 have BK105 : Aside0 (w12.heap[gb105]? = some (.cells #[.int .i64 0, .string (⟨#[]⟩ : ByteArray), .string (⟨#[]⟩ : ByteArray), .string (⟨#[]⟩ : ByteArray), .string (⟨#[]⟩ : ByteArray), .int .i64 0, .int .i64 0, .int .i64 0] 34 (0, 0))) := ⟨h0_⟩
 have BK106 : Aside0 (w12.heap[gb106]? = some (.cells #[.bool false, .string (⟨#[]⟩ : ByteArray), .int .i64 0] 36 (0, 0))) := ⟨h1_⟩
 have GW105 : Aside0 (w.heap.size ≤ gb105) := ⟨h2_⟩
 have GE105 : Aside0 (w.heap.size ≤ gb105) := ⟨h3_⟩
 have NB106_105 : Aside0 (gb106 ≠ gb105) := ⟨h4_⟩
 have NB105_106 : Aside0 (gb105 ≠ gb106) := ⟨h5_⟩
 have GW106 : Aside0 (w.heap.size ≤ gb106) := ⟨h6_⟩
 have GE106 : Aside0 (w.heap.size ≤ gb106) := ⟨h7_⟩
 replace HB : Aside0 (Below w.heap.size w w12) := ⟨h8_⟩
 clear h0_ h1_ h2_ h3_ h4_ h5_ h6_ h7_ h8_
 have hHeld : w12.cell? (ad101.add ((a1).toNat * 8)) = some (.int .i64 ((rd_T34 l0 a1).kind)) ∧ w12.cell? ⟨(ad101.add ((a1).toNat * 8)).block, (ad101.add ((a1).toNat * 8)).off + 1, none⟩ = some (.string ((rd_T34 l0 a1).x)) ∧ w12.cell? ⟨(ad101.add ((a1).toNat * 8)).block, (ad101.add ((a1).toNat * 8)).off + 2, none⟩ = some (.string ((rd_T34 l0 a1).y)) ∧ w12.cell? ⟨(ad101.add ((a1).toNat * 8)).block, (ad101.add ((a1).toNat * 8)).off + 3, none⟩ = some (.string ((rd_T34 l0 a1).z)) ∧ w12.cell? ⟨(ad101.add ((a1).toNat * 8)).block, (ad101.add ((a1).toNat * 8)).off + 4, none⟩ = some (.string ((rd_T34 l0 a1).op)) ∧ w12.cell? ⟨(ad101.add ((a1).toNat * 8)).block, (ad101.add ((a1).toNat * 8)).off + 5, none⟩ = some (.int .i64 ((rd_T34 l0 a1).n)) ∧ w12.cell? ⟨(ad101.add ((a1).toNat * 8)).block, (ad101.add ((a1).toNat * 8)).off + 6, none⟩ = some (.int .i64 ((rd_T34 l0 a1).a)) ∧ w12.cell? ⟨(ad101.add ((a1).toNat * 8)).block, (ad101.add ((a1).toNat * 8)).off + 7, none⟩ = some (.int .i64 ((rd_T34 l0 a1).b)) := hS_
 refine norm_ (a' := ?_) ?_ ?_
 rotate_left
 ·simp only [putAll, Act.put, List.setIfInBounds_toArray, List.set_cons_zero, List.set_cons_succ]
  rfl
 refine one_ (i := 8) (N := none) (bl 10 511) rfl rfl (one_of HT_.out (by kernel_rfl)) (by decide) (fun K hK => ?_)
 have hs13 : w12.cell? ⟨gb105, 0, none⟩ = some (.int .i64 0) := (blk_cell BK105.out 0).trans rfl
 have hfs13 := blk_frozen BK105.out 0
 have hns13_1 := NB106_105.out
 have hms13_1 := NB105_106.out
 have hs14 : w12.cell? ⟨gb105, 1, none⟩ = some (.string (⟨#[]⟩ : ByteArray)) := (blk_cell BK105.out 1).trans rfl
 have hfs14 := blk_frozen BK105.out 1
 have hns14_1 := NB106_105.out
 have hms14_1 := NB105_106.out
 have hs15 : w12.cell? ⟨gb105, 2, none⟩ = some (.string (⟨#[]⟩ : ByteArray)) := (blk_cell BK105.out 2).trans rfl
 have hfs15 := blk_frozen BK105.out 2
 have hns15_1 := NB106_105.out
 have hms15_1 := NB105_106.out
 have hs16 : w12.cell? ⟨gb105, 3, none⟩ = some (.string (⟨#[]⟩ : ByteArray)) := (blk_cell BK105.out 3).trans rfl
 have hfs16 := blk_frozen BK105.out 3
 have hns16_1 := NB106_105.out
 have hms16_1 := NB105_106.out
 have hs17 : w12.cell? ⟨gb105, 4, none⟩ = some (.string (⟨#[]⟩ : ByteArray)) := (blk_cell BK105.out 4).trans rfl
 have hfs17 := blk_frozen BK105.out 4
 have hns17_1 := NB106_105.out
 have hms17_1 := NB105_106.out
 have hs18 : w12.cell? ⟨gb105, 5, none⟩ = some (.int .i64 0) := (blk_cell BK105.out 5).trans rfl
 have hfs18 := blk_frozen BK105.out 5
 have hns18_1 := NB106_105.out
 have hms18_1 := NB105_106.out
 have hs19 : w12.cell? ⟨gb105, 6, none⟩ = some (.int .i64 0) := (blk_cell BK105.out 6).trans rfl
 have hfs19 := blk_frozen BK105.out 6
 have hns19_1 := NB106_105.out
 have hms19_1 := NB105_106.out
 have hs20 : w12.cell? ⟨gb105, 7, none⟩ = some (.int .i64 0) := (blk_cell BK105.out 7).trans rfl
 have hfs20 := blk_frozen BK105.out 7
 have hns20_1 := NB106_105.out
 have hms20_1 := NB105_106.out
 refine skip_ (w1 := ?_) ?hA_ ?hB_ ?_ ?_
 (case hA_ => kernel_rfl)
 (case hB_ => rfl)
 rotate_left
 ·go_simp
  rfl
 refine hK.out _ _ ⟨(by repeat (first | (with_reducible exact (hHeld.1)) | refine (cell_far (p := ⟨gb105, _, none⟩) (by first | exact Nat.ne_of_lt (Nat.lt_of_lt_of_le (by have := blt_ hw101_0; first | rwa [add_block] at this | exact this) GW105.out) | (rw [add_block]; exact Nat.ne_of_lt (Nat.lt_of_lt_of_le (by have := blt_ hw101_0; first | rwa [add_block] at this | exact this) GW105.out)) | (show (Addr.add _ _).block ≠ _; rw [add_block]; exact Nat.ne_of_lt (Nat.lt_of_lt_of_le (by have := blt_ hw101_0; first | rwa [add_block] at this | exact this) GW105.out)) | (dsimp only; exact Nat.ne_of_lt (Nat.lt_of_lt_of_le (by have := blt_ hw101_0; first | rwa [add_block] at this | exact this) GW105.out))) _).trans ?_ | exact (hHeld.1))), (by repeat (first | (with_reducible exact (hHeld.2.1)) | refine (cell_far (p := ⟨gb105, _, none⟩) (by first | exact Nat.ne_of_lt (Nat.lt_of_lt_of_le (by have := blt_ hw101_1; first | rwa [add_block] at this | exact this) GW105.out) | (rw [add_block]; exact Nat.ne_of_lt (Nat.lt_of_lt_of_le (by have := blt_ hw101_1; first | rwa [add_block] at this | exact this) GW105.out)) | (show (Addr.add _ _).block ≠ _; rw [add_block]; exact Nat.ne_of_lt (Nat.lt_of_lt_of_le (by have := blt_ hw101_1; first | rwa [add_block] at this | exact this) GW105.out)) | (dsimp only; exact Nat.ne_of_lt (Nat.lt_of_lt_of_le (by have := blt_ hw101_1; first | rwa [add_block] at this | exact this) GW105.out))) _).trans ?_ | exact (hHeld.2.1))), (by repeat (first | (with_reducible exact (hHeld.2.2.1)) | refine (cell_far (p := ⟨gb105, _, none⟩) (by first | exact Nat.ne_of_lt (Nat.lt_of_lt_of_le (by have := blt_ hw101_2; first | rwa [add_block] at this | exact this) GW105.out) | (rw [add_block]; exact Nat.ne_of_lt (Nat.lt_of_lt_of_le (by have := blt_ hw101_2; first | rwa [add_block] at this | exact this) GW105.out)) | (show (Addr.add _ _).block ≠ _; rw [add_block]; exact Nat.ne_of_lt (Nat.lt_of_lt_of_le (by have := blt_ hw101_2; first | rwa [add_block] at this | exact this) GW105.out)) | (dsimp only; exact Nat.ne_of_lt (Nat.lt_of_lt_of_le (by have := blt_ hw101_2; first | rwa [add_block] at this | exact this) GW105.out))) _).trans ?_ | exact (hHeld.2.2.1))), (by repeat (first | (with_reducible exact (hHeld.2.2.2.1)) | refine (cell_far (p := ⟨gb105, _, none⟩) (by first | exact Nat.ne_of_lt (Nat.lt_of_lt_of_le (by have := blt_ hw101_3; first | rwa [add_block] at this | exact this) GW105.out) | (rw [add_block]; exact Nat.ne_of_lt (Nat.lt_of_lt_of_le (by have := blt_ hw101_3; first | rwa [add_block] at this | exact this) GW105.out)) | (show (Addr.add _ _).block ≠ _; rw [add_block]; exact Nat.ne_of_lt (Nat.lt_of_lt_of_le (by have := blt_ hw101_3; first | rwa [add_block] at this | exact this) GW105.out)) | (dsimp only; exact Nat.ne_of_lt (Nat.lt_of_lt_of_le (by have := blt_ hw101_3; first | rwa [add_block] at this | exact this) GW105.out))) _).trans ?_ | exact (hHeld.2.2.2.1))), (by repeat (first | (with_reducible exact (hHeld.2.2.2.2.1)) | refine (cell_far (p := ⟨gb105, _, none⟩) (by first | exact Nat.ne_of_lt (Nat.lt_of_lt_of_le (by have := blt_ hw101_4; first | rwa [add_block] at this | exact this) GW105.out) | (rw [add_block]; exact Nat.ne_of_lt (Nat.lt_of_lt_of_le (by have := blt_ hw101_4; first | rwa [add_block] at this | exact this) GW105.out)) | (show (Addr.add _ _).block ≠ _; rw [add_block]; exact Nat.ne_of_lt (Nat.lt_of_lt_of_le (by have := blt_ hw101_4; first | rwa [add_block] at this | exact this) GW105.out)) | (dsimp only; exact Nat.ne_of_lt (Nat.lt_of_lt_of_le (by have := blt_ hw101_4; first | rwa [add_block] at this | exact this) GW105.out))) _).trans ?_ | exact (hHeld.2.2.2.2.1))), (by repeat (first | (with_reducible exact (hHeld.2.2.2.2.2.1)) | refine (cell_far (p := ⟨gb105, _, none⟩) (by first | exact Nat.ne_of_lt (Nat.lt_of_lt_of_le (by have := blt_ hw101_5; first | rwa [add_block] at this | exact this) GW105.out) | (rw [add_block]; exact Nat.ne_of_lt (Nat.lt_of_lt_of_le (by have := blt_ hw101_5; first | rwa [add_block] at this | exact this) GW105.out)) | (show (Addr.add _ _).block ≠ _; rw [add_block]; exact Nat.ne_of_lt (Nat.lt_of_lt_of_le (by have := blt_ hw101_5; first | rwa [add_block] at this | exact this) GW105.out)) | (dsimp only; exact Nat.ne_of_lt (Nat.lt_of_lt_of_le (by have := blt_ hw101_5; first | rwa [add_block] at this | exact this) GW105.out))) _).trans ?_ | exact (hHeld.2.2.2.2.2.1))), (by repeat (first | (with_reducible exact (hHeld.2.2.2.2.2.2.1)) | refine (cell_far (p := ⟨gb105, _, none⟩) (by first | exact Nat.ne_of_lt (Nat.lt_of_lt_of_le (by have := blt_ hw101_6; first | rwa [add_block] at this | exact this) GW105.out) | (rw [add_block]; exact Nat.ne_of_lt (Nat.lt_of_lt_of_le (by have := blt_ hw101_6; first | rwa [add_block] at this | exact this) GW105.out)) | (show (Addr.add _ _).block ≠ _; rw [add_block]; exact Nat.ne_of_lt (Nat.lt_of_lt_of_le (by have := blt_ hw101_6; first | rwa [add_block] at this | exact this) GW105.out)) | (dsimp only; exact Nat.ne_of_lt (Nat.lt_of_lt_of_le (by have := blt_ hw101_6; first | rwa [add_block] at this | exact this) GW105.out))) _).trans ?_ | exact (hHeld.2.2.2.2.2.2.1))), (by repeat (first | (with_reducible exact (hHeld.2.2.2.2.2.2.2)) | refine (cell_far (p := ⟨gb105, _, none⟩) (by first | exact Nat.ne_of_lt (Nat.lt_of_lt_of_le (by have := blt_ hw101_7; first | rwa [add_block] at this | exact this) GW105.out) | (rw [add_block]; exact Nat.ne_of_lt (Nat.lt_of_lt_of_le (by have := blt_ hw101_7; first | rwa [add_block] at this | exact this) GW105.out)) | (show (Addr.add _ _).block ≠ _; rw [add_block]; exact Nat.ne_of_lt (Nat.lt_of_lt_of_le (by have := blt_ hw101_7; first | rwa [add_block] at this | exact this) GW105.out)) | (dsimp only; exact Nat.ne_of_lt (Nat.lt_of_lt_of_le (by have := blt_ hw101_7; first | rwa [add_block] at this | exact this) GW105.out))) _).trans ?_ | exact (hHeld.2.2.2.2.2.2.2)))⟩ (fun hHeld => ?_)
 clear hK K
 refine one_ (i := 9) (N := none) (bl 10 1023) rfl rfl (one_of HT_.out (by kernel_rfl)) (by decide) (fun K hK => ?_)
 have hs21 : w12.cell? ⟨gb106, 0, none⟩ = some (.bool false) := (blk_cell BK106.out 0).trans rfl
 have hfs21 := blk_frozen BK106.out 0
 have hns21_0 := NB105_106.out
 have hms21_0 := NB106_105.out
 have hs22 : w12.cell? ⟨gb106, 1, none⟩ = some (.string (⟨#[]⟩ : ByteArray)) := (blk_cell BK106.out 1).trans rfl
 have hfs22 := blk_frozen BK106.out 1
 have hns22_0 := NB105_106.out
 have hms22_0 := NB106_105.out
 have hs23 : w12.cell? ⟨gb106, 2, none⟩ = some (.int .i64 0) := (blk_cell BK106.out 2).trans rfl
 have hfs23 := blk_frozen BK106.out 2
 have hns23_0 := NB105_106.out
 have hms23_0 := NB106_105.out
 refine skip_ (w1 := ?_) ?hA_ ?hB_ ?_ ?_
 (case hA_ => kernel_rfl)
 (case hB_ => rfl)
 rotate_left
 ·go_simp
  rfl
 refine hK.out _ _ ⟨(by repeat (first | (with_reducible exact (hHeld.1)) | refine (cell_far (p := ⟨gb106, _, none⟩) (by first | exact Nat.ne_of_lt (Nat.lt_of_lt_of_le (by have := blt_ hw101_0; first | rwa [add_block] at this | exact this) GW106.out) | (rw [add_block]; exact Nat.ne_of_lt (Nat.lt_of_lt_of_le (by have := blt_ hw101_0; first | rwa [add_block] at this | exact this) GW106.out)) | (show (Addr.add _ _).block ≠ _; rw [add_block]; exact Nat.ne_of_lt (Nat.lt_of_lt_of_le (by have := blt_ hw101_0; first | rwa [add_block] at this | exact this) GW106.out)) | (dsimp only; exact Nat.ne_of_lt (Nat.lt_of_lt_of_le (by have := blt_ hw101_0; first | rwa [add_block] at this | exact this) GW106.out))) _).trans ?_ | exact (hHeld.1))), (by repeat (first | (with_reducible exact (hHeld.2.1)) | refine (cell_far (p := ⟨gb106, _, none⟩) (by first | exact Nat.ne_of_lt (Nat.lt_of_lt_of_le (by have := blt_ hw101_1; first | rwa [add_block] at this | exact this) GW106.out) | (rw [add_block]; exact Nat.ne_of_lt (Nat.lt_of_lt_of_le (by have := blt_ hw101_1; first | rwa [add_block] at this | exact this) GW106.out)) | (show (Addr.add _ _).block ≠ _; rw [add_block]; exact Nat.ne_of_lt (Nat.lt_of_lt_of_le (by have := blt_ hw101_1; first | rwa [add_block] at this | exact this) GW106.out)) | (dsimp only; exact Nat.ne_of_lt (Nat.lt_of_lt_of_le (by have := blt_ hw101_1; first | rwa [add_block] at this | exact this) GW106.out))) _).trans ?_ | exact (hHeld.2.1))), (by repeat (first | (with_reducible exact (hHeld.2.2.1)) | refine (cell_far (p := ⟨gb106, _, none⟩) (by first | exact Nat.ne_of_lt (Nat.lt_of_lt_of_le (by have := blt_ hw101_2; first | rwa [add_block] at this | exact this) GW106.out) | (rw [add_block]; exact Nat.ne_of_lt (Nat.lt_of_lt_of_le (by have := blt_ hw101_2; first | rwa [add_block] at this | exact this) GW106.out)) | (show (Addr.add _ _).block ≠ _; rw [add_block]; exact Nat.ne_of_lt (Nat.lt_of_lt_of_le (by have := blt_ hw101_2; first | rwa [add_block] at this | exact this) GW106.out)) | (dsimp only; exact Nat.ne_of_lt (Nat.lt_of_lt_of_le (by have := blt_ hw101_2; first | rwa [add_block] at this | exact this) GW106.out))) _).trans ?_ | exact (hHeld.2.2.1))), (by repeat (first | (with_reducible exact (hHeld.2.2.2.1)) | refine (cell_far (p := ⟨gb106, _, none⟩) (by first | exact Nat.ne_of_lt (Nat.lt_of_lt_of_le (by have := blt_ hw101_3; first | rwa [add_block] at this | exact this) GW106.out) | (rw [add_block]; exact Nat.ne_of_lt (Nat.lt_of_lt_of_le (by have := blt_ hw101_3; first | rwa [add_block] at this | exact this) GW106.out)) | (show (Addr.add _ _).block ≠ _; rw [add_block]; exact Nat.ne_of_lt (Nat.lt_of_lt_of_le (by have := blt_ hw101_3; first | rwa [add_block] at this | exact this) GW106.out)) | (dsimp only; exact Nat.ne_of_lt (Nat.lt_of_lt_of_le (by have := blt_ hw101_3; first | rwa [add_block] at this | exact this) GW106.out))) _).trans ?_ | exact (hHeld.2.2.2.1))), (by repeat (first | (with_reducible exact (hHeld.2.2.2.2.1)) | refine (cell_far (p := ⟨gb106, _, none⟩) (by first | exact Nat.ne_of_lt (Nat.lt_of_lt_of_le (by have := blt_ hw101_4; first | rwa [add_block] at this | exact this) GW106.out) | (rw [add_block]; exact Nat.ne_of_lt (Nat.lt_of_lt_of_le (by have := blt_ hw101_4; first | rwa [add_block] at this | exact this) GW106.out)) | (show (Addr.add _ _).block ≠ _; rw [add_block]; exact Nat.ne_of_lt (Nat.lt_of_lt_of_le (by have := blt_ hw101_4; first | rwa [add_block] at this | exact this) GW106.out)) | (dsimp only; exact Nat.ne_of_lt (Nat.lt_of_lt_of_le (by have := blt_ hw101_4; first | rwa [add_block] at this | exact this) GW106.out))) _).trans ?_ | exact (hHeld.2.2.2.2.1))), (by repeat (first | (with_reducible exact (hHeld.2.2.2.2.2.1)) | refine (cell_far (p := ⟨gb106, _, none⟩) (by first | exact Nat.ne_of_lt (Nat.lt_of_lt_of_le (by have := blt_ hw101_5; first | rwa [add_block] at this | exact this) GW106.out) | (rw [add_block]; exact Nat.ne_of_lt (Nat.lt_of_lt_of_le (by have := blt_ hw101_5; first | rwa [add_block] at this | exact this) GW106.out)) | (show (Addr.add _ _).block ≠ _; rw [add_block]; exact Nat.ne_of_lt (Nat.lt_of_lt_of_le (by have := blt_ hw101_5; first | rwa [add_block] at this | exact this) GW106.out)) | (dsimp only; exact Nat.ne_of_lt (Nat.lt_of_lt_of_le (by have := blt_ hw101_5; first | rwa [add_block] at this | exact this) GW106.out))) _).trans ?_ | exact (hHeld.2.2.2.2.2.1))), (by repeat (first | (with_reducible exact (hHeld.2.2.2.2.2.2.1)) | refine (cell_far (p := ⟨gb106, _, none⟩) (by first | exact Nat.ne_of_lt (Nat.lt_of_lt_of_le (by have := blt_ hw101_6; first | rwa [add_block] at this | exact this) GW106.out) | (rw [add_block]; exact Nat.ne_of_lt (Nat.lt_of_lt_of_le (by have := blt_ hw101_6; first | rwa [add_block] at this | exact this) GW106.out)) | (show (Addr.add _ _).block ≠ _; rw [add_block]; exact Nat.ne_of_lt (Nat.lt_of_lt_of_le (by have := blt_ hw101_6; first | rwa [add_block] at this | exact this) GW106.out)) | (dsimp only; exact Nat.ne_of_lt (Nat.lt_of_lt_of_le (by have := blt_ hw101_6; first | rwa [add_block] at this | exact this) GW106.out))) _).trans ?_ | exact (hHeld.2.2.2.2.2.2.1))), (by repeat (first | (with_reducible exact (hHeld.2.2.2.2.2.2.2)) | refine (cell_far (p := ⟨gb106, _, none⟩) (by first | exact Nat.ne_of_lt (Nat.lt_of_lt_of_le (by have := blt_ hw101_7; first | rwa [add_block] at this | exact this) GW106.out) | (rw [add_block]; exact Nat.ne_of_lt (Nat.lt_of_lt_of_le (by have := blt_ hw101_7; first | rwa [add_block] at this | exact this) GW106.out)) | (show (Addr.add _ _).block ≠ _; rw [add_block]; exact Nat.ne_of_lt (Nat.lt_of_lt_of_le (by have := blt_ hw101_7; first | rwa [add_block] at this | exact this) GW106.out)) | (dsimp only; exact Nat.ne_of_lt (Nat.lt_of_lt_of_le (by have := blt_ hw101_7; first | rwa [add_block] at this | exact this) GW106.out))) _).trans ?_ | exact (hHeld.2.2.2.2.2.2.2)))⟩ (fun hHeld => ?_)
 clear hK K
 refine done_ (done_of HT_.out (by kernel_rfl)) ?_
 have hnb24 := NB106_105.out
 have hnc24 := NB105_106.out
 obtain ⟨hcz25_0, hcz25_1, hcz25_2, hfz25_0, hfz25_1, hfz25_2⟩ := bc3 BK106.out
 try go_wp2_with (first | ((with_reducible refine gate_dst (N := 24) rfl ?_); refine Kd.R_lit k36 _ 36 ?hg (N := 24) ?hd (xs := ([(⟨t102, t103, t104⟩ : Val)] : List (Val))) (inner := [.bool t102, .string t103, .int .i64 t104]) (ok := fun _ => True) (okp := fun _ => True) ?hr ?hp (fun _ hk => hk) trivial (Below.refl _ _) (Nat.le_refl _) (by simp) ?_; (case hd => rfl); (case hg => rfl); (case hr => first | (go_simp; done) | (go_simp; rfl)); (case hp => exact (Reps.c3 (show Kd.M k36 _ _ _ (⟨t102, t103, t104⟩ : Val) [.bool t102, .string t103, .int .i64 t104] from (k36_mkM _ _ _ (⟨t102, t103, t104⟩ : Val) )) (Reps.none _ _))); intro v108 w26 ho27 hb hg_ hnew_; clear hg_ hnew_; (first | rw [← Ny107.out] at ho27 | (simp only [Int.reduceToNat] at ho27; rw [← Ny107.out] at ho27)); have HO109 := am (Kd.R_lower (Kd.R_newB (Kd.R_newM (M := fun k_ => (w.heap.size ≤ k_)) ho27 (below_size (pL HB.out)) (fun k_ h_ => h_)) (g := gb106) (o := .cells #[.bool t102, .string t103, .int .i64 t104] 36 (0, 0)) (by (with_reducible repeat (first | refine bN ?_ _ | refine bD ?_ | refine bA ?_ _)); refine blk_put (cs := #[.bool t102, .string t103, .int .i64 0]) ?_ 2 _ rfl; (with_reducible repeat (first | refine bN ?_ _ | refine bD ?_ | refine bA ?_ _)); refine blk_put (cs := #[.bool t102, .string (⟨#[]⟩ : ByteArray), .int .i64 0]) ?_ 1 _ rfl; (with_reducible repeat (first | refine bN ?_ _ | refine bD ?_ | refine bA ?_ _)); refine blk_put (cs := #[.bool false, .string (⟨#[]⟩ : ByteArray), .int .i64 0]) ?_ 0 _ rfl; (with_reducible repeat (first | refine bN ?_ _ | refine bD ?_ | refine bA ?_ _)); refine blk_far ?_ NB106_105.out _; (with_reducible repeat (first | refine bN ?_ _ | refine bD ?_ | refine bA ?_ _)); refine blk_far ?_ NB106_105.out _; (with_reducible repeat (first | refine bN ?_ _ | refine bD ?_ | refine bA ?_ _)); refine blk_far ?_ NB106_105.out _; (with_reducible repeat (first | refine bN ?_ _ | refine bD ?_ | refine bA ?_ _)); refine blk_far ?_ NB106_105.out _; (with_reducible repeat (first | refine bN ?_ _ | refine bD ?_ | refine bA ?_ _)); refine blk_far ?_ NB106_105.out _; (with_reducible repeat (first | refine bN ?_ _ | refine bD ?_ | refine bA ?_ _)); refine blk_far ?_ NB106_105.out _; (with_reducible repeat (first | refine bN ?_ _ | refine bD ?_ | refine bA ?_ _)); refine blk_far ?_ NB106_105.out _; (with_reducible repeat (first | refine bN ?_ _ | refine bD ?_ | refine bA ?_ _)); refine blk_far ?_ NB106_105.out _; (with_reducible repeat (first | refine bN ?_ _ | refine bD ?_ | refine bA ?_ _)); exact BK106.out)) (below_size (pL HB.out))); replace BK105 := am (blk_below (g := gb105) (o := .cells #[.int .i64 ((rd_T34 l0 a1).kind), .string ((rd_T34 l0 a1).x), .string ((rd_T34 l0 a1).y), .string ((rd_T34 l0 a1).z), .string ((rd_T34 l0 a1).op), .int .i64 ((rd_T34 l0 a1).n), .int .i64 ((rd_T34 l0 a1).a), .int .i64 ((rd_T34 l0 a1).b)] 34 (0, 0)) (by (with_reducible repeat (first | refine bN ?_ _ | refine bD ?_ | refine bA ?_ _)); refine blk_far ?_ NB105_106.out _; (with_reducible repeat (first | refine bN ?_ _ | refine bD ?_ | refine bA ?_ _)); refine blk_far ?_ NB105_106.out _; (with_reducible repeat (first | refine bN ?_ _ | refine bD ?_ | refine bA ?_ _)); refine blk_far ?_ NB105_106.out _; (with_reducible repeat (first | refine bN ?_ _ | refine bD ?_ | refine bA ?_ _)); exact bp 7 (bp 6 (bp 5 (bp 4 (bp 3 (bp 2 (bp 1 (bp 0 BK105.out)))))))) hb); replace BK106 := am (blk_below (g := gb106) (o := .cells #[.bool t102, .string t103, .int .i64 t104] 36 (0, 0)) (by (with_reducible repeat (first | refine bN ?_ _ | refine bD ?_ | refine bA ?_ _)); refine blk_put (cs := #[.bool t102, .string t103, .int .i64 0]) ?_ 2 _ rfl; (with_reducible repeat (first | refine bN ?_ _ | refine bD ?_ | refine bA ?_ _)); refine blk_put (cs := #[.bool t102, .string (⟨#[]⟩ : ByteArray), .int .i64 0]) ?_ 1 _ rfl; (with_reducible repeat (first | refine bN ?_ _ | refine bD ?_ | refine bA ?_ _)); refine blk_put (cs := #[.bool false, .string (⟨#[]⟩ : ByteArray), .int .i64 0]) ?_ 0 _ rfl; (with_reducible repeat (first | refine bN ?_ _ | refine bD ?_ | refine bA ?_ _)); refine blk_far ?_ NB106_105.out _; (with_reducible repeat (first | refine bN ?_ _ | refine bD ?_ | refine bA ?_ _)); refine blk_far ?_ NB106_105.out _; (with_reducible repeat (first | refine bN ?_ _ | refine bD ?_ | refine bA ?_ _)); refine blk_far ?_ NB106_105.out _; (with_reducible repeat (first | refine bN ?_ _ | refine bD ?_ | refine bA ?_ _)); refine blk_far ?_ NB106_105.out _; (with_reducible repeat (first | refine bN ?_ _ | refine bD ?_ | refine bA ?_ _)); refine blk_far ?_ NB106_105.out _; (with_reducible repeat (first | refine bN ?_ _ | refine bD ?_ | refine bA ?_ _)); refine blk_far ?_ NB106_105.out _; (with_reducible repeat (first | refine bN ?_ _ | refine bD ?_ | refine bA ?_ _)); refine blk_far ?_ NB106_105.out _; (with_reducible repeat (first | refine bN ?_ _ | refine bD ?_ | refine bA ?_ _)); refine blk_far ?_ NB106_105.out _; (with_reducible repeat (first | refine bN ?_ _ | refine bD ?_ | refine bA ?_ _)); exact BK106.out) hb); replace HB := am (bs_ HB.out hb); clear hb ho27; obtain ⟨Ao28, co28, eo28⟩ := Kd.R_slice HO109.out; subst eo28) | ((with_reducible refine gate_callee (f := 22) rfl ?_); refine goesL_ (some 25) rfl rfl Tryz.func22 (by kernel_rfl) rfl #[.string (⟨#[110, 111, 100, 101]⟩ : ByteArray), .slice Ao28 y107.length co28] rfl gl_ ?_; (with_reducible refine (facts_fact.calls (⟨#[110, 111, 100, 101]⟩ : ByteArray) (fun k_ => some k_ = (.slice Ao28 y107.length co28 : Value).ownBlock) _ _ y107 t110 t111 _ ?side1 A6.out).mono ?_); (case side1 => exact Kd.R_V (Kd.R_tight rfl (Kd.R_types (HO109.out) BK105.out (by decide)))); rintro e w29 ⟨v112, rfl, ho0, hb⟩; refine ⟨_, rfl, ?_⟩; have HO113 := am (Kd.V_lower (Kd.V_mono (ok' := fun k_ => (w.heap.size ≤ k_) ∧ k_ ≠ gb105 ∧ k_ ≠ gb106) ho0 (fun k_ hk_ => ⟨Or.elim hk_ (fun hs_ => ((Kd.R_types (HO109.out) BK105.out (by decide)).1 k_ hs_.symm).1.1.1) (fun hn_ => (Nat.le_trans (below_size (pL HB.out)) hn_)), Or.elim hk_ (fun hs_ => ((Kd.R_types (HO109.out) BK105.out (by decide)).1 k_ hs_.symm).2) (fun hn_ => (Kd.freshB (g := gb105) (pB BK105.out) k_ hn_)), Or.elim hk_ (fun hs_ => ((Kd.R_types (HO109.out) BK105.out (by decide)).1 k_ hs_.symm).1.2) (fun hn_ => (Kd.freshB (g := gb106) (pB BK106.out) k_ hn_))⟩)) (below_size (pL HB.out))); replace HO109 := am (Rb_ HO109.out hb); replace BK105 := am (bb_ BK105.out hb); replace BK106 := am (bb_ BK106.out hb); replace HB := am (bs_ HB.out hb); (try clear hb); (try clear hb2); (try clear hk); (try clear hi); (try clear ho0); obtain ⟨Ao30, co30, eo30⟩ := Kd.V_slice HO113.out; subst eo30) | ((with_reducible refine gate_dst (N := 26) rfl ?_); refine Kd.N_lit k26 _ 26 ?hg (N' := 26) ?hd (xs := ([(⟨t110, t111⟩ : Fact)] : List (Fact))) (inner := [.string t110, .slice Ao30 t111.length co30]) (ok := (fun k_ => (w.heap.size ≤ k_) ∧ k_ ≠ gb105 ∧ k_ ≠ gb106)) (okp := (fun k_ => (w.heap.size ≤ k_) ∧ k_ ≠ gb105 ∧ k_ ≠ gb106)) ?hr ?hp (fun _ hk => hk) ((show ∀ k_, w29.heap.size ≤ k_ → (fun k_ => (w.heap.size ≤ k_) ∧ k_ ≠ gb105 ∧ k_ ≠ gb106) k_ from fun k_ hk => ⟨(Nat.le_trans (below_size (pL HB.out)) hk), Kd.freshB (g := gb105) (pB BK105.out) k_ hk, Kd.freshB (g := gb106) (pB BK106.out) k_ hk⟩) _ (Nat.le_refl _)) (Below.refl _ _) (Nat.le_refl _) (by simp) ?_; (case hd => rfl); (case hg => rfl); (case hr => first | (go_simp; done) | (go_simp; rfl)); (case hp => exact (Reps.c2 (show Kd.FK k26 _ _ (⟨t110, t111⟩ : Fact) [.string t110, .slice Ao30 t111.length co30] from (k26_mkF _ _ (⟨t110, t111⟩ : Fact) (Kd.V_reads' (Kd.V_mono (ok' := (fun k_ => (w.heap.size ≤ k_) ∧ k_ ≠ gb105 ∧ k_ ≠ gb106)) (HO113.out) (fun k_ hk => ⟨hk.1, ⟨hk.2.1, hk.2.2⟩⟩))).2.1 (Kd.V_F (Kd.V_mono (ok' := (fun k_ => (w.heap.size ≤ k_) ∧ k_ ≠ gb105 ∧ k_ ≠ gb106)) (HO113.out) (fun k_ hk => ⟨hk.1, ⟨hk.2.1, hk.2.2⟩⟩))))) (Reps.none _ _))); intro v115 w31 ho32 hb hg_ hnew_; clear hg_ hnew_; (first | rw [← Ny114.out] at ho32 | (simp only [Int.reduceToNat] at ho32; rw [← Ny114.out] at ho32)); replace HO109 := am (Rb_ HO109.out hb); replace HO113 := am (Kd.V_elder' (pV HO113.out) (Kd.N_base ho32) hb); have HO116 := am (Kd.N_lower ho32 (below_size (pL HB.out))); replace BK105 := am (bb_ BK105.out hb); replace BK106 := am (bb_ BK106.out hb); replace HB := am (bs_ HB.out hb); clear hb ho32) | ((with_reducible refine gate_callee (f := 28) rfl ?_); refine goesL_ (some 29) rfl rfl Tryz.func28 (by kernel_rfl) rfl #[.slice (some ad101) l0.length c0, .int .i64 a1] rfl gl_ ?_; (with_reducible refine (cfg_Next.calls _ _ l0 a1 t117 _ ?side1 ?side2 A7.out).mono ?_); (case side1 => repeat (first | exact (Kd.C_below HR0.out HB.out) | (with_reducible refine Kd.C_alloc ?_ _) | (with_reducible refine Kd.C_drewN ?_ _) | (with_reducible refine Kd.C_drew ?_))); (case side2 => exact HC0.out); rintro e w33 ⟨v118, rfl, ho0, hb⟩; refine ⟨_, rfl, ?_⟩; replace HO109 := am (Rb_ HO109.out hb); replace HO113 := am (Kd.V_elder' (pV HO113.out) (Kd.R_base ho0) hb); replace HO116 := am (Kd.N_elder' (by (with_reducible repeat (first | apply Kd.N_alloc | apply Kd.N_drewN | apply Kd.N_drew)); exact HO116.out) (Kd.R_base ho0) hb); have HO119 := am (Kd.R_lower (Kd.R_newM (M := fun k_ => (w.heap.size ≤ k_)) ho0 (below_size (pL HB.out)) (fun k_ h_ => h_)) (below_size (pL HB.out))); replace BK105 := am (bb_ BK105.out hb); replace BK106 := am (bb_ BK106.out hb); replace HB := am (bs_ HB.out hb); (try clear hb); (try clear hb2); (try clear hk); (try clear hi); (try clear ho0); obtain ⟨Ao34, co34, eo34⟩ := Kd.R_slice HO119.out; subst eo34))
 go_loopg [7, 31] k (fun kq v7 v31 w' => ∃ (x7_1 : List (Fact)) (x31_1 : Int), v31 = .int .i64 x31_1 ∧ Aside0 (facts_one.l0 kq x7_1 t117 (t117.length : Int) x31_1 ((rd_T34 l0 a1).kind) ((rd_T34 l0 a1).x) ((rd_T34 l0 a1).y) ((rd_T34 l0 a1).z) ((rd_T34 l0 a1).op) ((rd_T34 l0 a1).n) ((rd_T34 l0 a1).a) ((rd_T34 l0 a1).b) t102 t103 t104 = some r) ∧ Aside0 (kq ≤ k) ∧ Aside0 (Kd.N k26 26 w' w.heap.size (fun k_ => (w.heap.size ≤ k_) ∧ some k_ ≠ ((.slice Ao34 t117.length co34) : Value).ownBlock ∧ k_ ≠ gb105 ∧ k_ ≠ gb106) v7 x7_1) ∧ Aside0 (Kd.R (Kd.int .i64) 3 w' w.heap.size (fun k_ => (w.heap.size ≤ k_)) (.slice Ao34 t117.length co34) t117) ∧ Aside0 (w'.heap[gb105]? = some (.cells #[.int .i64 ((rd_T34 l0 a1).kind), .string ((rd_T34 l0 a1).x), .string ((rd_T34 l0 a1).y), .string ((rd_T34 l0 a1).z), .string ((rd_T34 l0 a1).op), .int .i64 ((rd_T34 l0 a1).n), .int .i64 ((rd_T34 l0 a1).a), .int .i64 ((rd_T34 l0 a1).b)] 34 (0, 0))) ∧ Aside0 (w'.heap[gb106]? = some (.cells #[.bool t102, .string t103, .int .i64 t104] 36 (0, 0))) ∧ Aside0 (Below w.heap.size w w'))
 case atStart => exact ⟨(y114), (0), rs_, H', ⟨Nat.le_refl _⟩, ⟨by (with_reducible repeat (first | apply Kd.N_alloc | apply Kd.N_drewN | apply Kd.N_drew)); exact Kd.N_mono HO116.out (fun _ hk => ⟨hk.1.1, ⟨hk.2, ⟨hk.1.2.1, hk.1.2.2⟩⟩⟩)⟩, ⟨by (with_reducible repeat (first | apply Ra | apply Rn | apply Rd)); exact Kd.R_mono HO119.out (fun _ hk => hk.1)⟩, ⟨pB BK105.out⟩, ⟨pB BK106.out⟩, ⟨pL HB.out⟩⟩
 case round =>
  clear H'
  try clear p1
  try clear q1
  try clear hx1
  try clear c2
  try clear p2
  try clear c3
  try clear p10
  try clear q10
  try clear hx10
  try clear c22
  try clear c24
  try clear c27
  try clear c28
  try clear hcz25_0
  try clear hcz25_1
  try clear hcz25_2
  try clear hfz25_0
  try clear hfz25_1
  try clear hfz25_2
  try clear hx101_0
  try clear hx101_1
  try clear hx101_2
  try clear hx101_3
  try clear hx101_4
  try clear hx101_5
  try clear hx101_6
  try clear hx101_7
  try clear p101
  try clear q101
  obtain ⟨x7_1, x31_1, rfl, HA, HK1, HO_7, HO_29, BK105, BK106, HB⟩ := hrel
  cases gk with
  | zero => exact absurd HA.out (by simp [facts_one.l0])
  | succ k1 =>
   have H := HA.out
   clear HA
   simp only [facts_one.l0] at H
   by_cases c35 : x31_1 < (t117.length : Int)
   ·rw [if_pos c35] at H
    have c35b0 : decide (x31_1 < (t117.length : Int)) = true := decide_eq_true c35
    clear c35
    by_cases c36 : 0 ≤ x31_1
    rotate_left
    ·rw [if_neg c36] at H
     exact absurd H (by simp)
    rw [if_pos c36] at H
    have c36b0 : decide (0 ≤ x31_1) = true := decide_eq_true c36
    clear c36
    by_cases c37 : x31_1 < (t117.length : Int)
    rotate_left
    ·rw [if_neg c37] at H
     exact absurd H (by simp)
    rw [if_pos c37] at H
    have c37b0 : decide (x31_1 < (t117.length : Int)) = true := decide_eq_true c37
    clear c37
    replace H := Option.bind_eq_some_iff.mp H
    obtain ⟨⟨t121, t122, t123⟩, A380, H⟩ := H
    replace H : ((facts_fact.f (⟨#[110, 101, 120, 116]⟩ : ByteArray) (([(⟨t102, t103, t104⟩ : Val), (⟨t121, t122, t123⟩ : Val)] : List (Val)))).bind fun bt127 => (if x7_1.length < 3518437208883 then (facts_one.l0 k1 (x7_1 ++ [(⟨bt127.1, bt127.2⟩ : Fact)]) t117 (t117.length : Int) (wrap64 (x31_1 + 1)) ((rd_T34 l0 a1).kind) ((rd_T34 l0 a1).x) ((rd_T34 l0 a1).y) ((rd_T34 l0 a1).z) ((rd_T34 l0 a1).op) ((rd_T34 l0 a1).n) ((rd_T34 l0 a1).a) ((rd_T34 l0 a1).b) t102 t103 t104) else (none))) = some r := H
    have A38 := am A380
    clear A380
    obtain ⟨y124, hy124⟩ : ∃ y_ : List (Val), y_ = (([(⟨t102, t103, t104⟩ : Val), (⟨t121, t122, t123⟩ : Val)] : List (Val))) := ⟨_, rfl⟩
    replace H : ((facts_fact.f (⟨#[110, 101, 120, 116]⟩ : ByteArray) y124).bind fun bt127 => (if x7_1.length < 3518437208883 then (facts_one.l0 k1 (x7_1 ++ [(⟨bt127.1, bt127.2⟩ : Fact)]) t117 (t117.length : Int) (wrap64 (x31_1 + 1)) ((rd_T34 l0 a1).kind) ((rd_T34 l0 a1).x) ((rd_T34 l0 a1).y) ((rd_T34 l0 a1).z) ((rd_T34 l0 a1).op) ((rd_T34 l0 a1).n) ((rd_T34 l0 a1).a) ((rd_T34 l0 a1).b) t102 t103 t104) else (none))) = some r := by first | (rw [hy124]; with_reducible exact H) | (have H2_ := (Option.bind_some _ _).symm.trans H; rw [hy124]; with_reducible exact H2_) | (have H2_ := (Option.bind_some _ _).symm.trans H; with_reducible exact H2_) | with_reducible exact H | (rw [hy124]; exact H) | exact H
    have Ny124 := am hy124
    clear hy124
    replace H := Option.bind_eq_some_iff.mp H
    obtain ⟨⟨t127, t128⟩, A390, H⟩ := H
    replace H : (if x7_1.length < 3518437208883 then (facts_one.l0 k1 (x7_1 ++ [(⟨t127, t128⟩ : Fact)]) t117 (t117.length : Int) (wrap64 (x31_1 + 1)) ((rd_T34 l0 a1).kind) ((rd_T34 l0 a1).x) ((rd_T34 l0 a1).y) ((rd_T34 l0 a1).z) ((rd_T34 l0 a1).op) ((rd_T34 l0 a1).n) ((rd_T34 l0 a1).a) ((rd_T34 l0 a1).b) t102 t103 t104) else (none)) = some r := H
    have A39 := am A390
    clear A390
    by_cases c40 : x7_1.length < 3518437208883
    rotate_left
    ·rw [if_neg c40] at H
     exact absurd H (by simp)
    rw [if_pos c40] at H
    have LMc40 := am c40
    clear c40
    obtain ⟨y131, hy131⟩ : ∃ y_ : List (Fact), y_ = (x7_1 ++ [(⟨t127, t128⟩ : Fact)]) := ⟨_, rfl⟩
    replace H : (facts_one.l0 k1 y131 t117 (t117.length : Int) (wrap64 (x31_1 + 1)) ((rd_T34 l0 a1).kind) ((rd_T34 l0 a1).x) ((rd_T34 l0 a1).y) ((rd_T34 l0 a1).z) ((rd_T34 l0 a1).op) ((rd_T34 l0 a1).n) ((rd_T34 l0 a1).a) ((rd_T34 l0 a1).b) t102 t103 t104) = some r := by first | (rw [hy131]; with_reducible exact H) | (have H2_ := (Option.bind_some _ _).symm.trans H; rw [hy131]; with_reducible exact H2_) | (have H2_ := (Option.bind_some _ _).symm.trans H; with_reducible exact H2_) | with_reducible exact H | (rw [hy131]; exact H) | exact H
    have Ny131 := am hy131
    clear hy131
    have H' := am H
    clear H
    have p120 : 0 ≤ (x31_1 : Int) := dt_
    have q120 : x31_1 < (t117.length : Int) := dt_
    obtain ⟨ad120, e120, hx120_0⟩ := Kd.at_int (Kd.R_reads' HO_29.out).2.2 x31_1 p120 q120
    cases e120
    replace p120 := eq_true p120
    replace q120 := eq_true q120
    try go_wp2
    replace HO_7 := am (Kd.N_drew HO_7.out)
    replace HO_29 := am (Kd.R_drew HO_29.out)
    replace BK105 := am (blk_drew BK105.out)
    replace BK106 := am (blk_drew BK106.out)
    replace HB := am (below_drew1 HB.out)
    refine start_ (n := 9) (S := fun w' => w'.cell? ⟨gb106, 0, none⟩ = some (.bool t102) ∧ w'.cell? ⟨gb106, 1, none⟩ = some (.string t103) ∧ w'.cell? ⟨gb106, 2, none⟩ = some (.int .i64 t104)) (ds := []) (bl 9 0) (by kernel_rfl) rfl rfl ⟨(blk_cell BK106.out 0).trans rfl, (blk_cell BK106.out 1).trans rfl, (blk_cell BK106.out 2).trans rfl⟩ (fun hHeld => ?_); refine with_tabW facts_one.tab6 facts_one.bits6 (fun HT_ HW_ => ?_)
    generalize wr.drew = w41 at HO_7 HO_29 BK105 BK106 HB hHeld ⊢
    refine pu_ (i := 0) (N := some 35) (bl 9 1) rfl rfl (any_of HT_.out (by kernel_rfl)) ?_
    refine pu_ (i := 2) (N := some 37) (bl 9 5) rfl rfl (any_of HT_.out (by kernel_rfl)) ?_
    refine take_ (i := 1) (N := some 36) (v := ?_) (a' := ?_) (bl 9 7) rfl rfl (take_ofW HT_.out HW_.out (by kernel_rfl)) (fun _ _ _ h => h) (Or.inl ⟨by rfl, ?_⟩) hHeld ?_ ?_
    rotate_left
    ·rintro w' ⟨s0, s1, s2⟩
     go_simp
     with_reducible rfl
    rotate_left
    ·simp only [Act.put, sA, sZ, sS, i64_w, i32_w]
     rfl
    refine one_ (i := 3) (N := some 38) (bl 9 15) rfl rfl (one_of HT_.out (by kernel_rfl)) (by decide) (fun K hK => ?_)
    refine goes_ Tryz.func27 (by kernel_rfl) rfl #[.int .i64 (rd t117 x31_1)] (by rfl) rfl rfl gl_ ?_
    with_reducible refine (value_Int.calls (rd t117 x31_1) t121 t122 t123 _ A38.out).mono ?_
    rintro e w42 ⟨rfl, hb⟩
    refine ⟨_, rfl, ?_⟩
    replace HO_7 := am (Kd.N_below (by (with_reducible repeat (first | apply Kd.N_alloc | apply Kd.N_drewN | apply Kd.N_drew)); exact HO_7.out) hb)
    replace HO_29 := am (Rb_ HO_29.out hb)
    replace BK105 := am (bb_ BK105.out hb)
    replace BK106 := am (bb_ BK106.out hb)
    replace HB := am (bs_ HB.out hb)
    (try clear hb)
    (try clear hb2)
    (try clear hk)
    (try clear hi)
    refine hK.out _ _ ⟨(blk_cell BK106.out 0).trans rfl, (blk_cell BK106.out 1).trans rfl, (blk_cell BK106.out 2).trans rfl⟩ (fun hHeld => ?_)
    clear hK K
    refine norm_ (a' := ?_) ?_ ?_
    rotate_left
    ·show Act.put _ (some 38) _ = _
     simp only [Act.put, sA, sZ, sS, i64_w, i32_w]
     rfl
    refine one_ (i := 4) (N := some 39) (bl 9 31) rfl rfl (one_of HT_.out (by kernel_rfl)) (by decide) (fun K hK => ?_)
    refine Kd.R_lit_step k36 _ 36 ?hg (N := 39) ?hd (xs := ([(⟨t102, t103, t104⟩ : Val), (⟨t121, t122, t123⟩ : Val)] : List (Val))) (inner := [.bool t102, .string t103, .int .i64 t104, .bool t121, .string t122, .int .i64 t123]) (ok := fun _ => True) (okp := fun _ => True) ?hr ?hp (fun _ hk => hk) trivial (Below.refl _ _) (Nat.le_refl _) (by simp) ?_; (case hd => rfl); (case hg => rfl); (case hr => first | (go_simp; done) | (go_simp; rfl)); (case hp => exact (Reps.c3 (show Kd.M k36 _ _ _ (⟨t102, t103, t104⟩ : Val) [.bool t102, .string t103, .int .i64 t104] from (k36_mkM _ _ _ (⟨t102, t103, t104⟩ : Val) )) (Reps.c3 (show Kd.M k36 _ _ _ (⟨t121, t122, t123⟩ : Val) [.bool t121, .string t122, .int .i64 t123] from (k36_mkM _ _ _ (⟨t121, t122, t123⟩ : Val) )) (Reps.none _ _))))
    intro v125 w43 ho44 hb hg_ hnew_
    clear hg_ hnew_
    (first | rw [← Ny124.out] at ho44 | (simp only [Int.reduceToNat] at ho44; rw [← Ny124.out] at ho44))
    replace HO_7 := am (Kd.N_elder' (by (with_reducible repeat (first | apply Kd.N_alloc | apply Kd.N_drewN | apply Kd.N_drew)); exact HO_7.out) (Kd.R_base ho44) hb)
    replace HO_29 := am (Rb_ HO_29.out hb)
    have HO126 := am (Kd.R_lower (Kd.R_newB (Kd.R_newM (M := fun k_ => (w.heap.size ≤ k_)) ho44 (below_size (pL HB.out)) (fun k_ h_ => h_)) (g := gb106) (o := .cells #[.bool t102, .string t103, .int .i64 t104] 36 (0, 0)) (pB BK106.out)) (below_size (pL HB.out)))
    replace BK105 := am (bb_ BK105.out hb)
    replace BK106 := am (bb_ BK106.out hb)
    replace HB := am (bs_ HB.out hb)
    clear hb ho44
    obtain ⟨Ao45, co45, eo45⟩ := Kd.R_slice HO126.out
    (first | subst eo45 | (injection eo45 with f1_ f2_ f3_; have f4_ := f1_.symm; have f5_ := f3_.symm; clear f1_ f2_ f3_; subst f4_; subst f5_))
    refine hK.out _ _ ⟨(blk_cell BK106.out 0).trans rfl, (blk_cell BK106.out 1).trans rfl, (blk_cell BK106.out 2).trans rfl⟩ (fun hHeld => ?_)
    clear hK K
    refine norm_ (a' := ?_) ?_ ?_
    rotate_left
    ·show Act.put _ (some 39) _ = _
     simp only [Act.put, sA, sZ, sS, i64_w, i32_w]
     rfl
    refine one_ (i := 5) (N := some 40) (bl 9 63) rfl rfl (one_of HT_.out (by kernel_rfl)) (by decide) (fun K hK => ?_)
    refine goes_ Tryz.func22 (by kernel_rfl) rfl #[.string (⟨#[110, 101, 120, 116]⟩ : ByteArray), .slice Ao45 y124.length co45] (by rfl) rfl rfl gl_ ?_
    with_reducible refine (facts_fact.calls (⟨#[110, 101, 120, 116]⟩ : ByteArray) (fun k_ => some k_ = (.slice Ao45 y124.length co45 : Value).ownBlock) _ _ y124 t127 t128 _ ?side1 A39.out).mono ?_
    (case side1 => exact Kd.R_V (Kd.R_tight rfl (Kd.R_types (Kd.R_apart' (Kd.R_apart' (HO126.out) (Kd.N_typed HO_7.out) (by decide)) (Kd.R_typed HO_29.out) (by decide)) BK105.out (by decide))))
    rintro e w46 ⟨v129, rfl, ho0, hb⟩
    refine ⟨_, rfl, ?_⟩
    have HO130 := am (Kd.V_lower (Kd.V_mono (ok' := fun k_ => (w.heap.size ≤ k_) ∧ some k_ ≠ (u7 : Value).ownBlock ∧ some k_ ≠ (.slice (some ad120) t117.length co34 : Value).ownBlock ∧ k_ ≠ gb105 ∧ k_ ≠ gb106) ho0 (fun k_ hk_ => ⟨Or.elim hk_ (fun hs_ => ((Kd.R_types (Kd.R_apart' (Kd.R_apart' (HO126.out) (Kd.N_typed HO_7.out) (by decide)) (Kd.R_typed HO_29.out) (by decide)) BK105.out (by decide)).1 k_ hs_.symm).1.1.1.1.1) (fun hn_ => (Nat.le_trans (below_size (pL HB.out)) hn_)), Or.elim hk_ (fun hs_ => ((Kd.R_types (Kd.R_apart' (Kd.R_apart' (HO126.out) (Kd.N_typed HO_7.out) (by decide)) (Kd.R_typed HO_29.out) (by decide)) BK105.out (by decide)).1 k_ hs_.symm).1.1.2) (fun hn_ => (Kd.fresh' (Kd.N_lt (by (with_reducible repeat (first | apply Kd.N_alloc | apply Kd.N_drewN | apply Kd.N_drew)); exact HO_7.out)) k_ hn_)), Or.elim hk_ (fun hs_ => ((Kd.R_types (Kd.R_apart' (Kd.R_apart' (HO126.out) (Kd.N_typed HO_7.out) (by decide)) (Kd.R_typed HO_29.out) (by decide)) BK105.out (by decide)).1 k_ hs_.symm).1.2) (fun hn_ => (Kd.fresh' (Kd.R_lt (pR HO_29.out)) k_ hn_)), Or.elim hk_ (fun hs_ => ((Kd.R_types (Kd.R_apart' (Kd.R_apart' (HO126.out) (Kd.N_typed HO_7.out) (by decide)) (Kd.R_typed HO_29.out) (by decide)) BK105.out (by decide)).1 k_ hs_.symm).2) (fun hn_ => (Kd.freshB (g := gb105) (pB BK105.out) k_ hn_)), Or.elim hk_ (fun hs_ => ((Kd.R_types (Kd.R_apart' (Kd.R_apart' (HO126.out) (Kd.N_typed HO_7.out) (by decide)) (Kd.R_typed HO_29.out) (by decide)) BK105.out (by decide)).1 k_ hs_.symm).1.1.1.2) (fun hn_ => (Kd.freshB (g := gb106) (pB BK106.out) k_ hn_))⟩)) (below_size (pL HB.out)))
    replace HO_7 := am (Kd.N_below (by (with_reducible repeat (first | apply Kd.N_alloc | apply Kd.N_drewN | apply Kd.N_drew)); exact HO_7.out) hb)
    replace HO_29 := am (Rb_ HO_29.out hb)
    replace HO126 := am (Rb_ HO126.out hb)
    replace BK105 := am (bb_ BK105.out hb)
    replace BK106 := am (bb_ BK106.out hb)
    replace HB := am (bs_ HB.out hb)
    (try clear hb)
    (try clear hb2)
    (try clear hk)
    (try clear hi)
    (try clear ho0)
    obtain ⟨Ao48, co48, eo48⟩ := Kd.V_slice HO130.out
    (first | subst eo48 | (injection eo48 with f1_ f2_ f3_; have f4_ := f1_.symm; have f5_ := f3_.symm; clear f1_ f2_ f3_; subst f4_; subst f5_))
    refine hK.out _ _ ⟨(blk_cell BK106.out 0).trans rfl, (blk_cell BK106.out 1).trans rfl, (blk_cell BK106.out 2).trans rfl⟩ (fun hHeld => ?_)
    clear hK K
    refine norm_ (a' := ?_) ?_ ?_
    rotate_left
    ·show Act.put _ (some 40) _ = _
     simp only [Act.put, sA, sZ, sS, i64_w, i32_w]
     rfl
    refine one_ (i := 6) (N := some 41) (bl 9 127) rfl rfl (one_of HT_.out (by kernel_rfl)) (by decide) (fun K hK => ?_)
    refine value_ (w1 := ?_) (v := ?_) (by rfl) rfl ?_ ?_
    rotate_left 2
    ·go_simp
     constructor
     ·rfl
     rfl
    refine hK.out _ _ ⟨(blk_cell (blk_alloc BK106.out _) 0).trans rfl, (blk_cell (blk_alloc BK106.out _) 1).trans rfl, (blk_cell (blk_alloc BK106.out _) 2).trans rfl⟩ (fun hHeld => ?_)
    clear hK K
    refine norm_ (a' := ?_) ?_ ?_
    rotate_left
    ·show Act.put _ (some 41) _ = _
     simp only [Act.put, sA, sZ, sS, i64_w, i32_w]
     rfl
    refine one_ (i := 7) (N := some 42) (bl 9 255) rfl rfl (one_of HT_.out (by kernel_rfl)) (by decide) (fun K hK => ?_)
    refine Kd.N_append_step k26 (w0 := w) w.heap.size (by rfl) (.tmp 35) (.tmp 41) 23 26 (.agg #[(.string ⟨#[]⟩), (.slice none 0 0)]) 40 rfl Tryz.underlying23 info26 rfl (by decide) (by omega) u7 x7_1 (⟨t127, t128⟩ : Fact) [.string t127, .slice Ao48 t128.length co48] (fun k_ => (w.heap.size ≤ k_) ∧ some k_ ≠ (.slice (some ad120) t117.length co34 : Value).ownBlock ∧ k_ ≠ gb105 ∧ k_ ≠ gb106) (fun k_ => ((fun k_ => (w.heap.size ≤ k_) ∧ some k_ ≠ (.slice (some ad120) t117.length co34 : Value).ownBlock ∧ k_ ≠ gb105 ∧ k_ ≠ gb106)) k_ ∧ some k_ ≠ (u7 : Value).ownBlock) rfl rfl ?aP (fun _ hk => hk) ?aF ?aO ?aB ?aS ?aL ?_
    (case aP => exact (k26_mkF _ _ (⟨t127, t128⟩ : Fact) (Kd.V_reads' (Kd.V_mono (ok' := (fun k_ => ((fun k_ => (w.heap.size ≤ k_) ∧ some k_ ≠ (.slice (some ad120) t117.length co34 : Value).ownBlock ∧ k_ ≠ gb105 ∧ k_ ≠ gb106)) k_ ∧ some k_ ≠ (u7 : Value).ownBlock)) (HO130.out) (fun k_ hk => ⟨⟨hk.1, ⟨hk.2.2.1, ⟨hk.2.2.2.1, hk.2.2.2.2⟩⟩⟩, hk.2.1⟩))).2.1 (Kd.V_F (Kd.V_mono (ok' := (fun k_ => ((fun k_ => (w.heap.size ≤ k_) ∧ some k_ ≠ (.slice (some ad120) t117.length co34 : Value).ownBlock ∧ k_ ≠ gb105 ∧ k_ ≠ gb106)) k_ ∧ some k_ ≠ (u7 : Value).ownBlock)) (HO130.out) (fun k_ hk => ⟨⟨hk.1, ⟨hk.2.2.1, ⟨hk.2.2.2.1, hk.2.2.2.2⟩⟩⟩, hk.2.1⟩)))))
    (case aB => exact (pL HB.out))
    (case aF => exact (fun k_ hk => ⟨(Nat.le_trans (below_size (pL HB.out)) hk), Kd.fresh' (Kd.R_lt (pR HO_29.out)) k_ hk, Kd.freshB (g := gb105) (pB BK105.out) k_ hk, Kd.freshB (g := gb106) (pB BK106.out) k_ hk⟩))
    (case aO => exact (by (with_reducible repeat (first | apply Kd.N_alloc | apply Kd.N_drewN | apply Kd.N_drew)); exact Kd.N_mono HO_7.out (fun _ hk => ⟨hk.1.1, ⟨hk.1.2.1, ⟨hk.1.2.2.1, hk.1.2.2.2⟩⟩⟩)))
    (case aS => exact (below_size (pL HB.out)))
    (case aL => have := LMc40.out; omega)
    intro v132 w47 ho hb hg hat
    rw [← Ny131.out] at ho
    replace HO_29 := am (Kd.R_over' (pR HO_29.out) (Kd.N_typed (by (with_reducible repeat (first | apply Kd.N_alloc | apply Kd.N_drewN | apply Kd.N_drew)); exact HO_7.out)) (by decide) hg)
    replace BK105 := am (blk_grown (pB BK105.out) hg (Kd.N_ne HO_7.out BK105.out (by decide)))
    replace BK106 := am (blk_grown (pB BK106.out) hg (Kd.N_ne HO_7.out BK106.out (by decide)))
    replace HO126 := am (Kd.R_over' (pR HO126.out) (Kd.N_typed (by (with_reducible repeat (first | apply Kd.N_alloc | apply Kd.N_drewN | apply Kd.N_drew)); exact HO_7.out)) (by decide) hg)
    replace HO130 := am (Kd.V_afterv (ok := (fun k_ => (w.heap.size ≤ k_) ∧ some k_ ≠ (.slice (some ad120) t117.length co34 : Value).ownBlock ∧ k_ ≠ gb105 ∧ k_ ≠ gb106)) (by (with_reducible repeat (first | apply Va | apply Vn | apply Vd)); exact Kd.V_mono HO130.out (fun _ hk => ⟨⟨hk.1, ⟨hk.2.2.1, ⟨hk.2.2.2.1, hk.2.2.2.2⟩⟩⟩, hk.2.1⟩)) hg hat)
    replace HB := am (hb)
    have HO133 := am (ho)
    clear HO_7
    clear ho hb hg hat
    refine hK.out _ _ ⟨(blk_cell BK106.out 0).trans rfl, (blk_cell BK106.out 1).trans rfl, (blk_cell BK106.out 2).trans rfl⟩ (fun hHeld => ?_)
    clear hK K
    refine norm_ (a' := ?_) ?_ ?_
    rotate_left
    ·show Act.put _ (some 42) _ = _
     simp only [Act.put, sA, sZ, sS, i64_w, i32_w]
     rfl
    refine pu_ (i := 8) (N := some 7) (bl 9 511) rfl rfl (any_of HT_.out (by kernel_rfl)) ?_
    refine done_ (done_of HT_.out (by kernel_rfl)) ?_
    try go_wp2
    go_roundg k1
    case measure => have := HK1.out; omega
    case rel => exact ⟨(y131), (wrap64 (x31_1 + 1)), rs_, H', ⟨by have := HK1.out; omega⟩, ⟨by (with_reducible repeat (first | apply Kd.N_alloc | apply Kd.N_drewN | apply Kd.N_drew)); exact HO133.out⟩, ⟨pR HO_29.out⟩, ⟨pB BK105.out⟩, ⟨pB BK106.out⟩, ⟨pL HB.out⟩⟩
   rw [if_neg c35] at H
   have c35b0 : decide (x31_1 < (t117.length : Int)) = false := decide_eq_false c35
   clear c35
   replace H := Option.bind_eq_some_iff.mp H
   obtain ⟨t134, A490, H⟩ := H
   replace H : (facts_one.l1 k1 x7_1 t134 t134 (t134.length : Int) 0 ((rd_T34 l0 a1).kind) ((rd_T34 l0 a1).x) ((rd_T34 l0 a1).y) ((rd_T34 l0 a1).z) ((rd_T34 l0 a1).op) ((rd_T34 l0 a1).n) ((rd_T34 l0 a1).a) ((rd_T34 l0 a1).b) t102 t103 t104) = some r := H
   have A49 := am A490
   clear A490
   have H' := am H
   clear H
   have hnb50 := NB105_106.out
   have hnc50 := NB106_105.out
   obtain ⟨hcz51_0, hcz51_1, hcz51_2, hcz51_3, hcz51_4, hcz51_5, hcz51_6, hcz51_7, hfz51_0, hfz51_1, hfz51_2, hfz51_3, hfz51_4, hfz51_5, hfz51_6, hfz51_7⟩ := bc8 BK105.out
   go_wp2_with (first | ((with_reducible refine gate_callee (f := 29) rfl ?_); refine goesL_ (some 45) rfl rfl Tryz.func29 (by kernel_rfl) rfl #[.agg #[.int .i64 ((rd_T34 l0 a1).kind), .string ((rd_T34 l0 a1).x), .string ((rd_T34 l0 a1).y), .string ((rd_T34 l0 a1).z), .string ((rd_T34 l0 a1).op), .int .i64 ((rd_T34 l0 a1).n), .int .i64 ((rd_T34 l0 a1).a), .int .i64 ((rd_T34 l0 a1).b)]] rfl gl_ ?_; (with_reducible refine (cfg_Uses.calls ((rd_T34 l0 a1).kind) ((rd_T34 l0 a1).x) ((rd_T34 l0 a1).y) ((rd_T34 l0 a1).z) ((rd_T34 l0 a1).op) ((rd_T34 l0 a1).n) ((rd_T34 l0 a1).a) ((rd_T34 l0 a1).b) t134 _ A49.out).mono ?_); rintro e w52 ⟨v135, rfl, ho0, hb⟩; refine ⟨_, rfl, ?_⟩; replace HO_7 := am (Kd.N_elder' (by (with_reducible repeat (first | apply Kd.N_alloc | apply Kd.N_drewN | apply Kd.N_drew)); exact HO_7.out) (Kd.R_base ho0) hb); replace HO_29 := am (Rb_ HO_29.out hb); have HO136 := am (Kd.R_lower (Kd.R_newM (M := fun k_ => (w.heap.size ≤ k_)) ho0 (below_size (pL HB.out)) (fun k_ h_ => h_)) (below_size (pL HB.out))); replace BK105 := am (bb_ BK105.out hb); replace BK106 := am (bb_ BK106.out hb); replace HB := am (bs_ HB.out hb); (try clear hb); (try clear hb2); (try clear hk); (try clear hi); (try clear ho0); obtain ⟨Ao53, co53, eo53⟩ := Kd.R_slice HO136.out; subst eo53))
   go_loopg [7, 48] k1 (fun kq v7 v48 w' => ∃ (x7_2 : List (Fact)) (x48_2 : Int), v48 = .int .i64 x48_2 ∧ Aside0 (facts_one.l1 kq x7_2 t134 t134 (t134.length : Int) x48_2 ((rd_T34 l0 a1).kind) ((rd_T34 l0 a1).x) ((rd_T34 l0 a1).y) ((rd_T34 l0 a1).z) ((rd_T34 l0 a1).op) ((rd_T34 l0 a1).n) ((rd_T34 l0 a1).a) ((rd_T34 l0 a1).b) t102 t103 t104 = some r) ∧ Aside0 (kq ≤ k1) ∧ Aside0 (Kd.N k26 26 w' w.heap.size (fun k_ => (w.heap.size ≤ k_) ∧ some k_ ≠ ((.slice Ao53 t134.length co53) : Value).ownBlock ∧ some k_ ≠ ((.slice Ao53 t134.length co53) : Value).ownBlock ∧ k_ ≠ gb105 ∧ k_ ≠ gb106) v7 x7_2) ∧ Aside0 (Kd.R Kd.string 9 w' w.heap.size (fun k_ => (w.heap.size ≤ k_)) (.slice Ao53 t134.length co53) t134) ∧ Aside0 (Kd.R Kd.string 9 w' w.heap.size (fun k_ => (w.heap.size ≤ k_)) (.slice Ao53 t134.length co53) t134) ∧ Aside0 (w'.heap[gb105]? = some (.cells #[.int .i64 ((rd_T34 l0 a1).kind), .string ((rd_T34 l0 a1).x), .string ((rd_T34 l0 a1).y), .string ((rd_T34 l0 a1).z), .string ((rd_T34 l0 a1).op), .int .i64 ((rd_T34 l0 a1).n), .int .i64 ((rd_T34 l0 a1).a), .int .i64 ((rd_T34 l0 a1).b)] 34 (0, 0))) ∧ Aside0 (w'.heap[gb106]? = some (.cells #[.bool t102, .string t103, .int .i64 t104] 36 (0, 0))) ∧ Aside0 (Below w.heap.size w w'))
   case atStart => exact ⟨(x7_1), (0), rs_, H', ⟨Nat.le_refl _⟩, ⟨by (with_reducible repeat (first | apply Kd.N_alloc | apply Kd.N_drewN | apply Kd.N_drew)); exact Kd.N_mono HO_7.out (fun _ hk => ⟨hk.1.1, ⟨hk.2, ⟨hk.2, ⟨hk.1.2.2.1, hk.1.2.2.2⟩⟩⟩⟩)⟩, ⟨by (with_reducible repeat (first | apply Ra | apply Rn | apply Rd)); exact Kd.R_mono HO136.out (fun _ hk => hk.1)⟩, ⟨by (with_reducible repeat (first | apply Ra | apply Rn | apply Rd)); exact Kd.R_mono HO136.out (fun _ hk => hk.1)⟩, ⟨pB BK105.out⟩, ⟨pB BK106.out⟩, ⟨pL HB.out⟩⟩
   case round =>
    clear H'
    try clear p1
    try clear q1
    try clear hx1
    try clear c2
    try clear p2
    try clear c3
    try clear c4
    try clear c5
    try clear p6
    try clear p10
    try clear q10
    try clear hx10
    try clear p12
    try clear q12
    try clear hx12
    try clear c22
    try clear c24
    try clear c27
    try clear c28
    try clear c29
    try clear c35
    try clear c35b0
    try clear c36
    try clear c36b0
    try clear c37
    try clear c37b0
    try clear c40
    try clear c50
    try clear hcz25_0
    try clear hcz25_1
    try clear hcz25_2
    try clear hcz51_0
    try clear hcz51_1
    try clear hcz51_2
    try clear hcz51_3
    try clear hcz51_4
    try clear hcz51_5
    try clear hcz51_6
    try clear hcz51_7
    try clear hfz25_0
    try clear hfz25_1
    try clear hfz25_2
    try clear hfz51_0
    try clear hfz51_1
    try clear hfz51_2
    try clear hfz51_3
    try clear hfz51_4
    try clear hfz51_5
    try clear hfz51_6
    try clear hfz51_7
    try clear hx101_0
    try clear hx101_1
    try clear hx101_2
    try clear hx101_3
    try clear hx101_4
    try clear hx101_5
    try clear hx101_6
    try clear hx101_7
    try clear hx120_0
    try clear p1
    try clear p10
    try clear p101
    try clear p120
    try clear p2
    try clear q1
    try clear q10
    try clear q101
    try clear q120
    obtain ⟨x7_2, x48_2, rfl, HA, HK2, HO_7, HO_10, HO_46, BK105, BK106, HB⟩ := hrel
    cases gk with
    | zero => exact absurd HA.out (by simp [facts_one.l1])
    | succ k2 =>
     have H := HA.out
     clear HA
     simp only [facts_one.l1] at H
     by_cases c54 : x48_2 < (t134.length : Int)
     ·rw [if_pos c54] at H
      have c54b0 : decide (x48_2 < (t134.length : Int)) = true := decide_eq_true c54
      clear c54
      by_cases c55 : 0 ≤ x48_2
      rotate_left
      ·rw [if_neg c55] at H
       exact absurd H (by simp)
      rw [if_pos c55] at H
      have c55b0 : decide (0 ≤ x48_2) = true := decide_eq_true c55
      clear c55
      by_cases c56 : x48_2 < (t134.length : Int)
      rotate_left
      ·rw [if_neg c56] at H
       exact absurd H (by simp)
      rw [if_pos c56] at H
      have c56b0 : decide (x48_2 < (t134.length : Int)) = true := decide_eq_true c56
      clear c56
      replace H := Option.bind_eq_some_iff.mp H
      obtain ⟨⟨t138, t139, t140⟩, A570, H⟩ := H
      replace H : ((facts_fact.f (⟨#[117, 115, 101]⟩ : ByteArray) (([(⟨t102, t103, t104⟩ : Val), (⟨t138, t139, t140⟩ : Val)] : List (Val)))).bind fun bt144 => (if x7_2.length < 3518437208883 then (facts_one.j2 k2 (x7_2 ++ [(⟨bt144.1, bt144.2⟩ : Fact)]) t134 (rdOf ByteArray.empty t134 x48_2) t134 (t134.length : Int) x48_2 (((rd_T34 l0 a1).kind) == 6) ((rd_T34 l0 a1).kind) ((rd_T34 l0 a1).x) ((rd_T34 l0 a1).y) ((rd_T34 l0 a1).z) ((rd_T34 l0 a1).op) ((rd_T34 l0 a1).n) ((rd_T34 l0 a1).a) ((rd_T34 l0 a1).b) t102 t103 t104) else (none))) = some r := H
      have A57 := am A570
      clear A570
      obtain ⟨y141, hy141⟩ : ∃ y_ : List (Val), y_ = (([(⟨t102, t103, t104⟩ : Val), (⟨t138, t139, t140⟩ : Val)] : List (Val))) := ⟨_, rfl⟩
      replace H : ((facts_fact.f (⟨#[117, 115, 101]⟩ : ByteArray) y141).bind fun bt144 => (if x7_2.length < 3518437208883 then (facts_one.j2 k2 (x7_2 ++ [(⟨bt144.1, bt144.2⟩ : Fact)]) t134 (rdOf ByteArray.empty t134 x48_2) t134 (t134.length : Int) x48_2 (((rd_T34 l0 a1).kind) == 6) ((rd_T34 l0 a1).kind) ((rd_T34 l0 a1).x) ((rd_T34 l0 a1).y) ((rd_T34 l0 a1).z) ((rd_T34 l0 a1).op) ((rd_T34 l0 a1).n) ((rd_T34 l0 a1).a) ((rd_T34 l0 a1).b) t102 t103 t104) else (none))) = some r := by first | (rw [hy141]; with_reducible exact H) | (have H2_ := (Option.bind_some _ _).symm.trans H; rw [hy141]; with_reducible exact H2_) | (have H2_ := (Option.bind_some _ _).symm.trans H; with_reducible exact H2_) | with_reducible exact H | (rw [hy141]; exact H) | exact H
      have Ny141 := am hy141
      clear hy141
      replace H := Option.bind_eq_some_iff.mp H
      obtain ⟨⟨t144, t145⟩, A580, H⟩ := H
      replace H : (if x7_2.length < 3518437208883 then (facts_one.j2 k2 (x7_2 ++ [(⟨t144, t145⟩ : Fact)]) t134 (rdOf ByteArray.empty t134 x48_2) t134 (t134.length : Int) x48_2 (((rd_T34 l0 a1).kind) == 6) ((rd_T34 l0 a1).kind) ((rd_T34 l0 a1).x) ((rd_T34 l0 a1).y) ((rd_T34 l0 a1).z) ((rd_T34 l0 a1).op) ((rd_T34 l0 a1).n) ((rd_T34 l0 a1).a) ((rd_T34 l0 a1).b) t102 t103 t104) else (none)) = some r := H
      have A58 := am A580
      clear A580
      by_cases c59 : x7_2.length < 3518437208883
      rotate_left
      ·rw [if_neg c59] at H
       exact absurd H (by simp)
      rw [if_pos c59] at H
      have LMc59 := am c59
      clear c59
      obtain ⟨y148, hy148⟩ : ∃ y_ : List (Fact), y_ = (x7_2 ++ [(⟨t144, t145⟩ : Fact)]) := ⟨_, rfl⟩
      replace H : (facts_one.j2 k2 y148 t134 (rdOf ByteArray.empty t134 x48_2) t134 (t134.length : Int) x48_2 (((rd_T34 l0 a1).kind) == 6) ((rd_T34 l0 a1).kind) ((rd_T34 l0 a1).x) ((rd_T34 l0 a1).y) ((rd_T34 l0 a1).z) ((rd_T34 l0 a1).op) ((rd_T34 l0 a1).n) ((rd_T34 l0 a1).a) ((rd_T34 l0 a1).b) t102 t103 t104) = some r := by first | (rw [hy148]; with_reducible exact H) | (have H2_ := (Option.bind_some _ _).symm.trans H; rw [hy148]; with_reducible exact H2_) | (have H2_ := (Option.bind_some _ _).symm.trans H; with_reducible exact H2_) | with_reducible exact H | (rw [hy148]; exact H) | exact H
      have Ny148 := am hy148
      clear hy148
      have HC60 := am H
      clear H
      have p137 : 0 ≤ (x48_2 : Int) := dt_
      have q137 : x48_2 < (t134.length : Int) := dt_
      obtain ⟨ad137, e137, hx137_0⟩ := Kd.at_string (Kd.R_reads' HO_46.out).2.2 x48_2 p137 q137
      cases e137
      replace p137 := eq_true p137
      replace q137 := eq_true q137
      try go_wp2
      replace HO_7 := am (Kd.N_drew HO_7.out)
      replace HO_10 := am (Kd.R_drew HO_10.out)
      replace HO_46 := am (Kd.R_drew HO_46.out)
      replace BK105 := am (blk_drew BK105.out)
      replace BK106 := am (blk_drew BK106.out)
      replace HB := am (below_drew1 HB.out)
      refine start_ (n := 9) (S := fun w' => w'.cell? ⟨gb106, 0, none⟩ = some (.bool t102) ∧ w'.cell? ⟨gb106, 1, none⟩ = some (.string t103) ∧ w'.cell? ⟨gb106, 2, none⟩ = some (.int .i64 t104)) (ds := []) (bl 9 0) (by kernel_rfl) rfl rfl ⟨(blk_cell BK106.out 0).trans rfl, (blk_cell BK106.out 1).trans rfl, (blk_cell BK106.out 2).trans rfl⟩ (fun hHeld => ?_); refine with_tabW facts_one.tab12 facts_one.bits12 (fun HT_ HW_ => ?_)
      generalize wr.drew = w61 at HO_7 HO_10 HO_46 BK105 BK106 HB hHeld ⊢
      refine pu_ (i := 0) (N := some 52) (bl 9 1) rfl rfl (any_of HT_.out (by kernel_rfl)) ?_
      refine pu_ (i := 2) (N := some 54) (bl 9 5) rfl rfl (any_of HT_.out (by kernel_rfl)) ?_
      refine take_ (i := 1) (N := some 53) (v := ?_) (a' := ?_) (bl 9 7) rfl rfl (take_ofW HT_.out HW_.out (by kernel_rfl)) (fun _ _ _ h => h) (Or.inl ⟨by rfl, ?_⟩) hHeld ?_ ?_
      rotate_left
      ·rintro w' ⟨s0, s1, s2⟩
       go_simp
       with_reducible rfl
      rotate_left
      ·simp only [Act.put, sA, sZ, sS, i64_w, i32_w]
       rfl
      refine one_ (i := 3) (N := some 55) (bl 9 15) rfl rfl (one_of HT_.out (by kernel_rfl)) (by decide) (fun K hK => ?_)
      refine goes_ Tryz.func30 (by kernel_rfl) rfl #[.string (rdOf ByteArray.empty t134 x48_2)] (by rfl) rfl rfl gl_ ?_
      with_reducible refine (value_Sym.calls (rdOf ByteArray.empty t134 x48_2) t138 t139 t140 _ A57.out).mono ?_
      rintro e w62 ⟨rfl, hb⟩
      refine ⟨_, rfl, ?_⟩
      replace HO_7 := am (Kd.N_below (by (with_reducible repeat (first | apply Kd.N_alloc | apply Kd.N_drewN | apply Kd.N_drew)); exact HO_7.out) hb)
      replace HO_10 := am (Rb_ HO_10.out hb)
      replace HO_46 := am (Rb_ HO_46.out hb)
      replace BK105 := am (bb_ BK105.out hb)
      replace BK106 := am (bb_ BK106.out hb)
      replace HB := am (bs_ HB.out hb)
      (try clear hb)
      (try clear hb2)
      (try clear hk)
      (try clear hi)
      refine hK.out _ _ ⟨(blk_cell BK106.out 0).trans rfl, (blk_cell BK106.out 1).trans rfl, (blk_cell BK106.out 2).trans rfl⟩ (fun hHeld => ?_)
      clear hK K
      refine norm_ (a' := ?_) ?_ ?_
      rotate_left
      ·show Act.put _ (some 55) _ = _
       simp only [Act.put, sA, sZ, sS, i64_w, i32_w]
       rfl
      refine one_ (i := 4) (N := some 56) (bl 9 31) rfl rfl (one_of HT_.out (by kernel_rfl)) (by decide) (fun K hK => ?_)
      refine Kd.R_lit_step k36 _ 36 ?hg (N := 56) ?hd (xs := ([(⟨t102, t103, t104⟩ : Val), (⟨t138, t139, t140⟩ : Val)] : List (Val))) (inner := [.bool t102, .string t103, .int .i64 t104, .bool t138, .string t139, .int .i64 t140]) (ok := fun _ => True) (okp := fun _ => True) ?hr ?hp (fun _ hk => hk) trivial (Below.refl _ _) (Nat.le_refl _) (by simp) ?_; (case hd => rfl); (case hg => rfl); (case hr => first | (go_simp; done) | (go_simp; rfl)); (case hp => exact (Reps.c3 (show Kd.M k36 _ _ _ (⟨t102, t103, t104⟩ : Val) [.bool t102, .string t103, .int .i64 t104] from (k36_mkM _ _ _ (⟨t102, t103, t104⟩ : Val) )) (Reps.c3 (show Kd.M k36 _ _ _ (⟨t138, t139, t140⟩ : Val) [.bool t138, .string t139, .int .i64 t140] from (k36_mkM _ _ _ (⟨t138, t139, t140⟩ : Val) )) (Reps.none _ _))))
      intro v142 w63 ho64 hb hg_ hnew_
      clear hg_ hnew_
      (first | rw [← Ny141.out] at ho64 | (simp only [Int.reduceToNat] at ho64; rw [← Ny141.out] at ho64))
      replace HO_7 := am (Kd.N_elder' (by (with_reducible repeat (first | apply Kd.N_alloc | apply Kd.N_drewN | apply Kd.N_drew)); exact HO_7.out) (Kd.R_base ho64) hb)
      replace HO_10 := am (Rb_ HO_10.out hb)
      replace HO_46 := am (Rb_ HO_46.out hb)
      have HO143 := am (Kd.R_lower (Kd.R_newB (Kd.R_newM (M := fun k_ => (w.heap.size ≤ k_)) ho64 (below_size (pL HB.out)) (fun k_ h_ => h_)) (g := gb106) (o := .cells #[.bool t102, .string t103, .int .i64 t104] 36 (0, 0)) (pB BK106.out)) (below_size (pL HB.out)))
      replace BK105 := am (bb_ BK105.out hb)
      replace BK106 := am (bb_ BK106.out hb)
      replace HB := am (bs_ HB.out hb)
      clear hb ho64
      obtain ⟨Ao65, co65, eo65⟩ := Kd.R_slice HO143.out
      (first | subst eo65 | (injection eo65 with f1_ f2_ f3_; have f4_ := f1_.symm; have f5_ := f3_.symm; clear f1_ f2_ f3_; subst f4_; subst f5_))
      refine hK.out _ _ ⟨(blk_cell BK106.out 0).trans rfl, (blk_cell BK106.out 1).trans rfl, (blk_cell BK106.out 2).trans rfl⟩ (fun hHeld => ?_)
      clear hK K
      refine norm_ (a' := ?_) ?_ ?_
      rotate_left
      ·show Act.put _ (some 56) _ = _
       simp only [Act.put, sA, sZ, sS, i64_w, i32_w]
       rfl
      refine one_ (i := 5) (N := some 57) (bl 9 63) rfl rfl (one_of HT_.out (by kernel_rfl)) (by decide) (fun K hK => ?_)
      refine goes_ Tryz.func22 (by kernel_rfl) rfl #[.string (⟨#[117, 115, 101]⟩ : ByteArray), .slice Ao65 y141.length co65] (by rfl) rfl rfl gl_ ?_
      with_reducible refine (facts_fact.calls (⟨#[117, 115, 101]⟩ : ByteArray) (fun k_ => some k_ = (.slice Ao65 y141.length co65 : Value).ownBlock) _ _ y141 t144 t145 _ ?side1 A58.out).mono ?_
      (case side1 => exact Kd.R_V (Kd.R_tight rfl (Kd.R_types (Kd.R_apart' (Kd.R_apart' (Kd.R_apart' (HO143.out) (Kd.N_typed HO_7.out) (by decide)) (Kd.R_typed HO_10.out) (by decide)) (Kd.R_typed HO_46.out) (by decide)) BK105.out (by decide))))
      rintro e w66 ⟨v146, rfl, ho0, hb⟩
      refine ⟨_, rfl, ?_⟩
      have HO147 := am (Kd.V_lower (Kd.V_mono (ok' := fun k_ => (w.heap.size ≤ k_) ∧ some k_ ≠ (u7 : Value).ownBlock ∧ some k_ ≠ (.slice (some ad137) t134.length co53 : Value).ownBlock ∧ some k_ ≠ (.slice (some ad137) t134.length co53 : Value).ownBlock ∧ k_ ≠ gb105 ∧ k_ ≠ gb106) ho0 (fun k_ hk_ => ⟨Or.elim hk_ (fun hs_ => ((Kd.R_types (Kd.R_apart' (Kd.R_apart' (Kd.R_apart' (HO143.out) (Kd.N_typed HO_7.out) (by decide)) (Kd.R_typed HO_10.out) (by decide)) (Kd.R_typed HO_46.out) (by decide)) BK105.out (by decide)).1 k_ hs_.symm).1.1.1.1.1.1) (fun hn_ => (Nat.le_trans (below_size (pL HB.out)) hn_)), Or.elim hk_ (fun hs_ => ((Kd.R_types (Kd.R_apart' (Kd.R_apart' (Kd.R_apart' (HO143.out) (Kd.N_typed HO_7.out) (by decide)) (Kd.R_typed HO_10.out) (by decide)) (Kd.R_typed HO_46.out) (by decide)) BK105.out (by decide)).1 k_ hs_.symm).1.1.1.2) (fun hn_ => (Kd.fresh' (Kd.N_lt (by (with_reducible repeat (first | apply Kd.N_alloc | apply Kd.N_drewN | apply Kd.N_drew)); exact HO_7.out)) k_ hn_)), Or.elim hk_ (fun hs_ => ((Kd.R_types (Kd.R_apart' (Kd.R_apart' (Kd.R_apart' (HO143.out) (Kd.N_typed HO_7.out) (by decide)) (Kd.R_typed HO_10.out) (by decide)) (Kd.R_typed HO_46.out) (by decide)) BK105.out (by decide)).1 k_ hs_.symm).1.1.2) (fun hn_ => (Kd.fresh' (Kd.R_lt (pR HO_10.out)) k_ hn_)), Or.elim hk_ (fun hs_ => ((Kd.R_types (Kd.R_apart' (Kd.R_apart' (Kd.R_apart' (HO143.out) (Kd.N_typed HO_7.out) (by decide)) (Kd.R_typed HO_10.out) (by decide)) (Kd.R_typed HO_46.out) (by decide)) BK105.out (by decide)).1 k_ hs_.symm).1.2) (fun hn_ => (Kd.fresh' (Kd.R_lt (pR HO_46.out)) k_ hn_)), Or.elim hk_ (fun hs_ => ((Kd.R_types (Kd.R_apart' (Kd.R_apart' (Kd.R_apart' (HO143.out) (Kd.N_typed HO_7.out) (by decide)) (Kd.R_typed HO_10.out) (by decide)) (Kd.R_typed HO_46.out) (by decide)) BK105.out (by decide)).1 k_ hs_.symm).2) (fun hn_ => (Kd.freshB (g := gb105) (pB BK105.out) k_ hn_)), Or.elim hk_ (fun hs_ => ((Kd.R_types (Kd.R_apart' (Kd.R_apart' (Kd.R_apart' (HO143.out) (Kd.N_typed HO_7.out) (by decide)) (Kd.R_typed HO_10.out) (by decide)) (Kd.R_typed HO_46.out) (by decide)) BK105.out (by decide)).1 k_ hs_.symm).1.1.1.1.2) (fun hn_ => (Kd.freshB (g := gb106) (pB BK106.out) k_ hn_))⟩)) (below_size (pL HB.out)))
      replace HO_7 := am (Kd.N_below (by (with_reducible repeat (first | apply Kd.N_alloc | apply Kd.N_drewN | apply Kd.N_drew)); exact HO_7.out) hb)
      replace HO_10 := am (Rb_ HO_10.out hb)
      replace HO_46 := am (Rb_ HO_46.out hb)
      replace HO143 := am (Rb_ HO143.out hb)
      replace BK105 := am (bb_ BK105.out hb)
      replace BK106 := am (bb_ BK106.out hb)
      replace HB := am (bs_ HB.out hb)
      (try clear hb)
      (try clear hb2)
      (try clear hk)
      (try clear hi)
      (try clear ho0)
      obtain ⟨Ao68, co68, eo68⟩ := Kd.V_slice HO147.out
      (first | subst eo68 | (injection eo68 with f1_ f2_ f3_; have f4_ := f1_.symm; have f5_ := f3_.symm; clear f1_ f2_ f3_; subst f4_; subst f5_))
      refine hK.out _ _ ⟨(blk_cell BK106.out 0).trans rfl, (blk_cell BK106.out 1).trans rfl, (blk_cell BK106.out 2).trans rfl⟩ (fun hHeld => ?_)
      clear hK K
      refine norm_ (a' := ?_) ?_ ?_
      rotate_left
      ·show Act.put _ (some 57) _ = _
       simp only [Act.put, sA, sZ, sS, i64_w, i32_w]
       rfl
      refine one_ (i := 6) (N := some 58) (bl 9 127) rfl rfl (one_of HT_.out (by kernel_rfl)) (by decide) (fun K hK => ?_)
      refine value_ (w1 := ?_) (v := ?_) (by rfl) rfl ?_ ?_
      rotate_left 2
      ·go_simp
       constructor
       ·rfl
       rfl
      refine hK.out _ _ ⟨(blk_cell (blk_alloc BK106.out _) 0).trans rfl, (blk_cell (blk_alloc BK106.out _) 1).trans rfl, (blk_cell (blk_alloc BK106.out _) 2).trans rfl⟩ (fun hHeld => ?_)
      clear hK K
      refine norm_ (a' := ?_) ?_ ?_
      rotate_left
      ·show Act.put _ (some 58) _ = _
       simp only [Act.put, sA, sZ, sS, i64_w, i32_w]
       rfl
      refine one_ (i := 7) (N := some 59) (bl 9 255) rfl rfl (one_of HT_.out (by kernel_rfl)) (by decide) (fun K hK => ?_)
      refine Kd.N_append_step k26 (w0 := w) w.heap.size (by rfl) (.tmp 52) (.tmp 58) 23 26 (.agg #[(.string ⟨#[]⟩), (.slice none 0 0)]) 40 rfl Tryz.underlying23 info26 rfl (by decide) (by omega) u7 x7_2 (⟨t144, t145⟩ : Fact) [.string t144, .slice Ao68 t145.length co68] (fun k_ => (w.heap.size ≤ k_) ∧ some k_ ≠ (.slice (some ad137) t134.length co53 : Value).ownBlock ∧ some k_ ≠ (.slice (some ad137) t134.length co53 : Value).ownBlock ∧ k_ ≠ gb105 ∧ k_ ≠ gb106) (fun k_ => ((fun k_ => (w.heap.size ≤ k_) ∧ some k_ ≠ (.slice (some ad137) t134.length co53 : Value).ownBlock ∧ some k_ ≠ (.slice (some ad137) t134.length co53 : Value).ownBlock ∧ k_ ≠ gb105 ∧ k_ ≠ gb106)) k_ ∧ some k_ ≠ (u7 : Value).ownBlock) rfl rfl ?aP (fun _ hk => hk) ?aF ?aO ?aB ?aS ?aL ?_
      (case aP => exact (k26_mkF _ _ (⟨t144, t145⟩ : Fact) (Kd.V_reads' (Kd.V_mono (ok' := (fun k_ => ((fun k_ => (w.heap.size ≤ k_) ∧ some k_ ≠ (.slice (some ad137) t134.length co53 : Value).ownBlock ∧ some k_ ≠ (.slice (some ad137) t134.length co53 : Value).ownBlock ∧ k_ ≠ gb105 ∧ k_ ≠ gb106)) k_ ∧ some k_ ≠ (u7 : Value).ownBlock)) (HO147.out) (fun k_ hk => ⟨⟨hk.1, ⟨hk.2.2.1, ⟨hk.2.2.2.1, ⟨hk.2.2.2.2.1, hk.2.2.2.2.2⟩⟩⟩⟩, hk.2.1⟩))).2.1 (Kd.V_F (Kd.V_mono (ok' := (fun k_ => ((fun k_ => (w.heap.size ≤ k_) ∧ some k_ ≠ (.slice (some ad137) t134.length co53 : Value).ownBlock ∧ some k_ ≠ (.slice (some ad137) t134.length co53 : Value).ownBlock ∧ k_ ≠ gb105 ∧ k_ ≠ gb106)) k_ ∧ some k_ ≠ (u7 : Value).ownBlock)) (HO147.out) (fun k_ hk => ⟨⟨hk.1, ⟨hk.2.2.1, ⟨hk.2.2.2.1, ⟨hk.2.2.2.2.1, hk.2.2.2.2.2⟩⟩⟩⟩, hk.2.1⟩)))))
      (case aB => exact (pL HB.out))
      (case aF => exact (fun k_ hk => ⟨(Nat.le_trans (below_size (pL HB.out)) hk), Kd.fresh' (Kd.R_lt (pR HO_10.out)) k_ hk, Kd.fresh' (Kd.R_lt (pR HO_46.out)) k_ hk, Kd.freshB (g := gb105) (pB BK105.out) k_ hk, Kd.freshB (g := gb106) (pB BK106.out) k_ hk⟩))
      (case aO => exact (by (with_reducible repeat (first | apply Kd.N_alloc | apply Kd.N_drewN | apply Kd.N_drew)); exact Kd.N_mono HO_7.out (fun _ hk => ⟨hk.1.1, ⟨hk.1.2.1, ⟨hk.1.2.2.1, ⟨hk.1.2.2.2.1, hk.1.2.2.2.2⟩⟩⟩⟩)))
      (case aS => exact (below_size (pL HB.out)))
      (case aL => have := LMc59.out; omega)
      intro v149 w67 ho hb hg hat
      rw [← Ny148.out] at ho
      replace HO_10 := am (Kd.R_over' (pR HO_10.out) (Kd.N_typed (by (with_reducible repeat (first | apply Kd.N_alloc | apply Kd.N_drewN | apply Kd.N_drew)); exact HO_7.out)) (by decide) hg)
      replace HO_46 := am (Kd.R_over' (pR HO_46.out) (Kd.N_typed (by (with_reducible repeat (first | apply Kd.N_alloc | apply Kd.N_drewN | apply Kd.N_drew)); exact HO_7.out)) (by decide) hg)
      replace BK105 := am (blk_grown (pB BK105.out) hg (Kd.N_ne HO_7.out BK105.out (by decide)))
      replace BK106 := am (blk_grown (pB BK106.out) hg (Kd.N_ne HO_7.out BK106.out (by decide)))
      replace HO143 := am (Kd.R_over' (pR HO143.out) (Kd.N_typed (by (with_reducible repeat (first | apply Kd.N_alloc | apply Kd.N_drewN | apply Kd.N_drew)); exact HO_7.out)) (by decide) hg)
      replace HO147 := am (Kd.V_afterv (ok := (fun k_ => (w.heap.size ≤ k_) ∧ some k_ ≠ (.slice (some ad137) t134.length co53 : Value).ownBlock ∧ some k_ ≠ (.slice (some ad137) t134.length co53 : Value).ownBlock ∧ k_ ≠ gb105 ∧ k_ ≠ gb106)) (by (with_reducible repeat (first | apply Va | apply Vn | apply Vd)); exact Kd.V_mono HO147.out (fun _ hk => ⟨⟨hk.1, ⟨hk.2.2.1, ⟨hk.2.2.2.1, ⟨hk.2.2.2.2.1, hk.2.2.2.2.2⟩⟩⟩⟩, hk.2.1⟩)) hg hat)
      replace HB := am (hb)
      have HO150 := am (ho)
      clear HO_7
      clear ho hb hg hat
      refine hK.out _ _ ⟨(blk_cell BK106.out 0).trans rfl, (blk_cell BK106.out 1).trans rfl, (blk_cell BK106.out 2).trans rfl⟩ (fun hHeld => ?_)
      clear hK K
      refine norm_ (a' := ?_) ?_ ?_
      rotate_left
      ·show Act.put _ (some 59) _ = _
       simp only [Act.put, sA, sZ, sS, i64_w, i32_w]
       rfl
      refine pu_ (i := 8) (N := some 7) (bl 9 511) rfl rfl (any_of HT_.out (by kernel_rfl)) ?_
      refine done_ (done_of HT_.out (by kernel_rfl)) ?_
      go_upto_region 13 with (fail)
      go_cut [62] (fun v62 wc => ∃ (kq : Nat) (x62_59 : Bool), v62 = .bool x62_59 ∧ Aside0 (facts_one.j2 kq y148 t134 (rdOf ByteArray.empty t134 x48_2) t134 (t134.length : Int) x48_2 x62_59 ((rd_T34 l0 a1).kind) ((rd_T34 l0 a1).x) ((rd_T34 l0 a1).y) ((rd_T34 l0 a1).z) ((rd_T34 l0 a1).op) ((rd_T34 l0 a1).n) ((rd_T34 l0 a1).a) ((rd_T34 l0 a1).b) t102 t103 t104 = some r) ∧ Aside0 (kq ≤ k2) ∧ Aside0 (Kd.N k26 26 wc w.heap.size (fun k_ => (w.heap.size ≤ k_) ∧ some k_ ≠ ((.slice (some ad137) t134.length co53) : Value).ownBlock ∧ some k_ ≠ ((.slice (some ad137) t134.length co53) : Value).ownBlock ∧ k_ ≠ gb105 ∧ k_ ≠ gb106) v149 y148) ∧ Aside0 (Kd.R Kd.string 9 wc w.heap.size (fun k_ => (w.heap.size ≤ k_)) (.slice (some ad137) t134.length co53) t134) ∧ Aside0 (Kd.R Kd.string 9 wc w.heap.size (fun k_ => (w.heap.size ≤ k_)) (.slice (some ad137) t134.length co53) t134) ∧ Aside0 (wc.heap[gb105]? = some (.cells #[.int .i64 ((rd_T34 l0 a1).kind), .string ((rd_T34 l0 a1).x), .string ((rd_T34 l0 a1).y), .string ((rd_T34 l0 a1).z), .string ((rd_T34 l0 a1).op), .int .i64 ((rd_T34 l0 a1).n), .int .i64 ((rd_T34 l0 a1).a), .int .i64 ((rd_T34 l0 a1).b)] 34 (0, 0))) ∧ Aside0 (wc.heap[gb106]? = some (.cells #[.bool t102, .string t103, .int .i64 t104] 36 (0, 0))) ∧ Aside0 (Below w.heap.size w wc))
      case first =>
       have H := HC60.out
       clear HC60
       have H' := am H
       clear H
       have hnb69 := NB105_106.out
       have hnc69 := NB106_105.out
       obtain ⟨hcz70_0, hcz70_1, hcz70_2, hcz70_3, hcz70_4, hcz70_5, hcz70_6, hcz70_7, hfz70_0, hfz70_1, hfz70_2, hfz70_3, hfz70_4, hfz70_5, hfz70_6, hfz70_7⟩ := bc8 BK105.out
       go_wp2
       go_meet
       case rel => exact ⟨_, ((((rd_T34 l0 a1).kind) == 6)), rs_, H', ⟨by have := HK1.out; have := HK2.out; first | omega | exact Nat.le_refl _⟩, ⟨by (with_reducible repeat (first | apply Kd.N_alloc | apply Kd.N_drewN | apply Kd.N_drew)); exact HO150.out⟩, ⟨pR HO_10.out⟩, ⟨pR HO_46.out⟩, ⟨pB BK105.out⟩, ⟨pB BK106.out⟩, ⟨pL HB.out⟩⟩
      case rest =>
       clear HC60
       try clear p1
       try clear q1
       try clear hx1
       try clear c2
       try clear p2
       try clear c3
       try clear c4
       try clear c5
       try clear c6
       try clear p6
       try clear p10
       try clear q10
       try clear hx10
       try clear p12
       try clear q12
       try clear hx12
       try clear p13
       try clear q13
       try clear hx13
       try clear c22
       try clear c24
       try clear c27
       try clear c28
       try clear c29
       try clear c30
       try clear c35
       try clear c35b0
       try clear c36
       try clear c36b0
       try clear c37
       try clear c37b0
       try clear c40
       try clear c50
       try clear c54
       try clear c54b0
       try clear c55
       try clear c55b0
       try clear c56
       try clear c56b0
       try clear c59
       try clear p64
       try clear c69
       try clear hcz25_0
       try clear hcz25_1
       try clear hcz25_2
       try clear hcz51_0
       try clear hcz51_1
       try clear hcz51_2
       try clear hcz51_3
       try clear hcz51_4
       try clear hcz51_5
       try clear hcz51_6
       try clear hcz51_7
       try clear hcz70_0
       try clear hcz70_1
       try clear hcz70_2
       try clear hcz70_3
       try clear hcz70_4
       try clear hcz70_5
       try clear hcz70_6
       try clear hcz70_7
       try clear hfz25_0
       try clear hfz25_1
       try clear hfz25_2
       try clear hfz51_0
       try clear hfz51_1
       try clear hfz51_2
       try clear hfz51_3
       try clear hfz51_4
       try clear hfz51_5
       try clear hfz51_6
       try clear hfz51_7
       try clear hfz70_0
       try clear hfz70_1
       try clear hfz70_2
       try clear hfz70_3
       try clear hfz70_4
       try clear hfz70_5
       try clear hfz70_6
       try clear hfz70_7
       try clear hx101_0
       try clear hx101_1
       try clear hx101_2
       try clear hx101_3
       try clear hx101_4
       try clear hx101_5
       try clear hx101_6
       try clear hx101_7
       try clear hx120_0
       try clear hx137_0
       try clear p1
       try clear p10
       try clear p101
       try clear p12
       try clear p120
       try clear p137
       try clear p2
       try clear p6
       try clear q1
       try clear q10
       try clear q101
       try clear q12
       try clear q120
       try clear q137
       obtain ⟨kq, x62_59, rfl, HA, HJ59, HO_7, HO_10, HO_46, BK105, BK106, HB⟩ := hcut
       cases kq with
       | zero => exact absurd HA.out (by simp [facts_one.j2])
       | succ kj59 =>
        have H := HA.out
        clear HA
        simp only [facts_one.j2] at H
        by_cases c71 : x62_59 = true
        rotate_left
        ·replace c71 := Bool.eq_false_iff.mpr c71
         subst c71
         have H1 : (facts_one.l1 kj59 y148 t134 t134 (t134.length : Int) (wrap64 (x48_2 + 1)) ((rd_T34 l0 a1).kind) ((rd_T34 l0 a1).x) ((rd_T34 l0 a1).y) ((rd_T34 l0 a1).z) ((rd_T34 l0 a1).op) ((rd_T34 l0 a1).n) ((rd_T34 l0 a1).a) ((rd_T34 l0 a1).b) t102 t103 t104) = some r := by rw [if_neg (show ¬ (false = true) by decide)] at H; exact H
         clear H
         have H := H1
         clear H1
         have H' := am H
         clear H
         go_wp2
         go_roundg kj59
         case measure => have := HK1.out; have := HK2.out; have := HJ59.out; omega
         case rel => exact ⟨(y148), (wrap64 (x48_2 + 1)), rs_, H', ⟨by have := HK1.out; have := HK2.out; have := HJ59.out; omega⟩, ⟨by (with_reducible repeat (first | apply Kd.N_alloc | apply Kd.N_drewN | apply Kd.N_drew)); exact HO_7.out⟩, ⟨pR HO_10.out⟩, ⟨pR HO_46.out⟩, ⟨pB BK105.out⟩, ⟨pB BK106.out⟩, ⟨pL HB.out⟩⟩
        subst c71
        have H1 : ((value_Sym.f (rdOf ByteArray.empty t134 x48_2)).bind fun bt151 => ((facts_fact.f (⟨#[115, 105, 110, 107]⟩ : ByteArray) (([(⟨t102, t103, t104⟩ : Val), (⟨bt151.1, bt151.2.1, bt151.2.2⟩ : Val)] : List (Val)))).bind fun bt157 => (if y148.length < 3518437208883 then (facts_one.l1 kj59 (y148 ++ [(⟨bt157.1, bt157.2⟩ : Fact)]) t134 t134 (t134.length : Int) (wrap64 (x48_2 + 1)) ((rd_T34 l0 a1).kind) ((rd_T34 l0 a1).x) ((rd_T34 l0 a1).y) ((rd_T34 l0 a1).z) ((rd_T34 l0 a1).op) ((rd_T34 l0 a1).n) ((rd_T34 l0 a1).a) ((rd_T34 l0 a1).b) t102 t103 t104) else (none)))) = some r := by rw [if_pos rfl] at H; exact H
        clear H
        have H := H1
        clear H1
        replace H := Option.bind_eq_some_iff.mp H
        obtain ⟨⟨t151, t152, t153⟩, A720, H⟩ := H
        replace H : ((facts_fact.f (⟨#[115, 105, 110, 107]⟩ : ByteArray) (([(⟨t102, t103, t104⟩ : Val), (⟨t151, t152, t153⟩ : Val)] : List (Val)))).bind fun bt157 => (if y148.length < 3518437208883 then (facts_one.l1 kj59 (y148 ++ [(⟨bt157.1, bt157.2⟩ : Fact)]) t134 t134 (t134.length : Int) (wrap64 (x48_2 + 1)) ((rd_T34 l0 a1).kind) ((rd_T34 l0 a1).x) ((rd_T34 l0 a1).y) ((rd_T34 l0 a1).z) ((rd_T34 l0 a1).op) ((rd_T34 l0 a1).n) ((rd_T34 l0 a1).a) ((rd_T34 l0 a1).b) t102 t103 t104) else (none))) = some r := H
        have A72 := am A720
        clear A720
        obtain ⟨y154, hy154⟩ : ∃ y_ : List (Val), y_ = (([(⟨t102, t103, t104⟩ : Val), (⟨t151, t152, t153⟩ : Val)] : List (Val))) := ⟨_, rfl⟩
        replace H : ((facts_fact.f (⟨#[115, 105, 110, 107]⟩ : ByteArray) y154).bind fun bt157 => (if y148.length < 3518437208883 then (facts_one.l1 kj59 (y148 ++ [(⟨bt157.1, bt157.2⟩ : Fact)]) t134 t134 (t134.length : Int) (wrap64 (x48_2 + 1)) ((rd_T34 l0 a1).kind) ((rd_T34 l0 a1).x) ((rd_T34 l0 a1).y) ((rd_T34 l0 a1).z) ((rd_T34 l0 a1).op) ((rd_T34 l0 a1).n) ((rd_T34 l0 a1).a) ((rd_T34 l0 a1).b) t102 t103 t104) else (none))) = some r := by first | (rw [hy154]; with_reducible exact H) | (have H2_ := (Option.bind_some _ _).symm.trans H; rw [hy154]; with_reducible exact H2_) | (have H2_ := (Option.bind_some _ _).symm.trans H; with_reducible exact H2_) | with_reducible exact H | (rw [hy154]; exact H) | exact H
        have Ny154 := am hy154
        clear hy154
        replace H := Option.bind_eq_some_iff.mp H
        obtain ⟨⟨t157, t158⟩, A730, H⟩ := H
        replace H : (if y148.length < 3518437208883 then (facts_one.l1 kj59 (y148 ++ [(⟨t157, t158⟩ : Fact)]) t134 t134 (t134.length : Int) (wrap64 (x48_2 + 1)) ((rd_T34 l0 a1).kind) ((rd_T34 l0 a1).x) ((rd_T34 l0 a1).y) ((rd_T34 l0 a1).z) ((rd_T34 l0 a1).op) ((rd_T34 l0 a1).n) ((rd_T34 l0 a1).a) ((rd_T34 l0 a1).b) t102 t103 t104) else (none)) = some r := H
        have A73 := am A730
        clear A730
        by_cases c74 : y148.length < 3518437208883
        rotate_left
        ·rw [if_neg c74] at H
         exact absurd H (by simp)
        rw [if_pos c74] at H
        have LMc74 := am c74
        clear c74
        obtain ⟨y161, hy161⟩ : ∃ y_ : List (Fact), y_ = (y148 ++ [(⟨t157, t158⟩ : Fact)]) := ⟨_, rfl⟩
        replace H : (facts_one.l1 kj59 y161 t134 t134 (t134.length : Int) (wrap64 (x48_2 + 1)) ((rd_T34 l0 a1).kind) ((rd_T34 l0 a1).x) ((rd_T34 l0 a1).y) ((rd_T34 l0 a1).z) ((rd_T34 l0 a1).op) ((rd_T34 l0 a1).n) ((rd_T34 l0 a1).a) ((rd_T34 l0 a1).b) t102 t103 t104) = some r := by first | (rw [hy161]; with_reducible exact H) | (have H2_ := (Option.bind_some _ _).symm.trans H; rw [hy161]; with_reducible exact H2_) | (have H2_ := (Option.bind_some _ _).symm.trans H; with_reducible exact H2_) | with_reducible exact H | (rw [hy161]; exact H) | exact H
        have Ny161 := am hy161
        clear hy161
        have H' := am H
        clear H
        try go_wp2
        replace HO_7 := am (Kd.N_drew HO_7.out)
        replace HO_10 := am (Kd.R_drew HO_10.out)
        replace HO_46 := am (Kd.R_drew HO_46.out)
        replace BK105 := am (blk_drew BK105.out)
        replace BK106 := am (blk_drew BK106.out)
        replace HB := am (below_drew1 HB.out)
        refine start_ (n := 9) (S := fun w' => w'.cell? ⟨gb106, 0, none⟩ = some (.bool t102) ∧ w'.cell? ⟨gb106, 1, none⟩ = some (.string t103) ∧ w'.cell? ⟨gb106, 2, none⟩ = some (.int .i64 t104)) (ds := []) (bl 9 0) (by kernel_rfl) rfl rfl ⟨(blk_cell BK106.out 0).trans rfl, (blk_cell BK106.out 1).trans rfl, (blk_cell BK106.out 2).trans rfl⟩ (fun hHeld => ?_); refine with_tabW facts_one.tab14 facts_one.bits14 (fun HT_ HW_ => ?_)
        generalize wc.drew = w75 at HO_7 HO_10 HO_46 BK105 BK106 HB hHeld ⊢
        refine pu_ (i := 0) (N := some 63) (bl 9 1) rfl rfl (any_of HT_.out (by kernel_rfl)) ?_
        refine pu_ (i := 2) (N := some 65) (bl 9 5) rfl rfl (any_of HT_.out (by kernel_rfl)) ?_
        refine take_ (i := 1) (N := some 64) (v := ?_) (a' := ?_) (bl 9 7) rfl rfl (take_ofW HT_.out HW_.out (by kernel_rfl)) (fun _ _ _ h => h) (Or.inl ⟨by rfl, ?_⟩) hHeld ?_ ?_
        rotate_left
        ·rintro w' ⟨s0, s1, s2⟩
         go_simp
         with_reducible rfl
        rotate_left
        ·simp only [Act.put, sA, sZ, sS, i64_w, i32_w]
         rfl
        refine one_ (i := 3) (N := some 66) (bl 9 15) rfl rfl (one_of HT_.out (by kernel_rfl)) (by decide) (fun K hK => ?_)
        refine goes_ Tryz.func30 (by kernel_rfl) rfl #[.string (rdOf ByteArray.empty t134 x48_2)] (by rfl) rfl rfl gl_ ?_
        with_reducible refine (value_Sym.calls (rdOf ByteArray.empty t134 x48_2) t151 t152 t153 _ A72.out).mono ?_
        rintro e w76 ⟨rfl, hb⟩
        refine ⟨_, rfl, ?_⟩
        replace HO_7 := am (Kd.N_below (by (with_reducible repeat (first | apply Kd.N_alloc | apply Kd.N_drewN | apply Kd.N_drew)); exact HO_7.out) hb)
        replace HO_10 := am (Rb_ HO_10.out hb)
        replace HO_46 := am (Rb_ HO_46.out hb)
        replace BK105 := am (bb_ BK105.out hb)
        replace BK106 := am (bb_ BK106.out hb)
        replace HB := am (bs_ HB.out hb)
        (try clear hb)
        (try clear hb2)
        (try clear hk)
        (try clear hi)
        refine hK.out _ _ ⟨(blk_cell BK106.out 0).trans rfl, (blk_cell BK106.out 1).trans rfl, (blk_cell BK106.out 2).trans rfl⟩ (fun hHeld => ?_)
        clear hK K
        refine norm_ (a' := ?_) ?_ ?_
        rotate_left
        ·show Act.put _ (some 66) _ = _
         simp only [Act.put, sA, sZ, sS, i64_w, i32_w]
         rfl
        refine one_ (i := 4) (N := some 67) (bl 9 31) rfl rfl (one_of HT_.out (by kernel_rfl)) (by decide) (fun K hK => ?_)
        refine Kd.R_lit_step k36 _ 36 ?hg (N := 67) ?hd (xs := ([(⟨t102, t103, t104⟩ : Val), (⟨t151, t152, t153⟩ : Val)] : List (Val))) (inner := [.bool t102, .string t103, .int .i64 t104, .bool t151, .string t152, .int .i64 t153]) (ok := fun _ => True) (okp := fun _ => True) ?hr ?hp (fun _ hk => hk) trivial (Below.refl _ _) (Nat.le_refl _) (by simp) ?_; (case hd => rfl); (case hg => rfl); (case hr => first | (go_simp; done) | (go_simp; rfl)); (case hp => exact (Reps.c3 (show Kd.M k36 _ _ _ (⟨t102, t103, t104⟩ : Val) [.bool t102, .string t103, .int .i64 t104] from (k36_mkM _ _ _ (⟨t102, t103, t104⟩ : Val) )) (Reps.c3 (show Kd.M k36 _ _ _ (⟨t151, t152, t153⟩ : Val) [.bool t151, .string t152, .int .i64 t153] from (k36_mkM _ _ _ (⟨t151, t152, t153⟩ : Val) )) (Reps.none _ _))))
        intro v155 w77 ho78 hb hg_ hnew_
        clear hg_ hnew_
        (first | rw [← Ny154.out] at ho78 | (simp only [Int.reduceToNat] at ho78; rw [← Ny154.out] at ho78))
        replace HO_7 := am (Kd.N_elder' (by (with_reducible repeat (first | apply Kd.N_alloc | apply Kd.N_drewN | apply Kd.N_drew)); exact HO_7.out) (Kd.R_base ho78) hb)
        replace HO_10 := am (Rb_ HO_10.out hb)
        replace HO_46 := am (Rb_ HO_46.out hb)
        have HO156 := am (Kd.R_lower (Kd.R_newB (Kd.R_newM (M := fun k_ => (w.heap.size ≤ k_)) ho78 (below_size (pL HB.out)) (fun k_ h_ => h_)) (g := gb106) (o := .cells #[.bool t102, .string t103, .int .i64 t104] 36 (0, 0)) (pB BK106.out)) (below_size (pL HB.out)))
        replace BK105 := am (bb_ BK105.out hb)
        replace BK106 := am (bb_ BK106.out hb)
        replace HB := am (bs_ HB.out hb)
        clear hb ho78
        obtain ⟨Ao79, co79, eo79⟩ := Kd.R_slice HO156.out
        (first | subst eo79 | (injection eo79 with f1_ f2_ f3_; have f4_ := f1_.symm; have f5_ := f3_.symm; clear f1_ f2_ f3_; subst f4_; subst f5_))
        refine hK.out _ _ ⟨(blk_cell BK106.out 0).trans rfl, (blk_cell BK106.out 1).trans rfl, (blk_cell BK106.out 2).trans rfl⟩ (fun hHeld => ?_)
        clear hK K
        refine norm_ (a' := ?_) ?_ ?_
        rotate_left
        ·show Act.put _ (some 67) _ = _
         simp only [Act.put, sA, sZ, sS, i64_w, i32_w]
         rfl
        refine one_ (i := 5) (N := some 68) (bl 9 63) rfl rfl (one_of HT_.out (by kernel_rfl)) (by decide) (fun K hK => ?_)
        refine goes_ Tryz.func22 (by kernel_rfl) rfl #[.string (⟨#[115, 105, 110, 107]⟩ : ByteArray), .slice Ao79 y154.length co79] (by rfl) rfl rfl gl_ ?_
        with_reducible refine (facts_fact.calls (⟨#[115, 105, 110, 107]⟩ : ByteArray) (fun k_ => some k_ = (.slice Ao79 y154.length co79 : Value).ownBlock) _ _ y154 t157 t158 _ ?side1 A73.out).mono ?_
        (case side1 => exact Kd.R_V (Kd.R_tight rfl (Kd.R_types (Kd.R_apart' (Kd.R_apart' (Kd.R_apart' (HO156.out) (Kd.N_typed HO_7.out) (by decide)) (Kd.R_typed HO_10.out) (by decide)) (Kd.R_typed HO_46.out) (by decide)) BK105.out (by decide))))
        rintro e w80 ⟨v159, rfl, ho0, hb⟩
        refine ⟨_, rfl, ?_⟩
        have HO160 := am (Kd.V_lower (Kd.V_mono (ok' := fun k_ => (w.heap.size ≤ k_) ∧ some k_ ≠ (v149 : Value).ownBlock ∧ some k_ ≠ (.slice (some ad137) t134.length co53 : Value).ownBlock ∧ some k_ ≠ (.slice (some ad137) t134.length co53 : Value).ownBlock ∧ k_ ≠ gb105 ∧ k_ ≠ gb106) ho0 (fun k_ hk_ => ⟨Or.elim hk_ (fun hs_ => ((Kd.R_types (Kd.R_apart' (Kd.R_apart' (Kd.R_apart' (HO156.out) (Kd.N_typed HO_7.out) (by decide)) (Kd.R_typed HO_10.out) (by decide)) (Kd.R_typed HO_46.out) (by decide)) BK105.out (by decide)).1 k_ hs_.symm).1.1.1.1.1.1) (fun hn_ => (Nat.le_trans (below_size (pL HB.out)) hn_)), Or.elim hk_ (fun hs_ => ((Kd.R_types (Kd.R_apart' (Kd.R_apart' (Kd.R_apart' (HO156.out) (Kd.N_typed HO_7.out) (by decide)) (Kd.R_typed HO_10.out) (by decide)) (Kd.R_typed HO_46.out) (by decide)) BK105.out (by decide)).1 k_ hs_.symm).1.1.1.2) (fun hn_ => (Kd.fresh' (Kd.N_lt (by (with_reducible repeat (first | apply Kd.N_alloc | apply Kd.N_drewN | apply Kd.N_drew)); exact HO_7.out)) k_ hn_)), Or.elim hk_ (fun hs_ => ((Kd.R_types (Kd.R_apart' (Kd.R_apart' (Kd.R_apart' (HO156.out) (Kd.N_typed HO_7.out) (by decide)) (Kd.R_typed HO_10.out) (by decide)) (Kd.R_typed HO_46.out) (by decide)) BK105.out (by decide)).1 k_ hs_.symm).1.1.2) (fun hn_ => (Kd.fresh' (Kd.R_lt (pR HO_10.out)) k_ hn_)), Or.elim hk_ (fun hs_ => ((Kd.R_types (Kd.R_apart' (Kd.R_apart' (Kd.R_apart' (HO156.out) (Kd.N_typed HO_7.out) (by decide)) (Kd.R_typed HO_10.out) (by decide)) (Kd.R_typed HO_46.out) (by decide)) BK105.out (by decide)).1 k_ hs_.symm).1.2) (fun hn_ => (Kd.fresh' (Kd.R_lt (pR HO_46.out)) k_ hn_)), Or.elim hk_ (fun hs_ => ((Kd.R_types (Kd.R_apart' (Kd.R_apart' (Kd.R_apart' (HO156.out) (Kd.N_typed HO_7.out) (by decide)) (Kd.R_typed HO_10.out) (by decide)) (Kd.R_typed HO_46.out) (by decide)) BK105.out (by decide)).1 k_ hs_.symm).2) (fun hn_ => (Kd.freshB (g := gb105) (pB BK105.out) k_ hn_)), Or.elim hk_ (fun hs_ => ((Kd.R_types (Kd.R_apart' (Kd.R_apart' (Kd.R_apart' (HO156.out) (Kd.N_typed HO_7.out) (by decide)) (Kd.R_typed HO_10.out) (by decide)) (Kd.R_typed HO_46.out) (by decide)) BK105.out (by decide)).1 k_ hs_.symm).1.1.1.1.2) (fun hn_ => (Kd.freshB (g := gb106) (pB BK106.out) k_ hn_))⟩)) (below_size (pL HB.out)))
        replace HO_7 := am (Kd.N_below (by (with_reducible repeat (first | apply Kd.N_alloc | apply Kd.N_drewN | apply Kd.N_drew)); exact HO_7.out) hb)
        replace HO_10 := am (Rb_ HO_10.out hb)
        replace HO_46 := am (Rb_ HO_46.out hb)
        replace HO156 := am (Rb_ HO156.out hb)
        replace BK105 := am (bb_ BK105.out hb)
        replace BK106 := am (bb_ BK106.out hb)
        replace HB := am (bs_ HB.out hb)
        (try clear hb)
        (try clear hb2)
        (try clear hk)
        (try clear hi)
        (try clear ho0)
        obtain ⟨Ao82, co82, eo82⟩ := Kd.V_slice HO160.out
        (first | subst eo82 | (injection eo82 with f1_ f2_ f3_; have f4_ := f1_.symm; have f5_ := f3_.symm; clear f1_ f2_ f3_; subst f4_; subst f5_))
        refine hK.out _ _ ⟨(blk_cell BK106.out 0).trans rfl, (blk_cell BK106.out 1).trans rfl, (blk_cell BK106.out 2).trans rfl⟩ (fun hHeld => ?_)
        clear hK K
        refine norm_ (a' := ?_) ?_ ?_
        rotate_left
        ·show Act.put _ (some 68) _ = _
         simp only [Act.put, sA, sZ, sS, i64_w, i32_w]
         rfl
        refine one_ (i := 6) (N := some 69) (bl 9 127) rfl rfl (one_of HT_.out (by kernel_rfl)) (by decide) (fun K hK => ?_)
        refine value_ (w1 := ?_) (v := ?_) (by rfl) rfl ?_ ?_
        rotate_left 2
        ·go_simp
         constructor
         ·rfl
         rfl
        refine hK.out _ _ ⟨(blk_cell (blk_alloc BK106.out _) 0).trans rfl, (blk_cell (blk_alloc BK106.out _) 1).trans rfl, (blk_cell (blk_alloc BK106.out _) 2).trans rfl⟩ (fun hHeld => ?_)
        clear hK K
        refine norm_ (a' := ?_) ?_ ?_
        rotate_left
        ·show Act.put _ (some 69) _ = _
         simp only [Act.put, sA, sZ, sS, i64_w, i32_w]
         rfl
        refine one_ (i := 7) (N := some 70) (bl 9 255) rfl rfl (one_of HT_.out (by kernel_rfl)) (by decide) (fun K hK => ?_)
        refine Kd.N_append_step k26 (w0 := w) w.heap.size (by rfl) (.tmp 63) (.tmp 69) 23 26 (.agg #[(.string ⟨#[]⟩), (.slice none 0 0)]) 40 rfl Tryz.underlying23 info26 rfl (by decide) (by omega) v149 y148 (⟨t157, t158⟩ : Fact) [.string t157, .slice Ao82 t158.length co82] (fun k_ => (w.heap.size ≤ k_) ∧ some k_ ≠ (.slice (some ad137) t134.length co53 : Value).ownBlock ∧ some k_ ≠ (.slice (some ad137) t134.length co53 : Value).ownBlock ∧ k_ ≠ gb105 ∧ k_ ≠ gb106) (fun k_ => ((fun k_ => (w.heap.size ≤ k_) ∧ some k_ ≠ (.slice (some ad137) t134.length co53 : Value).ownBlock ∧ some k_ ≠ (.slice (some ad137) t134.length co53 : Value).ownBlock ∧ k_ ≠ gb105 ∧ k_ ≠ gb106)) k_ ∧ some k_ ≠ (v149 : Value).ownBlock) rfl rfl ?aP (fun _ hk => hk) ?aF ?aO ?aB ?aS ?aL ?_
        (case aP => exact (k26_mkF _ _ (⟨t157, t158⟩ : Fact) (Kd.V_reads' (Kd.V_mono (ok' := (fun k_ => ((fun k_ => (w.heap.size ≤ k_) ∧ some k_ ≠ (.slice (some ad137) t134.length co53 : Value).ownBlock ∧ some k_ ≠ (.slice (some ad137) t134.length co53 : Value).ownBlock ∧ k_ ≠ gb105 ∧ k_ ≠ gb106)) k_ ∧ some k_ ≠ (v149 : Value).ownBlock)) (HO160.out) (fun k_ hk => ⟨⟨hk.1, ⟨hk.2.2.1, ⟨hk.2.2.2.1, ⟨hk.2.2.2.2.1, hk.2.2.2.2.2⟩⟩⟩⟩, hk.2.1⟩))).2.1 (Kd.V_F (Kd.V_mono (ok' := (fun k_ => ((fun k_ => (w.heap.size ≤ k_) ∧ some k_ ≠ (.slice (some ad137) t134.length co53 : Value).ownBlock ∧ some k_ ≠ (.slice (some ad137) t134.length co53 : Value).ownBlock ∧ k_ ≠ gb105 ∧ k_ ≠ gb106)) k_ ∧ some k_ ≠ (v149 : Value).ownBlock)) (HO160.out) (fun k_ hk => ⟨⟨hk.1, ⟨hk.2.2.1, ⟨hk.2.2.2.1, ⟨hk.2.2.2.2.1, hk.2.2.2.2.2⟩⟩⟩⟩, hk.2.1⟩)))))
        (case aB => exact (pL HB.out))
        (case aF => exact (fun k_ hk => ⟨(Nat.le_trans (below_size (pL HB.out)) hk), Kd.fresh' (Kd.R_lt (pR HO_10.out)) k_ hk, Kd.fresh' (Kd.R_lt (pR HO_46.out)) k_ hk, Kd.freshB (g := gb105) (pB BK105.out) k_ hk, Kd.freshB (g := gb106) (pB BK106.out) k_ hk⟩))
        (case aO => exact (by (with_reducible repeat (first | apply Kd.N_alloc | apply Kd.N_drewN | apply Kd.N_drew)); exact Kd.N_mono HO_7.out (fun _ hk => ⟨hk.1.1, ⟨hk.1.2.1, ⟨hk.1.2.2.1, ⟨hk.1.2.2.2.1, hk.1.2.2.2.2⟩⟩⟩⟩)))
        (case aS => exact (below_size (pL HB.out)))
        (case aL => have := LMc74.out; omega)
        intro v162 w81 ho hb hg hat
        rw [← Ny161.out] at ho
        replace HO_10 := am (Kd.R_over' (pR HO_10.out) (Kd.N_typed (by (with_reducible repeat (first | apply Kd.N_alloc | apply Kd.N_drewN | apply Kd.N_drew)); exact HO_7.out)) (by decide) hg)
        replace HO_46 := am (Kd.R_over' (pR HO_46.out) (Kd.N_typed (by (with_reducible repeat (first | apply Kd.N_alloc | apply Kd.N_drewN | apply Kd.N_drew)); exact HO_7.out)) (by decide) hg)
        replace BK105 := am (blk_grown (pB BK105.out) hg (Kd.N_ne HO_7.out BK105.out (by decide)))
        replace BK106 := am (blk_grown (pB BK106.out) hg (Kd.N_ne HO_7.out BK106.out (by decide)))
        replace HO156 := am (Kd.R_over' (pR HO156.out) (Kd.N_typed (by (with_reducible repeat (first | apply Kd.N_alloc | apply Kd.N_drewN | apply Kd.N_drew)); exact HO_7.out)) (by decide) hg)
        replace HO160 := am (Kd.V_afterv (ok := (fun k_ => (w.heap.size ≤ k_) ∧ some k_ ≠ (.slice (some ad137) t134.length co53 : Value).ownBlock ∧ some k_ ≠ (.slice (some ad137) t134.length co53 : Value).ownBlock ∧ k_ ≠ gb105 ∧ k_ ≠ gb106)) (by (with_reducible repeat (first | apply Va | apply Vn | apply Vd)); exact Kd.V_mono HO160.out (fun _ hk => ⟨⟨hk.1, ⟨hk.2.2.1, ⟨hk.2.2.2.1, ⟨hk.2.2.2.2.1, hk.2.2.2.2.2⟩⟩⟩⟩, hk.2.1⟩)) hg hat)
        replace HB := am (hb)
        have HO163 := am (ho)
        clear HO_7
        clear ho hb hg hat
        refine hK.out _ _ ⟨(blk_cell BK106.out 0).trans rfl, (blk_cell BK106.out 1).trans rfl, (blk_cell BK106.out 2).trans rfl⟩ (fun hHeld => ?_)
        clear hK K
        refine norm_ (a' := ?_) ?_ ?_
        rotate_left
        ·show Act.put _ (some 70) _ = _
         simp only [Act.put, sA, sZ, sS, i64_w, i32_w]
         rfl
        refine pu_ (i := 8) (N := some 7) (bl 9 511) rfl rfl (any_of HT_.out (by kernel_rfl)) ?_
        refine done_ (done_of HT_.out (by kernel_rfl)) ?_
        try go_wp2
        go_roundg kj59
        case measure => have := HK1.out; have := HK2.out; have := HJ59.out; omega
        case rel => exact ⟨(y161), (wrap64 (x48_2 + 1)), rs_, H', ⟨by have := HK1.out; have := HK2.out; have := HJ59.out; omega⟩, ⟨by (with_reducible repeat (first | apply Kd.N_alloc | apply Kd.N_drewN | apply Kd.N_drew)); exact HO163.out⟩, ⟨pR HO_10.out⟩, ⟨pR HO_46.out⟩, ⟨pB BK105.out⟩, ⟨pB BK106.out⟩, ⟨pL HB.out⟩⟩
     rw [if_neg c54] at H
     have c54b0 : decide (x48_2 < (t134.length : Int)) = false := decide_eq_false c54
     clear c54
     replace H := Option.bind_eq_some_iff.mp H
     obtain ⟨⟨t164, t165⟩, A830, H⟩ := H
     replace H : (if t165 = true then ((value_Sym.f t164).bind fun bt166 => ((facts_fact.f (⟨#[100, 101, 102]⟩ : ByteArray) (([(⟨t102, t103, t104⟩ : Val), (⟨bt166.1, bt166.2.1, bt166.2.2⟩ : Val)] : List (Val)))).bind fun bt172 => (if x7_2.length < 3518437208883 then (facts_one.j3 k2 (x7_2 ++ [(⟨bt172.1, bt172.2⟩ : Fact)]) t134 t164 ((rd_T34 l0 a1).kind) t102 t103 t104) else (none)))) else (some x7_2)) = some r := H
     have A83 := am A830
     clear A830
     by_cases c84 : t165 = true
     rotate_left
     ·replace c84 := Bool.eq_false_iff.mpr c84
      subst c84
      have H1 : (some x7_2) = some r := by rw [if_neg (show ¬ (false = true) by decide)] at H; exact H
      clear H
      have H := H1
      clear H1
      obtain rfl := Option.some.inj H
      have hnb133 := NB105_106.out
      have hnc133 := NB106_105.out
      obtain ⟨hcz134_0, hcz134_1, hcz134_2, hcz134_3, hcz134_4, hcz134_5, hcz134_6, hcz134_7, hfz134_0, hfz134_1, hfz134_2, hfz134_3, hfz134_4, hfz134_5, hfz134_6, hfz134_7⟩ := bc8 BK105.out
      go_wp2_with (first | ((with_reducible refine gate_callee (f := 31) rfl ?_); refine goesL_ (some 74) rfl rfl Tryz.func31 (by kernel_rfl) rfl #[.agg #[.int .i64 ((rd_T34 l0 a1).kind), .string ((rd_T34 l0 a1).x), .string ((rd_T34 l0 a1).y), .string ((rd_T34 l0 a1).z), .string ((rd_T34 l0 a1).op), .int .i64 ((rd_T34 l0 a1).n), .int .i64 ((rd_T34 l0 a1).a), .int .i64 ((rd_T34 l0 a1).b)]] rfl gl_ ?_; (with_reducible refine (cfg_Def.calls ((rd_T34 l0 a1).kind) ((rd_T34 l0 a1).x) ((rd_T34 l0 a1).y) ((rd_T34 l0 a1).z) ((rd_T34 l0 a1).op) ((rd_T34 l0 a1).n) ((rd_T34 l0 a1).a) ((rd_T34 l0 a1).b) t164 false _ A83.out).mono ?_); rintro e w135 ⟨rfl, hb⟩; refine ⟨_, rfl, ?_⟩; replace HO_7 := am (Kd.N_below (by (with_reducible repeat (first | apply Kd.N_alloc | apply Kd.N_drewN | apply Kd.N_drew)); exact HO_7.out) hb); replace HO_10 := am (Rb_ HO_10.out hb); replace HO_46 := am (Rb_ HO_46.out hb); replace BK105 := am (bb_ BK105.out hb); replace BK106 := am (bb_ BK106.out hb); replace HB := am (bs_ HB.out hb); (try clear hb); (try clear hb2); (try clear hk); (try clear hi)))
      go_ret
      exact ⟨_, er_, by (with_reducible repeat (first | apply Kd.N_alloc | apply Kd.N_drewN | apply Kd.N_drew)); exact Kd.N_mono HO_7.out (fun _ hk => hk.1), pL HB.out⟩
     subst c84
     have H1 : ((value_Sym.f t164).bind fun bt166 => ((facts_fact.f (⟨#[100, 101, 102]⟩ : ByteArray) (([(⟨t102, t103, t104⟩ : Val), (⟨bt166.1, bt166.2.1, bt166.2.2⟩ : Val)] : List (Val)))).bind fun bt172 => (if x7_2.length < 3518437208883 then (facts_one.j3 k2 (x7_2 ++ [(⟨bt172.1, bt172.2⟩ : Fact)]) t134 t164 ((rd_T34 l0 a1).kind) t102 t103 t104) else (none)))) = some r := by rw [if_pos rfl] at H; exact H
     clear H
     have H := H1
     clear H1
     replace H := Option.bind_eq_some_iff.mp H
     obtain ⟨⟨t166, t167, t168⟩, A850, H⟩ := H
     replace H : ((facts_fact.f (⟨#[100, 101, 102]⟩ : ByteArray) (([(⟨t102, t103, t104⟩ : Val), (⟨t166, t167, t168⟩ : Val)] : List (Val)))).bind fun bt172 => (if x7_2.length < 3518437208883 then (facts_one.j3 k2 (x7_2 ++ [(⟨bt172.1, bt172.2⟩ : Fact)]) t134 t164 ((rd_T34 l0 a1).kind) t102 t103 t104) else (none))) = some r := H
     have A85 := am A850
     clear A850
     obtain ⟨y169, hy169⟩ : ∃ y_ : List (Val), y_ = (([(⟨t102, t103, t104⟩ : Val), (⟨t166, t167, t168⟩ : Val)] : List (Val))) := ⟨_, rfl⟩
     replace H : ((facts_fact.f (⟨#[100, 101, 102]⟩ : ByteArray) y169).bind fun bt172 => (if x7_2.length < 3518437208883 then (facts_one.j3 k2 (x7_2 ++ [(⟨bt172.1, bt172.2⟩ : Fact)]) t134 t164 ((rd_T34 l0 a1).kind) t102 t103 t104) else (none))) = some r := by first | (rw [hy169]; with_reducible exact H) | (have H2_ := (Option.bind_some _ _).symm.trans H; rw [hy169]; with_reducible exact H2_) | (have H2_ := (Option.bind_some _ _).symm.trans H; with_reducible exact H2_) | with_reducible exact H | (rw [hy169]; exact H) | exact H
     have Ny169 := am hy169
     clear hy169
     replace H := Option.bind_eq_some_iff.mp H
     obtain ⟨⟨t172, t173⟩, A860, H⟩ := H
     replace H : (if x7_2.length < 3518437208883 then (facts_one.j3 k2 (x7_2 ++ [(⟨t172, t173⟩ : Fact)]) t134 t164 ((rd_T34 l0 a1).kind) t102 t103 t104) else (none)) = some r := H
     have A86 := am A860
     clear A860
     by_cases c87 : x7_2.length < 3518437208883
     rotate_left
     ·rw [if_neg c87] at H
      exact absurd H (by simp)
     rw [if_pos c87] at H
     have LMc87 := am c87
     clear c87
     obtain ⟨y176, hy176⟩ : ∃ y_ : List (Fact), y_ = (x7_2 ++ [(⟨t172, t173⟩ : Fact)]) := ⟨_, rfl⟩
     replace H : (facts_one.j3 k2 y176 t134 t164 ((rd_T34 l0 a1).kind) t102 t103 t104) = some r := by first | (rw [hy176]; with_reducible exact H) | (have H2_ := (Option.bind_some _ _).symm.trans H; rw [hy176]; with_reducible exact H2_) | (have H2_ := (Option.bind_some _ _).symm.trans H; with_reducible exact H2_) | with_reducible exact H | (rw [hy176]; exact H) | exact H
     have Ny176 := am hy176
     clear hy176
     have HC88 := am H
     clear H
     have hnb89 := NB105_106.out
     have hnc89 := NB106_105.out
     obtain ⟨hcz90_0, hcz90_1, hcz90_2, hcz90_3, hcz90_4, hcz90_5, hcz90_6, hcz90_7, hfz90_0, hfz90_1, hfz90_2, hfz90_3, hfz90_4, hfz90_5, hfz90_6, hfz90_7⟩ := bc8 BK105.out
     try go_wp2_with (first | ((with_reducible refine gate_callee (f := 31) rfl ?_); refine goesL_ (some 74) rfl rfl Tryz.func31 (by kernel_rfl) rfl #[.agg #[.int .i64 ((rd_T34 l0 a1).kind), .string ((rd_T34 l0 a1).x), .string ((rd_T34 l0 a1).y), .string ((rd_T34 l0 a1).z), .string ((rd_T34 l0 a1).op), .int .i64 ((rd_T34 l0 a1).n), .int .i64 ((rd_T34 l0 a1).a), .int .i64 ((rd_T34 l0 a1).b)]] rfl gl_ ?_; (with_reducible refine (cfg_Def.calls ((rd_T34 l0 a1).kind) ((rd_T34 l0 a1).x) ((rd_T34 l0 a1).y) ((rd_T34 l0 a1).z) ((rd_T34 l0 a1).op) ((rd_T34 l0 a1).n) ((rd_T34 l0 a1).a) ((rd_T34 l0 a1).b) t164 true _ A83.out).mono ?_); rintro e w91 ⟨rfl, hb⟩; refine ⟨_, rfl, ?_⟩; replace HO_7 := am (Kd.N_below (by (with_reducible repeat (first | apply Kd.N_alloc | apply Kd.N_drewN | apply Kd.N_drew)); exact HO_7.out) hb); replace HO_10 := am (Rb_ HO_10.out hb); replace HO_46 := am (Rb_ HO_46.out hb); replace BK105 := am (bb_ BK105.out hb); replace BK106 := am (bb_ BK106.out hb); replace HB := am (bs_ HB.out hb); (try clear hb); (try clear hb2); (try clear hk); (try clear hi)))
     replace HO_7 := am (Kd.N_drew HO_7.out)
     replace HO_10 := am (Kd.R_drew HO_10.out)
     replace HO_46 := am (Kd.R_drew HO_46.out)
     replace BK105 := am (blk_drew BK105.out)
     replace BK106 := am (blk_drew BK106.out)
     replace HB := am (below_drew1 HB.out)
     refine start_ (n := 9) (S := fun w' => w'.cell? ⟨gb106, 0, none⟩ = some (.bool t102) ∧ w'.cell? ⟨gb106, 1, none⟩ = some (.string t103) ∧ w'.cell? ⟨gb106, 2, none⟩ = some (.int .i64 t104)) (ds := []) (bl 9 0) (by kernel_rfl) rfl rfl ⟨(blk_cell BK106.out 0).trans rfl, (blk_cell BK106.out 1).trans rfl, (blk_cell BK106.out 2).trans rfl⟩ (fun hHeld => ?_); refine with_tabW facts_one.tab19 facts_one.bits19 (fun HT_ HW_ => ?_)
     generalize w91.drew = w92 at HO_7 HO_10 HO_46 BK105 BK106 HB hHeld ⊢
     refine pu_ (i := 0) (N := some 80) (bl 9 1) rfl rfl (any_of HT_.out (by kernel_rfl)) ?_
     refine pu_ (i := 2) (N := some 82) (bl 9 5) rfl rfl (any_of HT_.out (by kernel_rfl)) ?_
     refine take_ (i := 1) (N := some 81) (v := ?_) (a' := ?_) (bl 9 7) rfl rfl (take_ofW HT_.out HW_.out (by kernel_rfl)) (fun _ _ _ h => h) (Or.inl ⟨by rfl, ?_⟩) hHeld ?_ ?_
     rotate_left
     ·rintro w' ⟨s0, s1, s2⟩
      go_simp
      with_reducible rfl
     rotate_left
     ·simp only [Act.put, sA, sZ, sS, i64_w, i32_w]
      rfl
     refine one_ (i := 3) (N := some 83) (bl 9 15) rfl rfl (one_of HT_.out (by kernel_rfl)) (by decide) (fun K hK => ?_)
     refine goes_ Tryz.func30 (by kernel_rfl) rfl #[.string t164] (by rfl) rfl rfl gl_ ?_
     with_reducible refine (value_Sym.calls t164 t166 t167 t168 _ A85.out).mono ?_
     rintro e w93 ⟨rfl, hb⟩
     refine ⟨_, rfl, ?_⟩
     replace HO_7 := am (Kd.N_below (by (with_reducible repeat (first | apply Kd.N_alloc | apply Kd.N_drewN | apply Kd.N_drew)); exact HO_7.out) hb)
     replace HO_10 := am (Rb_ HO_10.out hb)
     replace HO_46 := am (Rb_ HO_46.out hb)
     replace BK105 := am (bb_ BK105.out hb)
     replace BK106 := am (bb_ BK106.out hb)
     replace HB := am (bs_ HB.out hb)
     (try clear hb)
     (try clear hb2)
     (try clear hk)
     (try clear hi)
     refine hK.out _ _ ⟨(blk_cell BK106.out 0).trans rfl, (blk_cell BK106.out 1).trans rfl, (blk_cell BK106.out 2).trans rfl⟩ (fun hHeld => ?_)
     clear hK K
     refine norm_ (a' := ?_) ?_ ?_
     rotate_left
     ·show Act.put _ (some 83) _ = _
      simp only [Act.put, sA, sZ, sS, i64_w, i32_w]
      rfl
     refine one_ (i := 4) (N := some 84) (bl 9 31) rfl rfl (one_of HT_.out (by kernel_rfl)) (by decide) (fun K hK => ?_)
     refine Kd.R_lit_step k36 _ 36 ?hg (N := 84) ?hd (xs := ([(⟨t102, t103, t104⟩ : Val), (⟨t166, t167, t168⟩ : Val)] : List (Val))) (inner := [.bool t102, .string t103, .int .i64 t104, .bool t166, .string t167, .int .i64 t168]) (ok := fun _ => True) (okp := fun _ => True) ?hr ?hp (fun _ hk => hk) trivial (Below.refl _ _) (Nat.le_refl _) (by simp) ?_; (case hd => rfl); (case hg => rfl); (case hr => first | (go_simp; done) | (go_simp; rfl)); (case hp => exact (Reps.c3 (show Kd.M k36 _ _ _ (⟨t102, t103, t104⟩ : Val) [.bool t102, .string t103, .int .i64 t104] from (k36_mkM _ _ _ (⟨t102, t103, t104⟩ : Val) )) (Reps.c3 (show Kd.M k36 _ _ _ (⟨t166, t167, t168⟩ : Val) [.bool t166, .string t167, .int .i64 t168] from (k36_mkM _ _ _ (⟨t166, t167, t168⟩ : Val) )) (Reps.none _ _))))
     intro v170 w94 ho95 hb hg_ hnew_
     clear hg_ hnew_
     (first | rw [← Ny169.out] at ho95 | (simp only [Int.reduceToNat] at ho95; rw [← Ny169.out] at ho95))
     replace HO_7 := am (Kd.N_elder' (by (with_reducible repeat (first | apply Kd.N_alloc | apply Kd.N_drewN | apply Kd.N_drew)); exact HO_7.out) (Kd.R_base ho95) hb)
     replace HO_10 := am (Rb_ HO_10.out hb)
     replace HO_46 := am (Rb_ HO_46.out hb)
     have HO171 := am (Kd.R_lower (Kd.R_newB (Kd.R_newM (M := fun k_ => (w.heap.size ≤ k_)) ho95 (below_size (pL HB.out)) (fun k_ h_ => h_)) (g := gb106) (o := .cells #[.bool t102, .string t103, .int .i64 t104] 36 (0, 0)) (pB BK106.out)) (below_size (pL HB.out)))
     replace BK105 := am (bb_ BK105.out hb)
     replace BK106 := am (bb_ BK106.out hb)
     replace HB := am (bs_ HB.out hb)
     clear hb ho95
     obtain ⟨Ao96, co96, eo96⟩ := Kd.R_slice HO171.out
     (first | subst eo96 | (injection eo96 with f1_ f2_ f3_; have f4_ := f1_.symm; have f5_ := f3_.symm; clear f1_ f2_ f3_; subst f4_; subst f5_))
     refine hK.out _ _ ⟨(blk_cell BK106.out 0).trans rfl, (blk_cell BK106.out 1).trans rfl, (blk_cell BK106.out 2).trans rfl⟩ (fun hHeld => ?_)
     clear hK K
     refine norm_ (a' := ?_) ?_ ?_
     rotate_left
     ·show Act.put _ (some 84) _ = _
      simp only [Act.put, sA, sZ, sS, i64_w, i32_w]
      rfl
     refine one_ (i := 5) (N := some 85) (bl 9 63) rfl rfl (one_of HT_.out (by kernel_rfl)) (by decide) (fun K hK => ?_)
     refine goes_ Tryz.func22 (by kernel_rfl) rfl #[.string (⟨#[100, 101, 102]⟩ : ByteArray), .slice Ao96 y169.length co96] (by rfl) rfl rfl gl_ ?_
     with_reducible refine (facts_fact.calls (⟨#[100, 101, 102]⟩ : ByteArray) (fun k_ => some k_ = (.slice Ao96 y169.length co96 : Value).ownBlock) _ _ y169 t172 t173 _ ?side1 A86.out).mono ?_
     (case side1 => exact Kd.R_V (Kd.R_tight rfl (Kd.R_types (Kd.R_apart' (Kd.R_apart' (Kd.R_apart' (HO171.out) (Kd.N_typed HO_7.out) (by decide)) (Kd.R_typed HO_10.out) (by decide)) (Kd.R_typed HO_46.out) (by decide)) BK105.out (by decide))))
     rintro e w97 ⟨v174, rfl, ho0, hb⟩
     refine ⟨_, rfl, ?_⟩
     have HO175 := am (Kd.V_lower (Kd.V_mono (ok' := fun k_ => (w.heap.size ≤ k_) ∧ some k_ ≠ (u7 : Value).ownBlock ∧ some k_ ≠ (.slice Ao53 t134.length co53 : Value).ownBlock ∧ some k_ ≠ (.slice Ao53 t134.length co53 : Value).ownBlock ∧ k_ ≠ gb105 ∧ k_ ≠ gb106) ho0 (fun k_ hk_ => ⟨Or.elim hk_ (fun hs_ => ((Kd.R_types (Kd.R_apart' (Kd.R_apart' (Kd.R_apart' (HO171.out) (Kd.N_typed HO_7.out) (by decide)) (Kd.R_typed HO_10.out) (by decide)) (Kd.R_typed HO_46.out) (by decide)) BK105.out (by decide)).1 k_ hs_.symm).1.1.1.1.1.1) (fun hn_ => (Nat.le_trans (below_size (pL HB.out)) hn_)), Or.elim hk_ (fun hs_ => ((Kd.R_types (Kd.R_apart' (Kd.R_apart' (Kd.R_apart' (HO171.out) (Kd.N_typed HO_7.out) (by decide)) (Kd.R_typed HO_10.out) (by decide)) (Kd.R_typed HO_46.out) (by decide)) BK105.out (by decide)).1 k_ hs_.symm).1.1.1.2) (fun hn_ => (Kd.fresh' (Kd.N_lt (by (with_reducible repeat (first | apply Kd.N_alloc | apply Kd.N_drewN | apply Kd.N_drew)); exact HO_7.out)) k_ hn_)), Or.elim hk_ (fun hs_ => ((Kd.R_types (Kd.R_apart' (Kd.R_apart' (Kd.R_apart' (HO171.out) (Kd.N_typed HO_7.out) (by decide)) (Kd.R_typed HO_10.out) (by decide)) (Kd.R_typed HO_46.out) (by decide)) BK105.out (by decide)).1 k_ hs_.symm).1.1.2) (fun hn_ => (Kd.fresh' (Kd.R_lt (pR HO_10.out)) k_ hn_)), Or.elim hk_ (fun hs_ => ((Kd.R_types (Kd.R_apart' (Kd.R_apart' (Kd.R_apart' (HO171.out) (Kd.N_typed HO_7.out) (by decide)) (Kd.R_typed HO_10.out) (by decide)) (Kd.R_typed HO_46.out) (by decide)) BK105.out (by decide)).1 k_ hs_.symm).1.2) (fun hn_ => (Kd.fresh' (Kd.R_lt (pR HO_46.out)) k_ hn_)), Or.elim hk_ (fun hs_ => ((Kd.R_types (Kd.R_apart' (Kd.R_apart' (Kd.R_apart' (HO171.out) (Kd.N_typed HO_7.out) (by decide)) (Kd.R_typed HO_10.out) (by decide)) (Kd.R_typed HO_46.out) (by decide)) BK105.out (by decide)).1 k_ hs_.symm).2) (fun hn_ => (Kd.freshB (g := gb105) (pB BK105.out) k_ hn_)), Or.elim hk_ (fun hs_ => ((Kd.R_types (Kd.R_apart' (Kd.R_apart' (Kd.R_apart' (HO171.out) (Kd.N_typed HO_7.out) (by decide)) (Kd.R_typed HO_10.out) (by decide)) (Kd.R_typed HO_46.out) (by decide)) BK105.out (by decide)).1 k_ hs_.symm).1.1.1.1.2) (fun hn_ => (Kd.freshB (g := gb106) (pB BK106.out) k_ hn_))⟩)) (below_size (pL HB.out)))
     replace HO_7 := am (Kd.N_below (by (with_reducible repeat (first | apply Kd.N_alloc | apply Kd.N_drewN | apply Kd.N_drew)); exact HO_7.out) hb)
     replace HO_10 := am (Rb_ HO_10.out hb)
     replace HO_46 := am (Rb_ HO_46.out hb)
     replace HO171 := am (Rb_ HO171.out hb)
     replace BK105 := am (bb_ BK105.out hb)
     replace BK106 := am (bb_ BK106.out hb)
     replace HB := am (bs_ HB.out hb)
     (try clear hb)
     (try clear hb2)
     (try clear hk)
     (try clear hi)
     (try clear ho0)
     obtain ⟨Ao99, co99, eo99⟩ := Kd.V_slice HO175.out
     (first | subst eo99 | (injection eo99 with f1_ f2_ f3_; have f4_ := f1_.symm; have f5_ := f3_.symm; clear f1_ f2_ f3_; subst f4_; subst f5_))
     refine hK.out _ _ ⟨(blk_cell BK106.out 0).trans rfl, (blk_cell BK106.out 1).trans rfl, (blk_cell BK106.out 2).trans rfl⟩ (fun hHeld => ?_)
     clear hK K
     refine norm_ (a' := ?_) ?_ ?_
     rotate_left
     ·show Act.put _ (some 85) _ = _
      simp only [Act.put, sA, sZ, sS, i64_w, i32_w]
      rfl
     refine one_ (i := 6) (N := some 86) (bl 9 127) rfl rfl (one_of HT_.out (by kernel_rfl)) (by decide) (fun K hK => ?_)
     refine value_ (w1 := ?_) (v := ?_) (by rfl) rfl ?_ ?_
     rotate_left 2
     ·go_simp
      constructor
      ·rfl
      rfl
     refine hK.out _ _ ⟨(blk_cell (blk_alloc BK106.out _) 0).trans rfl, (blk_cell (blk_alloc BK106.out _) 1).trans rfl, (blk_cell (blk_alloc BK106.out _) 2).trans rfl⟩ (fun hHeld => ?_)
     clear hK K
     refine norm_ (a' := ?_) ?_ ?_
     rotate_left
     ·show Act.put _ (some 86) _ = _
      simp only [Act.put, sA, sZ, sS, i64_w, i32_w]
      rfl
     refine one_ (i := 7) (N := some 87) (bl 9 255) rfl rfl (one_of HT_.out (by kernel_rfl)) (by decide) (fun K hK => ?_)
     refine Kd.N_append_step k26 (w0 := w) w.heap.size (by rfl) (.tmp 80) (.tmp 86) 23 26 (.agg #[(.string ⟨#[]⟩), (.slice none 0 0)]) 40 rfl Tryz.underlying23 info26 rfl (by decide) (by omega) u7 x7_2 (⟨t172, t173⟩ : Fact) [.string t172, .slice Ao99 t173.length co99] (fun k_ => (w.heap.size ≤ k_) ∧ some k_ ≠ (.slice Ao53 t134.length co53 : Value).ownBlock ∧ some k_ ≠ (.slice Ao53 t134.length co53 : Value).ownBlock ∧ k_ ≠ gb105 ∧ k_ ≠ gb106) (fun k_ => ((fun k_ => (w.heap.size ≤ k_) ∧ some k_ ≠ (.slice Ao53 t134.length co53 : Value).ownBlock ∧ some k_ ≠ (.slice Ao53 t134.length co53 : Value).ownBlock ∧ k_ ≠ gb105 ∧ k_ ≠ gb106)) k_ ∧ some k_ ≠ (u7 : Value).ownBlock) rfl rfl ?aP (fun _ hk => hk) ?aF ?aO ?aB ?aS ?aL ?_
     (case aP => exact (k26_mkF _ _ (⟨t172, t173⟩ : Fact) (Kd.V_reads' (Kd.V_mono (ok' := (fun k_ => ((fun k_ => (w.heap.size ≤ k_) ∧ some k_ ≠ (.slice Ao53 t134.length co53 : Value).ownBlock ∧ some k_ ≠ (.slice Ao53 t134.length co53 : Value).ownBlock ∧ k_ ≠ gb105 ∧ k_ ≠ gb106)) k_ ∧ some k_ ≠ (u7 : Value).ownBlock)) (HO175.out) (fun k_ hk => ⟨⟨hk.1, ⟨hk.2.2.1, ⟨hk.2.2.2.1, ⟨hk.2.2.2.2.1, hk.2.2.2.2.2⟩⟩⟩⟩, hk.2.1⟩))).2.1 (Kd.V_F (Kd.V_mono (ok' := (fun k_ => ((fun k_ => (w.heap.size ≤ k_) ∧ some k_ ≠ (.slice Ao53 t134.length co53 : Value).ownBlock ∧ some k_ ≠ (.slice Ao53 t134.length co53 : Value).ownBlock ∧ k_ ≠ gb105 ∧ k_ ≠ gb106)) k_ ∧ some k_ ≠ (u7 : Value).ownBlock)) (HO175.out) (fun k_ hk => ⟨⟨hk.1, ⟨hk.2.2.1, ⟨hk.2.2.2.1, ⟨hk.2.2.2.2.1, hk.2.2.2.2.2⟩⟩⟩⟩, hk.2.1⟩)))))
     (case aB => exact (pL HB.out))
     (case aF => exact (fun k_ hk => ⟨(Nat.le_trans (below_size (pL HB.out)) hk), Kd.fresh' (Kd.R_lt (pR HO_10.out)) k_ hk, Kd.fresh' (Kd.R_lt (pR HO_46.out)) k_ hk, Kd.freshB (g := gb105) (pB BK105.out) k_ hk, Kd.freshB (g := gb106) (pB BK106.out) k_ hk⟩))
     (case aO => exact (by (with_reducible repeat (first | apply Kd.N_alloc | apply Kd.N_drewN | apply Kd.N_drew)); exact Kd.N_mono HO_7.out (fun _ hk => ⟨hk.1.1, ⟨hk.1.2.1, ⟨hk.1.2.2.1, ⟨hk.1.2.2.2.1, hk.1.2.2.2.2⟩⟩⟩⟩)))
     (case aS => exact (below_size (pL HB.out)))
     (case aL => have := LMc87.out; omega)
     intro v177 w98 ho hb hg hat
     rw [← Ny176.out] at ho
     replace HO_10 := am (Kd.R_over' (pR HO_10.out) (Kd.N_typed (by (with_reducible repeat (first | apply Kd.N_alloc | apply Kd.N_drewN | apply Kd.N_drew)); exact HO_7.out)) (by decide) hg)
     replace HO_46 := am (Kd.R_over' (pR HO_46.out) (Kd.N_typed (by (with_reducible repeat (first | apply Kd.N_alloc | apply Kd.N_drewN | apply Kd.N_drew)); exact HO_7.out)) (by decide) hg)
     replace BK105 := am (blk_grown (pB BK105.out) hg (Kd.N_ne HO_7.out BK105.out (by decide)))
     replace BK106 := am (blk_grown (pB BK106.out) hg (Kd.N_ne HO_7.out BK106.out (by decide)))
     replace HO171 := am (Kd.R_over' (pR HO171.out) (Kd.N_typed (by (with_reducible repeat (first | apply Kd.N_alloc | apply Kd.N_drewN | apply Kd.N_drew)); exact HO_7.out)) (by decide) hg)
     replace HO175 := am (Kd.V_afterv (ok := (fun k_ => (w.heap.size ≤ k_) ∧ some k_ ≠ (.slice Ao53 t134.length co53 : Value).ownBlock ∧ some k_ ≠ (.slice Ao53 t134.length co53 : Value).ownBlock ∧ k_ ≠ gb105 ∧ k_ ≠ gb106)) (by (with_reducible repeat (first | apply Va | apply Vn | apply Vd)); exact Kd.V_mono HO175.out (fun _ hk => ⟨⟨hk.1, ⟨hk.2.2.1, ⟨hk.2.2.2.1, ⟨hk.2.2.2.2.1, hk.2.2.2.2.2⟩⟩⟩⟩, hk.2.1⟩)) hg hat)
     replace HB := am (hb)
     have HO178 := am (ho)
     clear HO_7
     clear ho hb hg hat
     refine hK.out _ _ ⟨(blk_cell BK106.out 0).trans rfl, (blk_cell BK106.out 1).trans rfl, (blk_cell BK106.out 2).trans rfl⟩ (fun hHeld => ?_)
     clear hK K
     refine norm_ (a' := ?_) ?_ ?_
     rotate_left
     ·show Act.put _ (some 87) _ = _
      simp only [Act.put, sA, sZ, sS, i64_w, i32_w]
      rfl
     refine pu_ (i := 8) (N := some 7) (bl 9 511) rfl rfl (any_of HT_.out (by kernel_rfl)) ?_
     refine done_ (done_of HT_.out (by kernel_rfl)) ?_
     go_upto_region 20 with (fail)
     go_cut [89] (fun v89 wc => ∃ (kq : Nat) (x89_87 : Int), v89 = .int .i64 x89_87 ∧ Aside0 (facts_one.j3 kq y176 t134 t164 x89_87 t102 t103 t104 = some r) ∧ Aside0 (kq ≤ k2) ∧ Aside0 (Kd.N k26 26 wc w.heap.size (fun k_ => (w.heap.size ≤ k_) ∧ some k_ ≠ ((.slice Ao53 t134.length co53) : Value).ownBlock ∧ k_ ≠ gb105 ∧ k_ ≠ gb106) v177 y176) ∧ Aside0 (Kd.R Kd.string 9 wc w.heap.size (fun k_ => (w.heap.size ≤ k_)) (.slice Ao53 t134.length co53) t134) ∧ Aside0 (wc.heap[gb105]? = some (.cells #[.int .i64 ((rd_T34 l0 a1).kind), .string ((rd_T34 l0 a1).x), .string ((rd_T34 l0 a1).y), .string ((rd_T34 l0 a1).z), .string ((rd_T34 l0 a1).op), .int .i64 ((rd_T34 l0 a1).n), .int .i64 ((rd_T34 l0 a1).a), .int .i64 ((rd_T34 l0 a1).b)] 34 (0, 0))) ∧ Aside0 (wc.heap[gb106]? = some (.cells #[.bool t102, .string t103, .int .i64 t104] 36 (0, 0))) ∧ Aside0 (Below w.heap.size w wc))
     case first =>
      have H := HC88.out
      clear HC88
      have H' := am H
      clear H
      have hnb100 := NB105_106.out
      have hnc100 := NB106_105.out
      obtain ⟨hcz101_0, hcz101_1, hcz101_2, hcz101_3, hcz101_4, hcz101_5, hcz101_6, hcz101_7, hfz101_0, hfz101_1, hfz101_2, hfz101_3, hfz101_4, hfz101_5, hfz101_6, hfz101_7⟩ := bc8 BK105.out
      go_wp2
      go_meet
      case rel => exact ⟨_, (((rd_T34 l0 a1).kind)), rs_, H', ⟨by have := HK1.out; have := HK2.out; first | omega | exact Nat.le_refl _⟩, ⟨by (with_reducible repeat (first | apply Kd.N_alloc | apply Kd.N_drewN | apply Kd.N_drew)); exact Kd.N_mono HO178.out (fun _ hk => ⟨hk.1, ⟨hk.2.1, ⟨hk.2.2.2.1, hk.2.2.2.2⟩⟩⟩)⟩, ⟨pR HO_10.out⟩, ⟨pB BK105.out⟩, ⟨pB BK106.out⟩, ⟨pL HB.out⟩⟩
     case rest =>
      clear HC88
      try clear c1
      try clear c2
      try clear p2
      try clear c3
      try clear c5
      try clear p6
      try clear c7
      try clear c8
      try clear c10
      try clear c22
      try clear c30
      try clear c31
      try clear c54
      try clear c54b0
      try clear c55
      try clear c56
      try clear c59
      try clear p64
      try clear c71
      try clear c74
      try clear c84
      try clear c87
      try clear c89
      try clear c100
      try clear hcz101_0
      try clear hcz101_1
      try clear hcz101_2
      try clear hcz101_3
      try clear hcz101_4
      try clear hcz101_5
      try clear hcz101_6
      try clear hcz101_7
      try clear hcz90_0
      try clear hcz90_1
      try clear hcz90_2
      try clear hcz90_3
      try clear hcz90_4
      try clear hcz90_5
      try clear hcz90_6
      try clear hcz90_7
      try clear hfz101_0
      try clear hfz101_1
      try clear hfz101_2
      try clear hfz101_3
      try clear hfz101_4
      try clear hfz101_5
      try clear hfz101_6
      try clear hfz101_7
      try clear hfz90_0
      try clear hfz90_1
      try clear hfz90_2
      try clear hfz90_3
      try clear hfz90_4
      try clear hfz90_5
      try clear hfz90_6
      try clear hfz90_7
      obtain ⟨kq, x89_87, rfl, HA, HJ87, HO_7, HO_10, BK105, BK106, HB⟩ := hcut
      cases kq with
      | zero => exact absurd HA.out (by simp [facts_one.j3])
      | succ kj87 =>
       have H := HA.out
       clear HA
       simp only [facts_one.j3] at H
       by_cases c102 : x89_87 = 4
       ·rw [if_pos c102] at H
        have c102b0 : (x89_87 == 4) = true := beq_iff_eq.mpr c102
        have c102b1 : (x89_87 != 4) = false := bne_eq_false_iff_eq.mpr c102
        clear c102
        replace H := Option.bind_eq_some_iff.mp H
        obtain ⟨⟨t179, t180, t181⟩, A1030, H⟩ := H
        replace H : ((facts_fact.f (⟨#[115, 111, 117, 114, 99, 101]⟩ : ByteArray) (([(⟨t102, t103, t104⟩ : Val), (⟨t179, t180, t181⟩ : Val)] : List (Val)))).bind fun bt185 => (if y176.length < 3518437208883 then (some (y176 ++ [(⟨bt185.1, bt185.2⟩ : Fact)])) else (none))) = some r := H
        have A103 := am A1030
        clear A1030
        obtain ⟨y182, hy182⟩ : ∃ y_ : List (Val), y_ = (([(⟨t102, t103, t104⟩ : Val), (⟨t179, t180, t181⟩ : Val)] : List (Val))) := ⟨_, rfl⟩
        replace H : ((facts_fact.f (⟨#[115, 111, 117, 114, 99, 101]⟩ : ByteArray) y182).bind fun bt185 => (if y176.length < 3518437208883 then (some (y176 ++ [(⟨bt185.1, bt185.2⟩ : Fact)])) else (none))) = some r := by first | (rw [hy182]; with_reducible exact H) | (have H2_ := (Option.bind_some _ _).symm.trans H; rw [hy182]; with_reducible exact H2_) | (have H2_ := (Option.bind_some _ _).symm.trans H; with_reducible exact H2_) | with_reducible exact H | (rw [hy182]; exact H) | exact H
        have Ny182 := am hy182
        clear hy182
        replace H := Option.bind_eq_some_iff.mp H
        obtain ⟨⟨t185, t186⟩, A1040, H⟩ := H
        replace H : (if y176.length < 3518437208883 then (some (y176 ++ [(⟨t185, t186⟩ : Fact)])) else (none)) = some r := H
        have A104 := am A1040
        clear A1040
        by_cases c105 : y176.length < 3518437208883
        rotate_left
        ·rw [if_neg c105] at H
         exact absurd H (by simp)
        rw [if_pos c105] at H
        have LMc105 := am c105
        clear c105
        obtain ⟨y189, hy189⟩ : ∃ y_ : List (Fact), y_ = (y176 ++ [(⟨t185, t186⟩ : Fact)]) := ⟨_, rfl⟩
        replace H : (some y189) = some r := by first | (rw [hy189]; with_reducible exact H) | (have H2_ := (Option.bind_some _ _).symm.trans H; rw [hy189]; with_reducible exact H2_) | (have H2_ := (Option.bind_some _ _).symm.trans H; with_reducible exact H2_) | with_reducible exact H | (rw [hy189]; exact H) | exact H
        have Ny189 := am hy189
        clear hy189
        obtain rfl := Option.some.inj H
        try go_wp2
        replace HO_7 := am (Kd.N_drew HO_7.out)
        replace HO_10 := am (Kd.R_drew HO_10.out)
        replace BK105 := am (blk_drew BK105.out)
        replace BK106 := am (blk_drew BK106.out)
        replace HB := am (below_drew1 HB.out)
        refine start_ (n := 9) (S := fun w' => w'.cell? ⟨gb106, 0, none⟩ = some (.bool t102) ∧ w'.cell? ⟨gb106, 1, none⟩ = some (.string t103) ∧ w'.cell? ⟨gb106, 2, none⟩ = some (.int .i64 t104)) (ds := []) (bl 9 0) (by kernel_rfl) rfl rfl ⟨(blk_cell BK106.out 0).trans rfl, (blk_cell BK106.out 1).trans rfl, (blk_cell BK106.out 2).trans rfl⟩ (fun hHeld => ?_); refine with_tabW facts_one.tab22 facts_one.bits22 (fun HT_ HW_ => ?_)
        generalize wc.drew = w106 at HO_7 HO_10 BK105 BK106 HB hHeld ⊢
        refine pu_ (i := 0) (N := some 92) (bl 9 1) rfl rfl (any_of HT_.out (by kernel_rfl)) ?_
        refine pu_ (i := 2) (N := some 94) (bl 9 5) rfl rfl (any_of HT_.out (by kernel_rfl)) ?_
        refine take_ (i := 1) (N := some 93) (v := ?_) (a' := ?_) (bl 9 7) rfl rfl (take_ofW HT_.out HW_.out (by kernel_rfl)) (fun _ _ _ h => h) (Or.inl ⟨by rfl, ?_⟩) hHeld ?_ ?_
        rotate_left
        ·rintro w' ⟨s0, s1, s2⟩
         go_simp
         with_reducible rfl
        rotate_left
        ·simp only [Act.put, sA, sZ, sS, i64_w, i32_w]
         rfl
        refine one_ (i := 3) (N := some 95) (bl 9 15) rfl rfl (one_of HT_.out (by kernel_rfl)) (by decide) (fun K hK => ?_)
        refine goes_ Tryz.func30 (by kernel_rfl) rfl #[.string t164] (by rfl) rfl rfl gl_ ?_
        with_reducible refine (value_Sym.calls t164 t179 t180 t181 _ A103.out).mono ?_
        rintro e w107 ⟨rfl, hb⟩
        refine ⟨_, rfl, ?_⟩
        replace HO_7 := am (Kd.N_below (by (with_reducible repeat (first | apply Kd.N_alloc | apply Kd.N_drewN | apply Kd.N_drew)); exact HO_7.out) hb)
        replace HO_10 := am (Rb_ HO_10.out hb)
        replace BK105 := am (bb_ BK105.out hb)
        replace BK106 := am (bb_ BK106.out hb)
        replace HB := am (bs_ HB.out hb)
        (try clear hb)
        (try clear hb2)
        (try clear hk)
        (try clear hi)
        refine hK.out _ _ ⟨(blk_cell BK106.out 0).trans rfl, (blk_cell BK106.out 1).trans rfl, (blk_cell BK106.out 2).trans rfl⟩ (fun hHeld => ?_)
        clear hK K
        refine norm_ (a' := ?_) ?_ ?_
        rotate_left
        ·show Act.put _ (some 95) _ = _
         simp only [Act.put, sA, sZ, sS, i64_w, i32_w]
         rfl
        refine one_ (i := 4) (N := some 96) (bl 9 31) rfl rfl (one_of HT_.out (by kernel_rfl)) (by decide) (fun K hK => ?_)
        refine Kd.R_lit_step k36 _ 36 ?hg (N := 96) ?hd (xs := ([(⟨t102, t103, t104⟩ : Val), (⟨t179, t180, t181⟩ : Val)] : List (Val))) (inner := [.bool t102, .string t103, .int .i64 t104, .bool t179, .string t180, .int .i64 t181]) (ok := fun _ => True) (okp := fun _ => True) ?hr ?hp (fun _ hk => hk) trivial (Below.refl _ _) (Nat.le_refl _) (by simp) ?_; (case hd => rfl); (case hg => rfl); (case hr => first | (go_simp; done) | (go_simp; rfl)); (case hp => exact (Reps.c3 (show Kd.M k36 _ _ _ (⟨t102, t103, t104⟩ : Val) [.bool t102, .string t103, .int .i64 t104] from (k36_mkM _ _ _ (⟨t102, t103, t104⟩ : Val) )) (Reps.c3 (show Kd.M k36 _ _ _ (⟨t179, t180, t181⟩ : Val) [.bool t179, .string t180, .int .i64 t181] from (k36_mkM _ _ _ (⟨t179, t180, t181⟩ : Val) )) (Reps.none _ _))))
        intro v183 w108 ho109 hb hg_ hnew_
        clear hg_ hnew_
        (first | rw [← Ny182.out] at ho109 | (simp only [Int.reduceToNat] at ho109; rw [← Ny182.out] at ho109))
        replace HO_7 := am (Kd.N_elder' (by (with_reducible repeat (first | apply Kd.N_alloc | apply Kd.N_drewN | apply Kd.N_drew)); exact HO_7.out) (Kd.R_base ho109) hb)
        replace HO_10 := am (Rb_ HO_10.out hb)
        have HO184 := am (Kd.R_lower (Kd.R_newB (Kd.R_newM (M := fun k_ => (w.heap.size ≤ k_)) ho109 (below_size (pL HB.out)) (fun k_ h_ => h_)) (g := gb106) (o := .cells #[.bool t102, .string t103, .int .i64 t104] 36 (0, 0)) (pB BK106.out)) (below_size (pL HB.out)))
        replace BK105 := am (bb_ BK105.out hb)
        replace BK106 := am (bb_ BK106.out hb)
        replace HB := am (bs_ HB.out hb)
        clear hb ho109
        obtain ⟨Ao110, co110, eo110⟩ := Kd.R_slice HO184.out
        (first | subst eo110 | (injection eo110 with f1_ f2_ f3_; have f4_ := f1_.symm; have f5_ := f3_.symm; clear f1_ f2_ f3_; subst f4_; subst f5_))
        refine hK.out _ _ ⟨(blk_cell BK106.out 0).trans rfl, (blk_cell BK106.out 1).trans rfl, (blk_cell BK106.out 2).trans rfl⟩ (fun hHeld => ?_)
        clear hK K
        refine norm_ (a' := ?_) ?_ ?_
        rotate_left
        ·show Act.put _ (some 96) _ = _
         simp only [Act.put, sA, sZ, sS, i64_w, i32_w]
         rfl
        refine one_ (i := 5) (N := some 97) (bl 9 63) rfl rfl (one_of HT_.out (by kernel_rfl)) (by decide) (fun K hK => ?_)
        refine goes_ Tryz.func22 (by kernel_rfl) rfl #[.string (⟨#[115, 111, 117, 114, 99, 101]⟩ : ByteArray), .slice Ao110 y182.length co110] (by rfl) rfl rfl gl_ ?_
        with_reducible refine (facts_fact.calls (⟨#[115, 111, 117, 114, 99, 101]⟩ : ByteArray) (fun k_ => some k_ = (.slice Ao110 y182.length co110 : Value).ownBlock) _ _ y182 t185 t186 _ ?side1 A104.out).mono ?_
        (case side1 => exact Kd.R_V (Kd.R_tight rfl (Kd.R_types (Kd.R_apart' (Kd.R_apart' (HO184.out) (Kd.N_typed HO_7.out) (by decide)) (Kd.R_typed HO_10.out) (by decide)) BK105.out (by decide))))
        rintro e w111 ⟨v187, rfl, ho0, hb⟩
        refine ⟨_, rfl, ?_⟩
        have HO188 := am (Kd.V_lower (Kd.V_mono (ok' := fun k_ => (w.heap.size ≤ k_) ∧ some k_ ≠ (v177 : Value).ownBlock ∧ some k_ ≠ (.slice Ao53 t134.length co53 : Value).ownBlock ∧ k_ ≠ gb105 ∧ k_ ≠ gb106) ho0 (fun k_ hk_ => ⟨Or.elim hk_ (fun hs_ => ((Kd.R_types (Kd.R_apart' (Kd.R_apart' (HO184.out) (Kd.N_typed HO_7.out) (by decide)) (Kd.R_typed HO_10.out) (by decide)) BK105.out (by decide)).1 k_ hs_.symm).1.1.1.1.1) (fun hn_ => (Nat.le_trans (below_size (pL HB.out)) hn_)), Or.elim hk_ (fun hs_ => ((Kd.R_types (Kd.R_apart' (Kd.R_apart' (HO184.out) (Kd.N_typed HO_7.out) (by decide)) (Kd.R_typed HO_10.out) (by decide)) BK105.out (by decide)).1 k_ hs_.symm).1.1.2) (fun hn_ => (Kd.fresh' (Kd.N_lt (by (with_reducible repeat (first | apply Kd.N_alloc | apply Kd.N_drewN | apply Kd.N_drew)); exact HO_7.out)) k_ hn_)), Or.elim hk_ (fun hs_ => ((Kd.R_types (Kd.R_apart' (Kd.R_apart' (HO184.out) (Kd.N_typed HO_7.out) (by decide)) (Kd.R_typed HO_10.out) (by decide)) BK105.out (by decide)).1 k_ hs_.symm).1.2) (fun hn_ => (Kd.fresh' (Kd.R_lt (pR HO_10.out)) k_ hn_)), Or.elim hk_ (fun hs_ => ((Kd.R_types (Kd.R_apart' (Kd.R_apart' (HO184.out) (Kd.N_typed HO_7.out) (by decide)) (Kd.R_typed HO_10.out) (by decide)) BK105.out (by decide)).1 k_ hs_.symm).2) (fun hn_ => (Kd.freshB (g := gb105) (pB BK105.out) k_ hn_)), Or.elim hk_ (fun hs_ => ((Kd.R_types (Kd.R_apart' (Kd.R_apart' (HO184.out) (Kd.N_typed HO_7.out) (by decide)) (Kd.R_typed HO_10.out) (by decide)) BK105.out (by decide)).1 k_ hs_.symm).1.1.1.2) (fun hn_ => (Kd.freshB (g := gb106) (pB BK106.out) k_ hn_))⟩)) (below_size (pL HB.out)))
        replace HO_7 := am (Kd.N_below (by (with_reducible repeat (first | apply Kd.N_alloc | apply Kd.N_drewN | apply Kd.N_drew)); exact HO_7.out) hb)
        replace HO_10 := am (Rb_ HO_10.out hb)
        replace HO184 := am (Rb_ HO184.out hb)
        replace BK105 := am (bb_ BK105.out hb)
        replace BK106 := am (bb_ BK106.out hb)
        replace HB := am (bs_ HB.out hb)
        (try clear hb)
        (try clear hb2)
        (try clear hk)
        (try clear hi)
        (try clear ho0)
        obtain ⟨Ao113, co113, eo113⟩ := Kd.V_slice HO188.out
        (first | subst eo113 | (injection eo113 with f1_ f2_ f3_; have f4_ := f1_.symm; have f5_ := f3_.symm; clear f1_ f2_ f3_; subst f4_; subst f5_))
        refine hK.out _ _ ⟨(blk_cell BK106.out 0).trans rfl, (blk_cell BK106.out 1).trans rfl, (blk_cell BK106.out 2).trans rfl⟩ (fun hHeld => ?_)
        clear hK K
        refine norm_ (a' := ?_) ?_ ?_
        rotate_left
        ·show Act.put _ (some 97) _ = _
         simp only [Act.put, sA, sZ, sS, i64_w, i32_w]
         rfl
        refine one_ (i := 6) (N := some 98) (bl 9 127) rfl rfl (one_of HT_.out (by kernel_rfl)) (by decide) (fun K hK => ?_)
        refine value_ (w1 := ?_) (v := ?_) (by rfl) rfl ?_ ?_
        rotate_left 2
        ·go_simp
         constructor
         ·rfl
         rfl
        refine hK.out _ _ ⟨(blk_cell (blk_alloc BK106.out _) 0).trans rfl, (blk_cell (blk_alloc BK106.out _) 1).trans rfl, (blk_cell (blk_alloc BK106.out _) 2).trans rfl⟩ (fun hHeld => ?_)
        clear hK K
        refine norm_ (a' := ?_) ?_ ?_
        rotate_left
        ·show Act.put _ (some 98) _ = _
         simp only [Act.put, sA, sZ, sS, i64_w, i32_w]
         rfl
        refine one_ (i := 7) (N := some 99) (bl 9 255) rfl rfl (one_of HT_.out (by kernel_rfl)) (by decide) (fun K hK => ?_)
        refine Kd.N_append_step k26 (w0 := w) w.heap.size (by rfl) (.tmp 92) (.tmp 98) 23 26 (.agg #[(.string ⟨#[]⟩), (.slice none 0 0)]) 40 rfl Tryz.underlying23 info26 rfl (by decide) (by omega) v177 y176 (⟨t185, t186⟩ : Fact) [.string t185, .slice Ao113 t186.length co113] (fun k_ => (w.heap.size ≤ k_) ∧ some k_ ≠ (.slice Ao53 t134.length co53 : Value).ownBlock ∧ k_ ≠ gb105 ∧ k_ ≠ gb106) (fun k_ => ((fun k_ => (w.heap.size ≤ k_) ∧ some k_ ≠ (.slice Ao53 t134.length co53 : Value).ownBlock ∧ k_ ≠ gb105 ∧ k_ ≠ gb106)) k_ ∧ some k_ ≠ (v177 : Value).ownBlock) rfl rfl ?aP (fun _ hk => hk) ?aF ?aO ?aB ?aS ?aL ?_
        (case aP => exact (k26_mkF _ _ (⟨t185, t186⟩ : Fact) (Kd.V_reads' (Kd.V_mono (ok' := (fun k_ => ((fun k_ => (w.heap.size ≤ k_) ∧ some k_ ≠ (.slice Ao53 t134.length co53 : Value).ownBlock ∧ k_ ≠ gb105 ∧ k_ ≠ gb106)) k_ ∧ some k_ ≠ (v177 : Value).ownBlock)) (HO188.out) (fun k_ hk => ⟨⟨hk.1, ⟨hk.2.2.1, ⟨hk.2.2.2.1, hk.2.2.2.2⟩⟩⟩, hk.2.1⟩))).2.1 (Kd.V_F (Kd.V_mono (ok' := (fun k_ => ((fun k_ => (w.heap.size ≤ k_) ∧ some k_ ≠ (.slice Ao53 t134.length co53 : Value).ownBlock ∧ k_ ≠ gb105 ∧ k_ ≠ gb106)) k_ ∧ some k_ ≠ (v177 : Value).ownBlock)) (HO188.out) (fun k_ hk => ⟨⟨hk.1, ⟨hk.2.2.1, ⟨hk.2.2.2.1, hk.2.2.2.2⟩⟩⟩, hk.2.1⟩)))))
        (case aB => exact (pL HB.out))
        (case aF => exact (fun k_ hk => ⟨(Nat.le_trans (below_size (pL HB.out)) hk), Kd.fresh' (Kd.R_lt (pR HO_10.out)) k_ hk, Kd.freshB (g := gb105) (pB BK105.out) k_ hk, Kd.freshB (g := gb106) (pB BK106.out) k_ hk⟩))
        (case aO => exact (by (with_reducible repeat (first | apply Kd.N_alloc | apply Kd.N_drewN | apply Kd.N_drew)); exact Kd.N_mono HO_7.out (fun _ hk => ⟨hk.1.1, ⟨hk.1.2.1, ⟨hk.1.2.2.1, hk.1.2.2.2⟩⟩⟩)))
        (case aS => exact (below_size (pL HB.out)))
        (case aL => have := LMc105.out; omega)
        intro v190 w112 ho hb hg hat
        rw [← Ny189.out] at ho
        replace HO_10 := am (Kd.R_over' (pR HO_10.out) (Kd.N_typed (by (with_reducible repeat (first | apply Kd.N_alloc | apply Kd.N_drewN | apply Kd.N_drew)); exact HO_7.out)) (by decide) hg)
        replace BK105 := am (blk_grown (pB BK105.out) hg (Kd.N_ne HO_7.out BK105.out (by decide)))
        replace BK106 := am (blk_grown (pB BK106.out) hg (Kd.N_ne HO_7.out BK106.out (by decide)))
        replace HO184 := am (Kd.R_over' (pR HO184.out) (Kd.N_typed (by (with_reducible repeat (first | apply Kd.N_alloc | apply Kd.N_drewN | apply Kd.N_drew)); exact HO_7.out)) (by decide) hg)
        replace HO188 := am (Kd.V_afterv (ok := (fun k_ => (w.heap.size ≤ k_) ∧ some k_ ≠ (.slice Ao53 t134.length co53 : Value).ownBlock ∧ k_ ≠ gb105 ∧ k_ ≠ gb106)) (by (with_reducible repeat (first | apply Va | apply Vn | apply Vd)); exact Kd.V_mono HO188.out (fun _ hk => ⟨⟨hk.1, ⟨hk.2.2.1, ⟨hk.2.2.2.1, hk.2.2.2.2⟩⟩⟩, hk.2.1⟩)) hg hat)
        replace HB := am (hb)
        have HO191 := am (ho)
        clear HO_7
        clear ho hb hg hat
        refine hK.out _ _ ⟨(blk_cell BK106.out 0).trans rfl, (blk_cell BK106.out 1).trans rfl, (blk_cell BK106.out 2).trans rfl⟩ (fun hHeld => ?_)
        clear hK K
        refine norm_ (a' := ?_) ?_ ?_
        rotate_left
        ·show Act.put _ (some 99) _ = _
         simp only [Act.put, sA, sZ, sS, i64_w, i32_w]
         rfl
        refine pu_ (i := 8) (N := some 7) (bl 9 511) rfl rfl (any_of HT_.out (by kernel_rfl)) ?_
        refine done_ (done_of HT_.out (by kernel_rfl)) ?_
        try go_wp2
        go_ret
        exact ⟨_, er_, by (with_reducible repeat (first | apply Kd.N_alloc | apply Kd.N_drewN | apply Kd.N_drew)); exact Kd.N_mono HO191.out (fun _ hk => hk.1), pL HB.out⟩
       rw [if_neg c102] at H
       have c102b0 : (x89_87 == 4) = false := beq_eq_false_iff_ne.mpr c102
       have c102b1 : (x89_87 != 4) = true := bne_iff_ne.mpr c102
       have HC114 := am H
       clear H
       go_upto_if 100 with (fail)
       go_cut [100] (fun v100 wc => ∃ (kq : Nat) (x100_113 : Bool), v100 = .bool x100_113 ∧ Aside0 (facts_one.j4 kq y176 t134 t164 x100_113 t102 t103 t104 = some r) ∧ Aside0 (kq ≤ kj87) ∧ Aside0 (Kd.N k26 26 wc w.heap.size (fun k_ => (w.heap.size ≤ k_) ∧ some k_ ≠ ((.slice Ao53 t134.length co53) : Value).ownBlock ∧ k_ ≠ gb105 ∧ k_ ≠ gb106) v177 y176) ∧ Aside0 (Kd.R Kd.string 9 wc w.heap.size (fun k_ => (w.heap.size ≤ k_)) (.slice Ao53 t134.length co53) t134) ∧ Aside0 (wc.heap[gb105]? = some (.cells #[.int .i64 ((rd_T34 l0 a1).kind), .string ((rd_T34 l0 a1).x), .string ((rd_T34 l0 a1).y), .string ((rd_T34 l0 a1).z), .string ((rd_T34 l0 a1).op), .int .i64 ((rd_T34 l0 a1).n), .int .i64 ((rd_T34 l0 a1).a), .int .i64 ((rd_T34 l0 a1).b)] 34 (0, 0))) ∧ Aside0 (wc.heap[gb106]? = some (.cells #[.bool t102, .string t103, .int .i64 t104] 36 (0, 0))) ∧ Aside0 (Below w.heap.size w wc))
       case first =>
        have H := HC114.out
        clear HC114
        by_cases c115 : x89_87 = 2
        ·rw [if_pos c115] at H
         have c115b0 : (x89_87 == 2) = true := beq_iff_eq.mpr c115
         have c115b1 : (x89_87 != 2) = false := bne_eq_false_iff_eq.mpr c115
         clear c115
         (first | rw [c115b0] | (simp only [i64_w, i32_w]; rw [c115b0]) | skip)
         have H' := am H
         clear H
         go_wp2
         go_meet
         case rel => exact ⟨_, ((x89_87 == 2)), rs_, H', ⟨by have := HK1.out; have := HK2.out; have := HJ87.out; first | omega | exact Nat.le_refl _⟩, ⟨by (with_reducible repeat (first | apply Kd.N_alloc | apply Kd.N_drewN | apply Kd.N_drew)); exact HO_7.out⟩, ⟨pR HO_10.out⟩, ⟨pB BK105.out⟩, ⟨pB BK106.out⟩, ⟨pL HB.out⟩⟩
        rw [if_neg c115] at H
        have c115b0 : (x89_87 == 2) = false := beq_eq_false_iff_ne.mpr c115
        have c115b1 : (x89_87 != 2) = true := bne_iff_ne.mpr c115
        (first | rw [c115b0] | (simp only [i64_w, i32_w]; rw [c115b0]) | skip)
        have H' := am H
        clear H
        go_wp2
        go_meet
        case rel => exact ⟨_, ((x89_87 == 3)), rs_, H', ⟨by have := HK1.out; have := HK2.out; have := HJ87.out; first | omega | exact Nat.le_refl _⟩, ⟨by (with_reducible repeat (first | apply Kd.N_alloc | apply Kd.N_drewN | apply Kd.N_drew)); exact HO_7.out⟩, ⟨pR HO_10.out⟩, ⟨pB BK105.out⟩, ⟨pB BK106.out⟩, ⟨pL HB.out⟩⟩
       case rest =>
        clear HC114
        try clear c1
        try clear c2
        try clear p2
        try clear c3
        try clear c5
        try clear p6
        try clear c7
        try clear c8
        try clear c10
        try clear c11
        try clear c22
        try clear c30
        try clear c31
        try clear c54
        try clear c54b0
        try clear c55
        try clear c56
        try clear c59
        try clear p64
        try clear c71
        try clear c74
        try clear c84
        try clear c87
        try clear c89
        try clear c100
        try clear c102
        try clear c102b0
        try clear c102b1
        try clear c105
        try clear c115
        try clear c115b0
        try clear c115b1
        try clear hcz101_0
        try clear hcz101_1
        try clear hcz101_2
        try clear hcz101_3
        try clear hcz101_4
        try clear hcz101_5
        try clear hcz101_6
        try clear hcz101_7
        try clear hcz90_0
        try clear hcz90_1
        try clear hcz90_2
        try clear hcz90_3
        try clear hcz90_4
        try clear hcz90_5
        try clear hcz90_6
        try clear hcz90_7
        try clear hfz101_0
        try clear hfz101_1
        try clear hfz101_2
        try clear hfz101_3
        try clear hfz101_4
        try clear hfz101_5
        try clear hfz101_6
        try clear hfz101_7
        try clear hfz90_0
        try clear hfz90_1
        try clear hfz90_2
        try clear hfz90_3
        try clear hfz90_4
        try clear hfz90_5
        try clear hfz90_6
        try clear hfz90_7
        try clear p2
        try clear p6
        try clear p64
        obtain ⟨kq, x100_113, rfl, HA, HJ113, HO_7, HO_10, BK105, BK106, HB⟩ := hcut
        cases kq with
        | zero => exact absurd HA.out (by simp [facts_one.j4])
        | succ kj113 =>
         have H := HA.out
         clear HA
         simp only [facts_one.j4] at H
         by_cases c116 : x100_113 = true
         rotate_left
         ·replace c116 := Bool.eq_false_iff.mpr c116
          subst c116
          have H1 : (some y176) = some r := by rw [if_neg (show ¬ (false = true) by decide)] at H; exact H
          clear H
          have H := H1
          clear H1
          obtain rfl := Option.some.inj H
          go_wp2
          go_ret
          exact ⟨_, er_, by (with_reducible repeat (first | apply Kd.N_alloc | apply Kd.N_drewN | apply Kd.N_drew)); exact Kd.N_mono HO_7.out (fun _ hk => hk.1), pL HB.out⟩
         subst c116
         have H1 : (facts_one.l2 kj113 y176 t164 t134 (t134.length : Int) 0 t102 t103 t104) = some r := by rw [if_pos rfl] at H; exact H
         clear H
         have H := H1
         clear H1
         have H' := am H
         clear H
         go_wp2
         go_loopg [7, 105] kj113 (fun kq v7 v105 w' => ∃ (x7_5 : List (Fact)) (x105_5 : Int), v105 = .int .i64 x105_5 ∧ Aside0 (facts_one.l2 kq x7_5 t164 t134 (t134.length : Int) x105_5 t102 t103 t104 = some r) ∧ Aside0 (kq ≤ kj113) ∧ Aside0 (Kd.N k26 26 w' w.heap.size (fun k_ => (w.heap.size ≤ k_) ∧ some k_ ≠ ((.slice Ao53 t134.length co53) : Value).ownBlock ∧ k_ ≠ gb105 ∧ k_ ≠ gb106) v7 x7_5) ∧ Aside0 (Kd.R Kd.string 9 w' w.heap.size (fun k_ => (w.heap.size ≤ k_)) (.slice Ao53 t134.length co53) t134) ∧ Aside0 (w'.heap[gb105]? = some (.cells #[.int .i64 ((rd_T34 l0 a1).kind), .string ((rd_T34 l0 a1).x), .string ((rd_T34 l0 a1).y), .string ((rd_T34 l0 a1).z), .string ((rd_T34 l0 a1).op), .int .i64 ((rd_T34 l0 a1).n), .int .i64 ((rd_T34 l0 a1).a), .int .i64 ((rd_T34 l0 a1).b)] 34 (0, 0))) ∧ Aside0 (w'.heap[gb106]? = some (.cells #[.bool t102, .string t103, .int .i64 t104] 36 (0, 0))) ∧ Aside0 (Below w.heap.size w w'))
         case atStart => exact ⟨(y176), (0), rs_, H', ⟨Nat.le_refl _⟩, ⟨by (with_reducible repeat (first | apply Kd.N_alloc | apply Kd.N_drewN | apply Kd.N_drew)); exact HO_7.out⟩, ⟨pR HO_10.out⟩, ⟨pB BK105.out⟩, ⟨pB BK106.out⟩, ⟨pL HB.out⟩⟩
         case round =>
          clear H'
          try clear c1
          try clear c2
          try clear p2
          try clear c3
          try clear c5
          try clear p6
          try clear c7
          try clear c8
          try clear c10
          try clear c11
          try clear c22
          try clear c30
          try clear c31
          try clear c54
          try clear c54b0
          try clear c55
          try clear c56
          try clear c59
          try clear p64
          try clear c71
          try clear c74
          try clear c84
          try clear c87
          try clear c89
          try clear c100
          try clear c102
          try clear c102b0
          try clear c102b1
          try clear c105
          try clear c115
          try clear c115b0
          try clear c115b1
          try clear c116
          try clear hcz101_0
          try clear hcz101_1
          try clear hcz101_2
          try clear hcz101_3
          try clear hcz101_4
          try clear hcz101_5
          try clear hcz101_6
          try clear hcz101_7
          try clear hcz90_0
          try clear hcz90_1
          try clear hcz90_2
          try clear hcz90_3
          try clear hcz90_4
          try clear hcz90_5
          try clear hcz90_6
          try clear hcz90_7
          try clear hfz101_0
          try clear hfz101_1
          try clear hfz101_2
          try clear hfz101_3
          try clear hfz101_4
          try clear hfz101_5
          try clear hfz101_6
          try clear hfz101_7
          try clear hfz90_0
          try clear hfz90_1
          try clear hfz90_2
          try clear hfz90_3
          try clear hfz90_4
          try clear hfz90_5
          try clear hfz90_6
          try clear hfz90_7
          try clear p2
          try clear p6
          try clear p64
          obtain ⟨x7_5, x105_5, rfl, HA, HK5, HO_7, HO_103, BK105, BK106, HB⟩ := hrel
          cases gk with
          | zero => exact absurd HA.out (by simp [facts_one.l2])
          | succ k5 =>
           have H := HA.out
           clear HA
           simp only [facts_one.l2] at H
           by_cases c117 : x105_5 < (t134.length : Int)
           rotate_left
           ·rw [if_neg c117] at H
            have c117b0 : decide (x105_5 < (t134.length : Int)) = false := decide_eq_false c117
            clear c117
            obtain rfl := Option.some.inj H
            go_wp2
            go_ret
            exact ⟨_, er_, by (with_reducible repeat (first | apply Kd.N_alloc | apply Kd.N_drewN | apply Kd.N_drew)); exact Kd.N_mono HO_7.out (fun _ hk => hk.1), pL HB.out⟩
           rw [if_pos c117] at H
           have c117b0 : decide (x105_5 < (t134.length : Int)) = true := decide_eq_true c117
           clear c117
           by_cases c118 : 0 ≤ x105_5
           rotate_left
           ·rw [if_neg c118] at H
            exact absurd H (by simp)
           rw [if_pos c118] at H
           have c118b0 : decide (0 ≤ x105_5) = true := decide_eq_true c118
           clear c118
           by_cases c119 : x105_5 < (t134.length : Int)
           rotate_left
           ·rw [if_neg c119] at H
            exact absurd H (by simp)
           rw [if_pos c119] at H
           have c119b0 : decide (x105_5 < (t134.length : Int)) = true := decide_eq_true c119
           clear c119
           replace H := Option.bind_eq_some_iff.mp H
           obtain ⟨⟨t193, t194, t195⟩, A1200, H⟩ := H
           replace H : ((value_Sym.f (rdOf ByteArray.empty t134 x105_5)).bind fun bt196 => ((facts_fact.f (⟨#[102, 108, 111, 119]⟩ : ByteArray) (([(⟨t102, t103, t104⟩ : Val), (⟨t193, t194, t195⟩ : Val), (⟨bt196.1, bt196.2.1, bt196.2.2⟩ : Val)] : List (Val)))).bind fun bt202 => (if x7_5.length < 3518437208883 then (facts_one.l2 k5 (x7_5 ++ [(⟨bt202.1, bt202.2⟩ : Fact)]) t164 t134 (t134.length : Int) (wrap64 (x105_5 + 1)) t102 t103 t104) else (none)))) = some r := H
           have A120 := am A1200
           clear A1200
           replace H := Option.bind_eq_some_iff.mp H
           obtain ⟨⟨t196, t197, t198⟩, A1210, H⟩ := H
           replace H : ((facts_fact.f (⟨#[102, 108, 111, 119]⟩ : ByteArray) (([(⟨t102, t103, t104⟩ : Val), (⟨t193, t194, t195⟩ : Val), (⟨t196, t197, t198⟩ : Val)] : List (Val)))).bind fun bt202 => (if x7_5.length < 3518437208883 then (facts_one.l2 k5 (x7_5 ++ [(⟨bt202.1, bt202.2⟩ : Fact)]) t164 t134 (t134.length : Int) (wrap64 (x105_5 + 1)) t102 t103 t104) else (none))) = some r := H
           have A121 := am A1210
           clear A1210
           obtain ⟨y199, hy199⟩ : ∃ y_ : List (Val), y_ = (([(⟨t102, t103, t104⟩ : Val), (⟨t193, t194, t195⟩ : Val), (⟨t196, t197, t198⟩ : Val)] : List (Val))) := ⟨_, rfl⟩
           replace H : ((facts_fact.f (⟨#[102, 108, 111, 119]⟩ : ByteArray) y199).bind fun bt202 => (if x7_5.length < 3518437208883 then (facts_one.l2 k5 (x7_5 ++ [(⟨bt202.1, bt202.2⟩ : Fact)]) t164 t134 (t134.length : Int) (wrap64 (x105_5 + 1)) t102 t103 t104) else (none))) = some r := by first | (rw [hy199]; with_reducible exact H) | (have H2_ := (Option.bind_some _ _).symm.trans H; rw [hy199]; with_reducible exact H2_) | (have H2_ := (Option.bind_some _ _).symm.trans H; with_reducible exact H2_) | with_reducible exact H | (rw [hy199]; exact H) | exact H
           have Ny199 := am hy199
           clear hy199
           replace H := Option.bind_eq_some_iff.mp H
           obtain ⟨⟨t202, t203⟩, A1220, H⟩ := H
           replace H : (if x7_5.length < 3518437208883 then (facts_one.l2 k5 (x7_5 ++ [(⟨t202, t203⟩ : Fact)]) t164 t134 (t134.length : Int) (wrap64 (x105_5 + 1)) t102 t103 t104) else (none)) = some r := H
           have A122 := am A1220
           clear A1220
           by_cases c123 : x7_5.length < 3518437208883
           rotate_left
           ·rw [if_neg c123] at H
            exact absurd H (by simp)
           rw [if_pos c123] at H
           have LMc123 := am c123
           clear c123
           obtain ⟨y206, hy206⟩ : ∃ y_ : List (Fact), y_ = (x7_5 ++ [(⟨t202, t203⟩ : Fact)]) := ⟨_, rfl⟩
           replace H : (facts_one.l2 k5 y206 t164 t134 (t134.length : Int) (wrap64 (x105_5 + 1)) t102 t103 t104) = some r := by first | (rw [hy206]; with_reducible exact H) | (have H2_ := (Option.bind_some _ _).symm.trans H; rw [hy206]; with_reducible exact H2_) | (have H2_ := (Option.bind_some _ _).symm.trans H; with_reducible exact H2_) | with_reducible exact H | (rw [hy206]; exact H) | exact H
           have Ny206 := am hy206
           clear hy206
           have H' := am H
           clear H
           have p192 : 0 ≤ (x105_5 : Int) := dt_
           have q192 : x105_5 < (t134.length : Int) := dt_
           obtain ⟨ad192, e192, hx192_0⟩ := Kd.at_string (Kd.R_reads' HO_103.out).2.2 x105_5 p192 q192
           cases e192
           replace p192 := eq_true p192
           replace q192 := eq_true q192
           try go_wp2
           replace HO_7 := am (Kd.N_drew HO_7.out)
           replace HO_103 := am (Kd.R_drew HO_103.out)
           replace BK105 := am (blk_drew BK105.out)
           replace BK106 := am (blk_drew BK106.out)
           replace HB := am (below_drew1 HB.out)
           refine start_ (n := 11) (S := fun w' => w'.cell? ⟨gb106, 0, none⟩ = some (.bool t102) ∧ w'.cell? ⟨gb106, 1, none⟩ = some (.string t103) ∧ w'.cell? ⟨gb106, 2, none⟩ = some (.int .i64 t104)) (ds := []) (bl 11 0) (by kernel_rfl) rfl rfl ⟨(blk_cell BK106.out 0).trans rfl, (blk_cell BK106.out 1).trans rfl, (blk_cell BK106.out 2).trans rfl⟩ (fun hHeld => ?_); refine with_tabW facts_one.tab28 facts_one.bits28 (fun HT_ HW_ => ?_)
           generalize wr.drew = w124 at HO_7 HO_103 BK105 BK106 HB hHeld ⊢
           refine pu_ (i := 0) (N := some 109) (bl 11 1) rfl rfl (any_of HT_.out (by kernel_rfl)) ?_
           refine pu_ (i := 2) (N := some 111) (bl 11 5) rfl rfl (any_of HT_.out (by kernel_rfl)) ?_
           refine pu_ (i := 4) (N := some 113) (bl 11 21) rfl rfl (any_of HT_.out (by kernel_rfl)) ?_
           refine take_ (i := 1) (N := some 110) (v := ?_) (a' := ?_) (bl 11 23) rfl rfl (take_ofW HT_.out HW_.out (by kernel_rfl)) (fun _ _ _ h => h) (Or.inl ⟨by rfl, ?_⟩) hHeld ?_ ?_
           rotate_left
           ·rintro w' ⟨s0, s1, s2⟩
            go_simp
            with_reducible rfl
           rotate_left
           ·simp only [Act.put, sA, sZ, sS, i64_w, i32_w]
            rfl
           refine one_ (i := 3) (N := some 112) (bl 11 31) rfl rfl (one_of HT_.out (by kernel_rfl)) (by decide) (fun K hK => ?_)
           refine goes_ Tryz.func30 (by kernel_rfl) rfl #[.string t164] (by rfl) rfl rfl gl_ ?_
           with_reducible refine (value_Sym.calls t164 t193 t194 t195 _ A120.out).mono ?_
           rintro e w125 ⟨rfl, hb⟩
           refine ⟨_, rfl, ?_⟩
           replace HO_7 := am (Kd.N_below (by (with_reducible repeat (first | apply Kd.N_alloc | apply Kd.N_drewN | apply Kd.N_drew)); exact HO_7.out) hb)
           replace HO_103 := am (Rb_ HO_103.out hb)
           replace BK105 := am (bb_ BK105.out hb)
           replace BK106 := am (bb_ BK106.out hb)
           replace HB := am (bs_ HB.out hb)
           (try clear hb)
           (try clear hb2)
           (try clear hk)
           (try clear hi)
           refine hK.out _ _ ⟨(blk_cell BK106.out 0).trans rfl, (blk_cell BK106.out 1).trans rfl, (blk_cell BK106.out 2).trans rfl⟩ (fun hHeld => ?_)
           clear hK K
           refine norm_ (a' := ?_) ?_ ?_
           rotate_left
           ·show Act.put _ (some 112) _ = _
            simp only [Act.put, sA, sZ, sS, i64_w, i32_w]
            rfl
           refine one_ (i := 5) (N := some 114) (bl 11 63) rfl rfl (one_of HT_.out (by kernel_rfl)) (by decide) (fun K hK => ?_)
           refine goes_ Tryz.func30 (by kernel_rfl) rfl #[.string (rdOf ByteArray.empty t134 x105_5)] (by rfl) rfl rfl gl_ ?_
           with_reducible refine (value_Sym.calls (rdOf ByteArray.empty t134 x105_5) t196 t197 t198 _ A121.out).mono ?_
           rintro e w126 ⟨rfl, hb⟩
           refine ⟨_, rfl, ?_⟩
           replace HO_7 := am (Kd.N_below (by (with_reducible repeat (first | apply Kd.N_alloc | apply Kd.N_drewN | apply Kd.N_drew)); exact HO_7.out) hb)
           replace HO_103 := am (Rb_ HO_103.out hb)
           replace BK105 := am (bb_ BK105.out hb)
           replace BK106 := am (bb_ BK106.out hb)
           replace HB := am (bs_ HB.out hb)
           (try clear hb)
           (try clear hb2)
           (try clear hk)
           (try clear hi)
           refine hK.out _ _ ⟨(blk_cell BK106.out 0).trans rfl, (blk_cell BK106.out 1).trans rfl, (blk_cell BK106.out 2).trans rfl⟩ (fun hHeld => ?_)
           clear hK K
           refine norm_ (a' := ?_) ?_ ?_
           rotate_left
           ·show Act.put _ (some 114) _ = _
            simp only [Act.put, sA, sZ, sS, i64_w, i32_w]
            rfl
           refine one_ (i := 6) (N := some 115) (bl 11 127) rfl rfl (one_of HT_.out (by kernel_rfl)) (by decide) (fun K hK => ?_)
           refine Kd.R_lit_step k36 _ 36 ?hg (N := 115) ?hd (xs := ([(⟨t102, t103, t104⟩ : Val), (⟨t193, t194, t195⟩ : Val), (⟨t196, t197, t198⟩ : Val)] : List (Val))) (inner := [.bool t102, .string t103, .int .i64 t104, .bool t193, .string t194, .int .i64 t195, .bool t196, .string t197, .int .i64 t198]) (ok := fun _ => True) (okp := fun _ => True) ?hr ?hp (fun _ hk => hk) trivial (Below.refl _ _) (Nat.le_refl _) (by simp) ?_; (case hd => rfl); (case hg => rfl); (case hr => first | (go_simp; done) | (go_simp; rfl)); (case hp => exact (Reps.c3 (show Kd.M k36 _ _ _ (⟨t102, t103, t104⟩ : Val) [.bool t102, .string t103, .int .i64 t104] from (k36_mkM _ _ _ (⟨t102, t103, t104⟩ : Val) )) (Reps.c3 (show Kd.M k36 _ _ _ (⟨t193, t194, t195⟩ : Val) [.bool t193, .string t194, .int .i64 t195] from (k36_mkM _ _ _ (⟨t193, t194, t195⟩ : Val) )) (Reps.c3 (show Kd.M k36 _ _ _ (⟨t196, t197, t198⟩ : Val) [.bool t196, .string t197, .int .i64 t198] from (k36_mkM _ _ _ (⟨t196, t197, t198⟩ : Val) )) (Reps.none _ _)))))
           intro v200 w127 ho128 hb hg_ hnew_
           clear hg_ hnew_
           (first | rw [← Ny199.out] at ho128 | (simp only [Int.reduceToNat] at ho128; rw [← Ny199.out] at ho128))
           replace HO_7 := am (Kd.N_elder' (by (with_reducible repeat (first | apply Kd.N_alloc | apply Kd.N_drewN | apply Kd.N_drew)); exact HO_7.out) (Kd.R_base ho128) hb)
           replace HO_103 := am (Rb_ HO_103.out hb)
           have HO201 := am (Kd.R_lower (Kd.R_newB (Kd.R_newM (M := fun k_ => (w.heap.size ≤ k_)) ho128 (below_size (pL HB.out)) (fun k_ h_ => h_)) (g := gb106) (o := .cells #[.bool t102, .string t103, .int .i64 t104] 36 (0, 0)) (pB BK106.out)) (below_size (pL HB.out)))
           replace BK105 := am (bb_ BK105.out hb)
           replace BK106 := am (bb_ BK106.out hb)
           replace HB := am (bs_ HB.out hb)
           clear hb ho128
           obtain ⟨Ao129, co129, eo129⟩ := Kd.R_slice HO201.out
           (first | subst eo129 | (injection eo129 with f1_ f2_ f3_; have f4_ := f1_.symm; have f5_ := f3_.symm; clear f1_ f2_ f3_; subst f4_; subst f5_))
           refine hK.out _ _ ⟨(blk_cell BK106.out 0).trans rfl, (blk_cell BK106.out 1).trans rfl, (blk_cell BK106.out 2).trans rfl⟩ (fun hHeld => ?_)
           clear hK K
           refine norm_ (a' := ?_) ?_ ?_
           rotate_left
           ·show Act.put _ (some 115) _ = _
            simp only [Act.put, sA, sZ, sS, i64_w, i32_w]
            rfl
           refine one_ (i := 7) (N := some 116) (bl 11 255) rfl rfl (one_of HT_.out (by kernel_rfl)) (by decide) (fun K hK => ?_)
           refine goes_ Tryz.func22 (by kernel_rfl) rfl #[.string (⟨#[102, 108, 111, 119]⟩ : ByteArray), .slice Ao129 y199.length co129] (by rfl) rfl rfl gl_ ?_
           with_reducible refine (facts_fact.calls (⟨#[102, 108, 111, 119]⟩ : ByteArray) (fun k_ => some k_ = (.slice Ao129 y199.length co129 : Value).ownBlock) _ _ y199 t202 t203 _ ?side1 A122.out).mono ?_
           (case side1 => exact Kd.R_V (Kd.R_tight rfl (Kd.R_types (Kd.R_apart' (Kd.R_apart' (HO201.out) (Kd.N_typed HO_7.out) (by decide)) (Kd.R_typed HO_103.out) (by decide)) BK105.out (by decide))))
           rintro e w130 ⟨v204, rfl, ho0, hb⟩
           refine ⟨_, rfl, ?_⟩
           have HO205 := am (Kd.V_lower (Kd.V_mono (ok' := fun k_ => (w.heap.size ≤ k_) ∧ some k_ ≠ (u7 : Value).ownBlock ∧ some k_ ≠ (.slice (some ad192) t134.length co53 : Value).ownBlock ∧ k_ ≠ gb105 ∧ k_ ≠ gb106) ho0 (fun k_ hk_ => ⟨Or.elim hk_ (fun hs_ => ((Kd.R_types (Kd.R_apart' (Kd.R_apart' (HO201.out) (Kd.N_typed HO_7.out) (by decide)) (Kd.R_typed HO_103.out) (by decide)) BK105.out (by decide)).1 k_ hs_.symm).1.1.1.1.1) (fun hn_ => (Nat.le_trans (below_size (pL HB.out)) hn_)), Or.elim hk_ (fun hs_ => ((Kd.R_types (Kd.R_apart' (Kd.R_apart' (HO201.out) (Kd.N_typed HO_7.out) (by decide)) (Kd.R_typed HO_103.out) (by decide)) BK105.out (by decide)).1 k_ hs_.symm).1.1.2) (fun hn_ => (Kd.fresh' (Kd.N_lt (by (with_reducible repeat (first | apply Kd.N_alloc | apply Kd.N_drewN | apply Kd.N_drew)); exact HO_7.out)) k_ hn_)), Or.elim hk_ (fun hs_ => ((Kd.R_types (Kd.R_apart' (Kd.R_apart' (HO201.out) (Kd.N_typed HO_7.out) (by decide)) (Kd.R_typed HO_103.out) (by decide)) BK105.out (by decide)).1 k_ hs_.symm).1.2) (fun hn_ => (Kd.fresh' (Kd.R_lt (pR HO_103.out)) k_ hn_)), Or.elim hk_ (fun hs_ => ((Kd.R_types (Kd.R_apart' (Kd.R_apart' (HO201.out) (Kd.N_typed HO_7.out) (by decide)) (Kd.R_typed HO_103.out) (by decide)) BK105.out (by decide)).1 k_ hs_.symm).2) (fun hn_ => (Kd.freshB (g := gb105) (pB BK105.out) k_ hn_)), Or.elim hk_ (fun hs_ => ((Kd.R_types (Kd.R_apart' (Kd.R_apart' (HO201.out) (Kd.N_typed HO_7.out) (by decide)) (Kd.R_typed HO_103.out) (by decide)) BK105.out (by decide)).1 k_ hs_.symm).1.1.1.2) (fun hn_ => (Kd.freshB (g := gb106) (pB BK106.out) k_ hn_))⟩)) (below_size (pL HB.out)))
           replace HO_7 := am (Kd.N_below (by (with_reducible repeat (first | apply Kd.N_alloc | apply Kd.N_drewN | apply Kd.N_drew)); exact HO_7.out) hb)
           replace HO_103 := am (Rb_ HO_103.out hb)
           replace HO201 := am (Rb_ HO201.out hb)
           replace BK105 := am (bb_ BK105.out hb)
           replace BK106 := am (bb_ BK106.out hb)
           replace HB := am (bs_ HB.out hb)
           (try clear hb)
           (try clear hb2)
           (try clear hk)
           (try clear hi)
           (try clear ho0)
           obtain ⟨Ao132, co132, eo132⟩ := Kd.V_slice HO205.out
           (first | subst eo132 | (injection eo132 with f1_ f2_ f3_; have f4_ := f1_.symm; have f5_ := f3_.symm; clear f1_ f2_ f3_; subst f4_; subst f5_))
           refine hK.out _ _ ⟨(blk_cell BK106.out 0).trans rfl, (blk_cell BK106.out 1).trans rfl, (blk_cell BK106.out 2).trans rfl⟩ (fun hHeld => ?_)
           clear hK K
           refine norm_ (a' := ?_) ?_ ?_
           rotate_left
           ·show Act.put _ (some 116) _ = _
            simp only [Act.put, sA, sZ, sS, i64_w, i32_w]
            rfl
           refine one_ (i := 8) (N := some 117) (bl 11 511) rfl rfl (one_of HT_.out (by kernel_rfl)) (by decide) (fun K hK => ?_)
           refine value_ (w1 := ?_) (v := ?_) (by rfl) rfl ?_ ?_
           rotate_left 2
           ·go_simp
            constructor
            ·rfl
            rfl
           refine hK.out _ _ ⟨(blk_cell (blk_alloc BK106.out _) 0).trans rfl, (blk_cell (blk_alloc BK106.out _) 1).trans rfl, (blk_cell (blk_alloc BK106.out _) 2).trans rfl⟩ (fun hHeld => ?_)
           clear hK K
           refine norm_ (a' := ?_) ?_ ?_
           rotate_left
           ·show Act.put _ (some 117) _ = _
            simp only [Act.put, sA, sZ, sS, i64_w, i32_w]
            rfl
           refine one_ (i := 9) (N := some 118) (bl 11 1023) rfl rfl (one_of HT_.out (by kernel_rfl)) (by decide) (fun K hK => ?_)
           refine Kd.N_append_step k26 (w0 := w) w.heap.size (by rfl) (.tmp 109) (.tmp 117) 23 26 (.agg #[(.string ⟨#[]⟩), (.slice none 0 0)]) 40 rfl Tryz.underlying23 info26 rfl (by decide) (by omega) u7 x7_5 (⟨t202, t203⟩ : Fact) [.string t202, .slice Ao132 t203.length co132] (fun k_ => (w.heap.size ≤ k_) ∧ some k_ ≠ (.slice (some ad192) t134.length co53 : Value).ownBlock ∧ k_ ≠ gb105 ∧ k_ ≠ gb106) (fun k_ => ((fun k_ => (w.heap.size ≤ k_) ∧ some k_ ≠ (.slice (some ad192) t134.length co53 : Value).ownBlock ∧ k_ ≠ gb105 ∧ k_ ≠ gb106)) k_ ∧ some k_ ≠ (u7 : Value).ownBlock) rfl rfl ?aP (fun _ hk => hk) ?aF ?aO ?aB ?aS ?aL ?_
           (case aP => exact (k26_mkF _ _ (⟨t202, t203⟩ : Fact) (Kd.V_reads' (Kd.V_mono (ok' := (fun k_ => ((fun k_ => (w.heap.size ≤ k_) ∧ some k_ ≠ (.slice (some ad192) t134.length co53 : Value).ownBlock ∧ k_ ≠ gb105 ∧ k_ ≠ gb106)) k_ ∧ some k_ ≠ (u7 : Value).ownBlock)) (HO205.out) (fun k_ hk => ⟨⟨hk.1, ⟨hk.2.2.1, ⟨hk.2.2.2.1, hk.2.2.2.2⟩⟩⟩, hk.2.1⟩))).2.1 (Kd.V_F (Kd.V_mono (ok' := (fun k_ => ((fun k_ => (w.heap.size ≤ k_) ∧ some k_ ≠ (.slice (some ad192) t134.length co53 : Value).ownBlock ∧ k_ ≠ gb105 ∧ k_ ≠ gb106)) k_ ∧ some k_ ≠ (u7 : Value).ownBlock)) (HO205.out) (fun k_ hk => ⟨⟨hk.1, ⟨hk.2.2.1, ⟨hk.2.2.2.1, hk.2.2.2.2⟩⟩⟩, hk.2.1⟩)))))
           (case aB => exact (pL HB.out))
           (case aF => exact (fun k_ hk => ⟨(Nat.le_trans (below_size (pL HB.out)) hk), Kd.fresh' (Kd.R_lt (pR HO_103.out)) k_ hk, Kd.freshB (g := gb105) (pB BK105.out) k_ hk, Kd.freshB (g := gb106) (pB BK106.out) k_ hk⟩))
           (case aO => exact (by (with_reducible repeat (first | apply Kd.N_alloc | apply Kd.N_drewN | apply Kd.N_drew)); exact Kd.N_mono HO_7.out (fun _ hk => ⟨hk.1.1, ⟨hk.1.2.1, ⟨hk.1.2.2.1, hk.1.2.2.2⟩⟩⟩)))
           (case aS => exact (below_size (pL HB.out)))
           (case aL => have := LMc123.out; omega)
           intro v207 w131 ho hb hg hat
           rw [← Ny206.out] at ho
           replace HO_103 := am (Kd.R_over' (pR HO_103.out) (Kd.N_typed (by (with_reducible repeat (first | apply Kd.N_alloc | apply Kd.N_drewN | apply Kd.N_drew)); exact HO_7.out)) (by decide) hg)
           replace BK105 := am (blk_grown (pB BK105.out) hg (Kd.N_ne HO_7.out BK105.out (by decide)))
           replace BK106 := am (blk_grown (pB BK106.out) hg (Kd.N_ne HO_7.out BK106.out (by decide)))
           replace HO201 := am (Kd.R_over' (pR HO201.out) (Kd.N_typed (by (with_reducible repeat (first | apply Kd.N_alloc | apply Kd.N_drewN | apply Kd.N_drew)); exact HO_7.out)) (by decide) hg)
           replace HO205 := am (Kd.V_afterv (ok := (fun k_ => (w.heap.size ≤ k_) ∧ some k_ ≠ (.slice (some ad192) t134.length co53 : Value).ownBlock ∧ k_ ≠ gb105 ∧ k_ ≠ gb106)) (by (with_reducible repeat (first | apply Va | apply Vn | apply Vd)); exact Kd.V_mono HO205.out (fun _ hk => ⟨⟨hk.1, ⟨hk.2.2.1, ⟨hk.2.2.2.1, hk.2.2.2.2⟩⟩⟩, hk.2.1⟩)) hg hat)
           replace HB := am (hb)
           have HO208 := am (ho)
           clear HO_7
           clear ho hb hg hat
           refine hK.out _ _ ⟨(blk_cell BK106.out 0).trans rfl, (blk_cell BK106.out 1).trans rfl, (blk_cell BK106.out 2).trans rfl⟩ (fun hHeld => ?_)
           clear hK K
           refine norm_ (a' := ?_) ?_ ?_
           rotate_left
           ·show Act.put _ (some 118) _ = _
            simp only [Act.put, sA, sZ, sS, i64_w, i32_w]
            rfl
           refine pu_ (i := 10) (N := some 7) (bl 11 2047) rfl rfl (any_of HT_.out (by kernel_rfl)) ?_
           refine done_ (done_of HT_.out (by kernel_rfl)) ?_
           try go_wp2
           go_roundg k5
           case measure => have := HK1.out; have := HK2.out; have := HJ87.out; have := HJ113.out; have := HK5.out; omega
           case rel => exact ⟨(y206), (wrap64 (x105_5 + 1)), rs_, H', ⟨by have := HK1.out; have := HK2.out; have := HJ87.out; have := HJ113.out; have := HK5.out; omega⟩, ⟨by (with_reducible repeat (first | apply Kd.N_alloc | apply Kd.N_drewN | apply Kd.N_drew)); exact HO208.out⟩, ⟨pR HO_103.out⟩, ⟨pB BK105.out⟩, ⟨pB BK106.out⟩, ⟨pL HB.out⟩⟩
end Go.Proofs.YtoekfmdcplphmaaGreat.H
/- a statement's facts, in plain words -/
namespace Go.Proofs.YtoekfmdcplphmaaGreat.H
open Go.RowKit Go.Proofs.YtoekfmdcplphmaaGreatW.PrintWords
abbrev noS : ByteArray := ⟨#[]⟩
abbrev numV (n : Int) : Val := ⟨false, noS, n⟩
abbrev symV (s : ByteArray) : Val := ⟨true, s, 0⟩
abbrev fNode (n : Int) : Fact := ⟨⟨#[110, 111, 100, 101]⟩, [numV n]⟩
abbrev fNext (n m : Int) : Fact := ⟨⟨#[110, 101, 120, 116]⟩, [numV n, numV m]⟩
abbrev fUse (n : Int) (y : ByteArray) : Fact := ⟨⟨#[117, 115, 101]⟩, [numV n, symV y]⟩
abbrev fSink (n : Int) (y : ByteArray) : Fact := ⟨⟨#[115, 105, 110, 107]⟩, [numV n, symV y]⟩
abbrev fDef (n : Int) (x : ByteArray) : Fact := ⟨⟨#[100, 101, 102]⟩, [numV n, symV x]⟩
abbrev fSource (n : Int) (x : ByteArray) : Fact := ⟨⟨#[115, 111, 117, 114, 99, 101]⟩, [numV n, symV x]⟩
abbrev fFlow (n : Int) (x y : ByteArray) : Fact := ⟨⟨#[102, 108, 111, 119]⟩, [numV n, symV x, symV y]⟩
def useF (st : Stmt) (n : Int) (y : ByteArray) : List Fact := fUse n y :: if st.kind = 6 then [fSink n y] else []
def defF (st : Stmt) (n : Int) (us : List ByteArray) : List Fact :=
  if (defN st).2 = true then fDef n (defN st).1 :: (if st.kind = 4 then [fSource n (defN st).1] else if st.kind = 2 ∨ st.kind = 3 then us.map (fFlow n (defN st).1) else []) else []
def oneL (s : List Stmt) (n : Int) : List Fact := fNode n :: (nxt s n).map (fNext n) ++ (usesS (at_ s n)).flatMap (useF (at_ s n) n) ++ defF (at_ s n) n (usesS (at_ s n))
theorem useF_len (st : Stmt) (n : Int) (y : ByteArray) : (useF st n y).length ≤ 2 := by unfold useF; split <;> simp
theorem one_l2 (n : Int) (x : ByteArray) (us : List ByteArray) (hl : us.length ≤ 1000) : ∀ (r : List ByteArray) (i : Nat) (acc : List Fact), us.drop i = r → acc.length + r.length ≤ 10000 →
    Ev (fun k => facts_one.l2 k acc x us (us.length : Int) i false noS n) (acc ++ r.map (fFlow n x))
  | [], i, acc, h, ha => by
    refine Ev.step (fun k => by rw [facts_one.l2]) ?_
    refine Ev.neg (drop_end h) ?_
    exact Ev.some (by simp)
  | y :: r, i, acc, h, ha => by
    obtain ⟨g1, g2, g3, g4, g5⟩ := drop_more h (by omega)
    refine Ev.step (fun k => by rw [facts_one.l2]) ?_
    refine Ev.pos g1 ?_
    refine Ev.pos g2 ?_
    refine Ev.pos g1 ?_
    rw [show rdOf ByteArray.empty us i = y from g3 _, g5]
    refine Ev.pure rfl ?_
    refine Ev.pure rfl ?_
    refine Ev.pure rfl ?_
    refine Ev.pos (by simp at ha ⊢; omega) ?_
    refine Ev.iff (one_l2 n x us hl r (i + 1) (acc ++ [fFlow n x y]) g4 (by simp at ha ⊢; omega)) (by simp)
theorem one_j4 (n : Int) (x : ByteArray) (us : List ByteArray) (hl : us.length ≤ 1000) (acc : List Fact) (ha : acc.length ≤ 5000) (b : Bool) : Ev (fun k => facts_one.j4 k acc us x b false noS n) (acc ++ if b = true then us.map (fFlow n x) else []) := by
  refine Ev.step (fun k => by rw [facts_one.j4]) ?_
  by_cases hb : b = true
  · rw [if_pos hb]
    exact Ev.pos hb (one_l2 n x us hl us 0 acc rfl (by omega))
  · rw [if_neg hb]
    exact Ev.neg hb (Ev.some (by simp))
theorem one_j3 (n : Int) (x : ByteArray) (us : List ByteArray) (hl : us.length ≤ 1000) (acc : List Fact) (ha : acc.length ≤ 5000) (kd : Int) : Ev (fun k => facts_one.j3 k acc us x kd false noS n) (acc ++ if kd = 4 then [fSource n x] else if kd = 2 ∨ kd = 3 then us.map (fFlow n x) else []) := by
  refine Ev.step (fun k => by rw [facts_one.j3]) ?_
  by_cases k4 : kd = 4
  · rw [if_pos k4]
    refine Ev.pos k4 ?_
    refine Ev.pure rfl ?_
    refine Ev.pure rfl ?_
    refine Ev.pos (by omega) ?_
    exact Ev.some (by simp)
  · rw [if_neg k4]
    refine Ev.neg k4 ?_
    by_cases k2 : kd = 2
    · refine Ev.pos k2 (Ev.iff (one_j4 n x us hl acc ha (kd == 2)) ?_)
      simp [k2]
    · refine Ev.neg k2 (Ev.iff (one_j4 n x us hl acc ha (kd == 3)) ?_)
      by_cases k3 : kd = 3
      · simp [k3]
      · simp [k2, k3]
theorem one_def (st : Stmt) (n : Int) (us : List ByteArray) (hl : us.length ≤ 1000) (acc : List Fact) (ha : acc.length ≤ 4999) {g : Nat → Option (List Fact)}
    (hg : ∀ k, g k = ((cfg_Def.f st.kind st.x st.y st.z st.op st.n st.a st.b).bind fun bt164 => (if bt164.2 = true then ((value_Sym.f bt164.1).bind fun bt166 => ((facts_fact.f (⟨#[100, 101, 102]⟩ : ByteArray) (([(⟨false, noS, n⟩ : Val), (⟨bt166.1, bt166.2.1, bt166.2.2⟩ : Val)] : List (Val)))).bind fun bt172 => (if acc.length < 3518437208883 then (facts_one.j3 k (acc ++ [(⟨bt172.1, bt172.2⟩ : Fact)]) us bt164.1 st.kind false noS n) else (none)))) else (some acc)))) :
    Ev g (acc ++ defF st n us) := by
  have e : g = _ := funext hg
  rw [e]
  clear e hg
  refine Ev.pure (Def_eq st) ?_
  unfold defF
  by_cases hd : (defN st).2 = true
  · rw [if_pos hd]
    refine Ev.pos hd ?_
    refine Ev.pure rfl ?_
    refine Ev.pure rfl ?_
    refine Ev.pos (by omega) ?_
    exact Ev.iff (one_j3 n (defN st).1 us hl (acc ++ [fDef n (defN st).1]) (by simp; omega) st.kind) (by simp)
  · rw [if_neg hd]
    refine Ev.neg hd ?_
    exact Ev.some (by simp)
theorem one_l1 (st : Stmt) (n : Int) (us : List ByteArray) (hl : us.length ≤ 1000) : ∀ (r : List ByteArray) (i : Nat) (acc : List Fact), us.drop i = r → acc.length + 2 * r.length ≤ 4000 →
    Ev (fun k => facts_one.l1 k acc us us (us.length : Int) i st.kind st.x st.y st.z st.op st.n st.a st.b false noS n) (acc ++ r.flatMap (useF st n) ++ defF st n us)
  | [], i, acc, h, ha => by
    refine Ev.step (fun k => by rw [facts_one.l1]) ?_
    refine Ev.neg (drop_end h) ?_
    refine Ev.iff (one_def st n us hl acc (by omega) (fun k => rfl)) (by simp)
  | y :: r, i, acc, h, ha => by
    obtain ⟨g1, g2, g3, g4, g5⟩ := drop_more h (by omega)
    refine Ev.step (fun k => by rw [facts_one.l1]) ?_
    refine Ev.pos g1 ?_
    refine Ev.pos g2 ?_
    refine Ev.pos g1 ?_
    rw [show rdOf ByteArray.empty us i = y from g3 _]
    refine Ev.pure rfl ?_
    refine Ev.pure rfl ?_
    refine Ev.pos (by simp at ha ⊢; omega) ?_
    refine Ev.step (fun k => by rw [facts_one.j2]) ?_
    rw [g5]
    by_cases k6 : st.kind = 6
    · refine Ev.pos (by simp [k6]) ?_
      refine Ev.pure rfl ?_
      refine Ev.pure rfl ?_
      refine Ev.pos (by simp at ha ⊢; omega) ?_
      refine Ev.iff (one_l1 st n us hl r (i + 1) ((acc ++ [fUse n y]) ++ [fSink n y]) g4 (by simp at ha ⊢; omega)) (by simp [useF, k6])
    · refine Ev.neg (by simpa using k6) ?_
      refine Ev.iff (one_l1 st n us hl r (i + 1) (acc ++ [fUse n y]) g4 (by simp at ha ⊢; omega)) (by simp [useF, k6])
theorem one_l0 (st : Stmt) (n : Int) (tos : List Int) (hl : tos.length ≤ 1000) : ∀ (r : List Int) (i : Nat) (acc : List Fact), tos.drop i = r → acc.length + r.length ≤ 2000 →
    Ev (fun k => facts_one.l0 k acc tos (tos.length : Int) i st.kind st.x st.y st.z st.op st.n st.a st.b false noS n) (acc ++ r.map (fNext n) ++ (usesS st).flatMap (useF st n) ++ defF st n (usesS st))
  | [], i, acc, h, ha => by
    refine Ev.step (fun k => by rw [facts_one.l0]) ?_
    refine Ev.neg (drop_end h) ?_
    refine Ev.pure (Uses_eq st) ?_
    have := usesS_len st
    refine Ev.iff (one_l1 st n (usesS st) (by omega) (usesS st) 0 acc rfl (by simp at ha; omega)) (by simp)
  | y :: r, i, acc, h, ha => by
    obtain ⟨g1, g2, g3, g4, g5⟩ := drop_more h (by omega)
    refine Ev.step (fun k => by rw [facts_one.l0]) ?_
    refine Ev.pos g1 ?_
    refine Ev.pos g2 ?_
    refine Ev.pos g1 ?_
    rw [show rd tos i = y from g3 _, g5]
    refine Ev.pure rfl ?_
    refine Ev.pure rfl ?_
    refine Ev.pos (by simp at ha ⊢; omega) ?_
    refine Ev.iff (one_l0 st n tos hl r (i + 1) (acc ++ [fNext n y]) g4 (by simp at ha ⊢; omega)) (by simp)
theorem one_ev (s : List Stmt) (n : Int) (h0 : 0 ≤ n) (h1 : n < (s.length : Int)) : Ev (fun k => facts_one.f k s n) (oneL s n) := by
  unfold facts_one.f oneL
  refine Ev.pos h0 ?_
  refine Ev.pos h1 ?_
  refine Ev.pure rfl ?_
  refine Ev.pure rfl ?_
  refine Ev.pure (Next_eq s n) ?_
  have := nxt_len s n
  exact Ev.iff (one_l0 (at_ s n) n (nxt s n) (by omega) (nxt s n) 0 [fNode n] rfl (by simp; omega)) (by simp)
theorem oneL_len (s : List Stmt) (n : Int) : (oneL s n).length ≤ 20 := by
  have h1 := nxt_len s n
  have h2 := usesS_len (at_ s n)
  have h3 : ((usesS (at_ s n)).flatMap (useF (at_ s n) n)).length ≤ 4 := by
    have : ∀ l : List ByteArray, (l.flatMap (useF (at_ s n) n)).length ≤ 2 * l.length := by
      intro l
      induction l with
      | nil => simp
      | cons a l ih => rw [List.flatMap_cons, List.length_append, List.length_cons]; have := useF_len (at_ s n) n a; omega
    have := this (usesS (at_ s n))
    omega
  have h4 : (defF (at_ s n) n (usesS (at_ s n))).length ≤ 3 := by
    unfold defF
    repeat' split
    all_goals simp
    omega
  unfold oneL
  simp only [List.length_append, List.length_cons, List.length_map]
  omega
end Go.Proofs.YtoekfmdcplphmaaGreat.H
namespace Go.Proofs.YtoekfmdcplphmaaGreat.H
open Go.RowKit Go.Proofs.YtoekfmdcplphmaaGreatW.PrintWords Go.Proofs.YtoekfmdcplphmaaGreatW.PrintLast Go.Proofs.YtoekfmdcplphmaaGreatW.PrintMore
attribute [local go_sem] max2_int min2_int max_two min_two max_three min_three max_four min_four
def tuple_bare.f (a0_0 : Bool) (a0_1 : ByteArray) (a0_2 : Int) : Option (Bool × ByteArray × Int) := if a0_0 = true then ((value_Sym.f a0_1).bind fun bt103 => (some (bt103.1, bt103.2.1, bt103.2.2))) else ((value_Int.f a0_2).bind fun bt106 => (some (bt106.1, bt106.2.1, bt106.2.2)))
set_option maxHeartbeats 8000000 in
set_option maxRecDepth 100000 in
theorem tuple_bare.calls (a0_0 : Bool) (a0_1 : ByteArray) (a0_2 : Int) (r1 : Bool) (r2 : ByteArray) (r3 : Int) (w : World) (h : tuple_bare.f a0_0 a0_1 a0_2 = some (r1, r2, r3)) :
  Calls Tryz.prog 50 #[.agg #[.bool a0_0, .string a0_1, .int .i64 a0_2]] w fun e w' => e = .returned (.agg #[.bool r1, .string r2, .int .i64 r3]) ∧ Below w.heap.size w w' := by
 have hu36 := Tryz.underlying36
 have HB := am (Below.refl w.heap.size w)
 have H : (if a0_0 = true then ((value_Sym.f a0_1).bind fun bt103 => (some (bt103.1, bt103.2.1, bt103.2.2))) else ((value_Int.f a0_2).bind fun bt106 => (some (bt106.1, bt106.2.1, bt106.2.2)))) = some (r1, r2, r3) := h
 clear h
 by_cases c2 : a0_0 = true
 ·subst c2
  have H1 : ((value_Sym.f a0_1).bind fun bt103 => (some (bt103.1, bt103.2.1, bt103.2.2))) = some (r1, r2, r3) := by rw [if_pos rfl] at H; exact H
  clear H
  have H := H1
  clear H1
  replace H := Option.bind_eq_some_iff.mp H
  obtain ⟨⟨t103, t104, t105⟩, A30, H⟩ := H
  replace H : (some (t103, t104, t105)) = some (r1, r2, r3) := H
  have A3 := am A30
  clear A30
  simp only [Option.some.injEq, Prod.mk.injEq] at H
  obtain ⟨rfl, rfl, rfl⟩ := H
  go_enter Tryz.func50, Tryz.ntmps50
  go_wp2_with (first | ((with_reducible refine gate_dst (N := 1) rfl ?_); refine box_event ?hg (N := 1) ?hd (cs := #[.bool true, .string a0_1, .int .i64 a0_2]) (t := 36) ?hr ?_; (case hd => rfl); (case hg => rfl); (case hr => first | (go_simp; done) | (go_simp; rfl)); intro gb101 hg w4 hbox hb; have BK101 := am (hbox); have GW101 := am (gw_ hg HB.out); have GE101 := GW101; replace HB := am (bs_ HB.out hb); clear hb hbox hg) | ((with_reducible refine gate_dst (N := 2) rfl ?_); refine box_event ?hg (N := 2) ?hd (cs := #[.bool false, .string (⟨#[]⟩ : ByteArray), .int .i64 0]) (t := 36) ?hr ?_; (case hd => rfl); (case hg => rfl); (case hr => first | (go_simp; done) | (go_simp; rfl)); intro gb102 hg w5 hbox hb; have BK102 := am (hbox); have GW102 := am (gw_ hg HB.out); have GE102 := GW102; replace HB := am (bs_ HB.out hb); have NB101_102 := am (nb_ hg BK101.out); have NB102_101 := am NB101_102.out.symm; replace BK101 := am (bb_ BK101.out hb); clear hb hbox hg; have hnb6 := NB101_102.out; have hnc6 := NB102_101.out; obtain ⟨hcz7_0, hcz7_1, hcz7_2, hfz7_0, hfz7_1, hfz7_2⟩ := bc3 BK101.out) | ((with_reducible refine gate_callee (f := 30) rfl ?_); refine goesL_ (some 7) rfl rfl Tryz.func30 (by kernel_rfl) rfl #[.string a0_1] rfl gl_ ?_; (with_reducible refine (value_Sym.calls a0_1 t103 t104 t105 _ A3.out).mono ?_); rintro e w8 ⟨rfl, hb⟩; refine ⟨_, rfl, ?_⟩; replace BK101 := am (bb_ BK101.out hb); replace BK102 := am (bb_ BK102.out hb); replace HB := am (bs_ HB.out hb); (try clear hb); (try clear hb2); (try clear hk); (try clear hi); obtain ⟨hcz9_0, hcz9_1, hcz9_2, hfz9_0, hfz9_1, hfz9_2⟩ := bc3 BK102.out))
  refine bodyPost_ret (results_cell_row rfl _ _ gb102 36 #[.bool t103, .string t104, .int .i64 t105] (0, 0) _ rfl (by (with_reducible repeat (first | refine bN ?_ _ | refine bD ?_ | refine bA ?_ _)); exact bq3 BK102.out) Tryz.underlying36 rfl (by kernel_rfl)) rfl ?_
  exact ⟨er_, pL HB.out⟩
 replace c2 := Bool.eq_false_iff.mpr c2
 subst c2
 have H1 : ((value_Int.f a0_2).bind fun bt106 => (some (bt106.1, bt106.2.1, bt106.2.2))) = some (r1, r2, r3) := by rw [if_neg (show ¬ (false = true) by decide)] at H; exact H
 clear H
 have H := H1
 clear H1
 replace H := Option.bind_eq_some_iff.mp H
 obtain ⟨⟨t106, t107, t108⟩, A100, H⟩ := H
 replace H : (some (t106, t107, t108)) = some (r1, r2, r3) := H
 have A10 := am A100
 clear A100
 simp only [Option.some.injEq, Prod.mk.injEq] at H
 obtain ⟨rfl, rfl, rfl⟩ := H
 go_enter Tryz.func50, Tryz.ntmps50
 go_wp2_with (first | ((with_reducible refine gate_dst (N := 1) rfl ?_); refine box_event ?hg (N := 1) ?hd (cs := #[.bool false, .string a0_1, .int .i64 a0_2]) (t := 36) ?hr ?_; (case hd => rfl); (case hg => rfl); (case hr => first | (go_simp; done) | (go_simp; rfl)); intro gb101 hg w11 hbox hb; have BK101 := am (hbox); have GW101 := am (gw_ hg HB.out); have GE101 := GW101; replace HB := am (bs_ HB.out hb); clear hb hbox hg) | ((with_reducible refine gate_dst (N := 2) rfl ?_); refine box_event ?hg (N := 2) ?hd (cs := #[.bool false, .string (⟨#[]⟩ : ByteArray), .int .i64 0]) (t := 36) ?hr ?_; (case hd => rfl); (case hg => rfl); (case hr => first | (go_simp; done) | (go_simp; rfl)); intro gb102 hg w12 hbox hb; have BK102 := am (hbox); have GW102 := am (gw_ hg HB.out); have GE102 := GW102; replace HB := am (bs_ HB.out hb); have NB101_102 := am (nb_ hg BK101.out); have NB102_101 := am NB101_102.out.symm; replace BK101 := am (bb_ BK101.out hb); clear hb hbox hg; have hnb13 := NB101_102.out; have hnc13 := NB102_101.out; obtain ⟨hcz14_0, hcz14_1, hcz14_2, hfz14_0, hfz14_1, hfz14_2⟩ := bc3 BK101.out) | ((with_reducible refine gate_callee (f := 27) rfl ?_); refine goesL_ (some 10) rfl rfl Tryz.func27 (by kernel_rfl) rfl #[.int .i64 a0_2] rfl gl_ ?_; (with_reducible refine (value_Int.calls a0_2 t106 t107 t108 _ A10.out).mono ?_); rintro e w15 ⟨rfl, hb⟩; refine ⟨_, rfl, ?_⟩; replace BK101 := am (bb_ BK101.out hb); replace BK102 := am (bb_ BK102.out hb); replace HB := am (bs_ HB.out hb); (try clear hb); (try clear hb2); (try clear hk); (try clear hi); obtain ⟨hcz16_0, hcz16_1, hcz16_2, hfz16_0, hfz16_1, hfz16_2⟩ := bc3 BK102.out))
 refine bodyPost_ret (results_cell_row rfl _ _ gb102 36 #[.bool t106, .string t107, .int .i64 t108] (0, 0) _ rfl (by (with_reducible repeat (first | refine bN ?_ _ | refine bD ?_ | refine bA ?_ _)); exact bq3 BK102.out) Tryz.underlying36 rfl (by kernel_rfl)) rfl ?_
 exact ⟨er_, pL HB.out⟩
def tuple_Of.l0 : Nat → List (Val) → List (Val) → Int → Int → Option ((List (Val)))
 | 0, _, _, _, _ => none
 | k + 1, x3, x6, x7, x8 => if x8 < x7 then (if 0 ≤ x8 then (if x8 < (x6.length : Int) then ((tuple_bare.f ((rd_T36 x6 x8).isSym) ((rd_T36 x6 x8).sym) ((rd_T36 x6 x8).n)).bind fun bt103 => (if x3.length < 4398046511104 then (tuple_Of.l0 k (x3 ++ [(⟨bt103.1, bt103.2.1, bt103.2.2⟩ : Val)]) x6 x7 (wrap64 (x8 + 1))) else (none))) else (none)) else (none)) else (some x3)
def tuple_Of.f (k : Nat) (l0 : List (Val)) : Option ((List (Val))) := tuple_Of.l0 k ([] : List (Val)) l0 (l0.length : Int) 0
theorem tuple_Of.mono_l : ∀ k, (∀ y0 y1 y2 y3, LeO (tuple_Of.l0 k y0 y1 y2 y3) (tuple_Of.l0 (k + 1) y0 y1 y2 y3))
 | 0 => fun _ _ _ _ r h => by simp [tuple_Of.l0] at h
 | k + 1 => by
  have ih0 := tuple_Of.mono_l k
  intro y0 y1 y2 y3
  unfold tuple_Of.l0
  repeat' first
  | (with_reducible exact ih0 _ _ _ _)
  | (with_reducible exact LeO.refl _)
  | (with_reducible exact LeO.none _)
  | (with_reducible refine LeO.ite ?_ ?_)
  | (with_reducible refine LeO.bind ?_ (fun _ => ?_))
  | exact ih0 _ _ _ _
  | exact LeO.none _
  | refine LeO.ite ?_ ?_
  | refine LeO.bind ?_ (fun _ => ?_)
theorem tuple_Of.mono : ∀ a0 k, LeO (tuple_Of.f k a0) (tuple_Of.f (k + 1) a0) := by
 intro a0 k
 have ih0 := tuple_Of.mono_l k
 unfold tuple_Of.f
 repeat' first
   | (with_reducible exact ih0 _ _ _ _)
   | (with_reducible exact LeO.refl _)
   | (with_reducible exact LeO.none _)
   | (with_reducible refine LeO.ite ?_ ?_)
   | (with_reducible refine LeO.bind ?_ (fun _ => ?_))
   | exact ih0 _ _ _ _
   | exact LeO.none _
   | refine LeO.ite ?_ ?_
   | refine LeO.bind ?_ (fun _ => ?_)
set_option maxHeartbeats 8000000 in
set_option maxRecDepth 100000 in
theorem tuple_Of.calls (k : Nat) (A0 : Option Addr) (c0 : Nat) (l0 : List (Val)) (r : List (Val)) (w : World) (hr0 : Kd.C k36 w A0 l0.length l0) (hc0 : l0.length ≤ c0) (h : tuple_Of.f k l0 = some r) :
  Calls Tryz.prog 32 #[.slice A0 l0.length c0] w fun e w' => ∃ v0_ : Value, e = .returned (v0_) ∧ Kd.R k36 36 w' w.heap.size (fun _ => True) v0_ r ∧ Below w.heap.size w w' := by
 have hu36 := Tryz.underlying36
 have HR0 := am hr0
 have HC0 := am hc0
 clear hr0 hc0
 have HB := am (Below.refl w.heap.size w)
 have H : (tuple_Of.l0 k ([] : List (Val)) l0 (l0.length : Int) 0) = some r := h
 clear h
 have H' := am H
 clear H
 go_enter Tryz.func32, Tryz.ntmps32
 go_wp2
 go_loopg [3, 8] k (fun kq v3 v8 w' => ∃ (x3_1 : List (Val)) (x8_1 : Int), v8 = .int .i64 x8_1 ∧ Aside0 (tuple_Of.l0 kq x3_1 l0 (l0.length : Int) x8_1 = some r) ∧ Aside0 (kq ≤ k) ∧ Aside0 (Kd.R k36 36 w' w.heap.size (fun _ => True) v3 x3_1) ∧ Aside0 (Below w.heap.size w w'))
 case atStart => exact ⟨(([] : List (Val))), (0), rs_, H', ⟨Nat.le_refl _⟩, ⟨by first | exact Kd.R_nil _ _ _ _ _ | exact Kd.N_nil _ _ _ _ _ | exact Kd.V_nil _ _ _ _ _ | exact Kd.Q_nil _ _ _ _ _ | exact Kd.S_nil _ _ _ _ _⟩, ⟨pL HB.out⟩⟩
 case round =>
  clear H'
  obtain ⟨x3_1, x8_1, rfl, HA, HK1, HO_3, HB⟩ := hrel
  cases gk with
  | zero => exact absurd HA.out (by simp [tuple_Of.l0])
  | succ k1 =>
   have H := HA.out
   clear HA
   simp only [tuple_Of.l0] at H
   by_cases c2 : x8_1 < (l0.length : Int)
   rotate_left
   ·rw [if_neg c2] at H
    have c2b0 : decide (x8_1 < (l0.length : Int)) = false := decide_eq_false c2
    clear c2
    obtain rfl := Option.some.inj H
    go_wp2
    go_ret
    exact ⟨_, er_, by (with_reducible repeat (first | apply Ra | apply Rn | apply Rd)); exact HO_3.out, pL HB.out⟩
   rw [if_pos c2] at H
   have c2b0 : decide (x8_1 < (l0.length : Int)) = true := decide_eq_true c2
   clear c2
   by_cases c3 : 0 ≤ x8_1
   rotate_left
   ·rw [if_neg c3] at H
    exact absurd H (by simp)
   rw [if_pos c3] at H
   have c3b0 : decide (0 ≤ x8_1) = true := decide_eq_true c3
   clear c3
   by_cases c4 : x8_1 < (l0.length : Int)
   rotate_left
   ·rw [if_neg c4] at H
    exact absurd H (by simp)
   rw [if_pos c4] at H
   have c4b0 : decide (x8_1 < (l0.length : Int)) = true := decide_eq_true c4
   clear c4
   replace H := Option.bind_eq_some_iff.mp H
   obtain ⟨⟨t103, t104, t105⟩, A50, H⟩ := H
   replace H : (if x3_1.length < 4398046511104 then (tuple_Of.l0 k1 (x3_1 ++ [(⟨t103, t104, t105⟩ : Val)]) l0 (l0.length : Int) (wrap64 (x8_1 + 1))) else (none)) = some r := H
   have A5 := am A50
   clear A50
   by_cases c6 : x3_1.length < 4398046511104
   ·rw [if_pos c6] at H
    have LMc6 := am c6
    clear c6
    obtain ⟨y106, hy106⟩ : ∃ y_ : List (Val), y_ = (x3_1 ++ [(⟨t103, t104, t105⟩ : Val)]) := ⟨_, rfl⟩
    replace H : (tuple_Of.l0 k1 y106 l0 (l0.length : Int) (wrap64 (x8_1 + 1))) = some r := by first | (rw [hy106]; with_reducible exact H) | (have H2_ := (Option.bind_some _ _).symm.trans H; rw [hy106]; with_reducible exact H2_) | (have H2_ := (Option.bind_some _ _).symm.trans H; with_reducible exact H2_) | with_reducible exact H | (rw [hy106]; exact H) | exact H
    have Ny106 := am hy106
    clear hy106
    have H' := am H
    clear H
    have p101 : 0 ≤ (x8_1 : Int) := dt_
    have q101 : x8_1 < (l0.length : Int) := dt_
    obtain ⟨ad101, e101, hx101_0, hx101_1, hx101_2⟩ := at_T36 HR0.out x8_1 p101 q101
    cases e101
    replace hx101_0 := up_ HB.out hx101_0
    replace hx101_1 := up_ HB.out hx101_1
    replace hx101_2 := up_ HB.out hx101_2
    replace p101 := eq_true p101
    replace q101 := eq_true q101
    go_wp2_with (first | ((with_reducible refine gate_dst (N := 5) rfl ?_); refine box_event ?hg (N := 5) ?hd (cs := #[.bool false, .string (⟨#[]⟩ : ByteArray), .int .i64 0]) (t := 36) ?hr ?_; (case hd => rfl); (case hg => rfl); (case hr => first | (go_simp; done) | (go_simp; rfl)); intro gb102 hg w7 hbox hb; replace HO_3 := am (Kd.R_below (Kd.R_elderB (pR HO_3.out) gb102 (Nat.le_of_eq hg.symm)) hb); have BK102 := am (hbox); have GW102 := am (gw_ hg HB.out); have GE102 := GW102; replace HB := am (bs_ HB.out hb); clear hb hbox hg; obtain ⟨hcz8_0, hcz8_1, hcz8_2, hfz8_0, hfz8_1, hfz8_2⟩ := bc3 BK102.out) | ((with_reducible refine gate_callee (f := 50) rfl ?_); refine goesL_ (some 14) rfl rfl Tryz.func50 (by kernel_rfl) rfl #[.agg #[.bool ((rd_T36 l0 x8_1).isSym), .string ((rd_T36 l0 x8_1).sym), .int .i64 ((rd_T36 l0 x8_1).n)]] rfl gl_ ?_; (with_reducible refine (tuple_bare.calls ((rd_T36 l0 x8_1).isSym) ((rd_T36 l0 x8_1).sym) ((rd_T36 l0 x8_1).n) t103 t104 t105 _ A5.out).mono ?_); rintro e w9 ⟨rfl, hb⟩; refine ⟨_, rfl, ?_⟩; replace HO_3 := am (Kd.R_below (by (with_reducible repeat (first | apply Ra | apply Rn | apply Rd)); exact (Kd.R_mono (Kd.R_far (p := ⟨gb102, 2, none⟩) (Kd.R_far (p := ⟨gb102, 1, none⟩) (Kd.R_far (p := ⟨gb102, 0, none⟩) (Kd.R_mono HO_3.out (fun k_ hk => (⟨hk, hk.2⟩ : _ ∧ k_ ≠ gb102))) (fun _ hk => hk.2) _) (fun _ hk => hk.2) _) (fun _ hk => hk.2) _) (fun _ h_ => h_.1))) hb); replace BK102 := am (blk_below (g := gb102) (o := .cells #[.bool ((rd_T36 l0 x8_1).isSym), .string ((rd_T36 l0 x8_1).sym), .int .i64 ((rd_T36 l0 x8_1).n)] 36 (0, 0)) (by (with_reducible repeat (first | refine bN ?_ _ | refine bD ?_ | refine bA ?_ _)); exact bq3 BK102.out) hb); replace HB := am (bs_ HB.out hb); (try clear hb); (try clear hb2); (try clear hk); (try clear hi)) | ((with_reducible refine gate_builtin (b := .append) (xs := #[.tmp 12, .tmp 15]) rfl ?_); at_builtin; refine Kd.R_append k36 (w0 := w) w.heap.size rfl (.tmp 12) (.tmp 15) 24 36 (.agg #[(.bool false), (.string ⟨#[]⟩), (.int .i64 0)]) 32 rfl Tryz.underlying24 info36 rfl (by decide) (by omega) u3 x3_1 (⟨t103, t104, t105⟩ : Val) [.bool t103, .string t104, .int .i64 t105] (fun k_ => k_ ≠ gb102) (fun _ => False) rfl rfl ?aP (fun _ hk => hk.elim) ?aF ?aO ?aB ?aS ?aL ?_; (case aP => exact k36_mkM _ _ _ (⟨t103, t104, t105⟩ : Val)); (case aB => exact (pL HB.out)); (case aF => exact (fun k_ hk => Kd.freshB (g := gb102) (pB BK102.out) k_ hk)); (case aO => exact (by (with_reducible repeat (first | apply Ra | apply Rn | apply Rd)); exact Kd.R_mono HO_3.out (fun _ hk => hk.2))); (case aS => exact (below_size (pL HB.out))); (case aL => have := LMc6.out; omega); intro v107 w10 ho hb hg hat; rw [← Ny106.out] at ho; replace BK102 := am (blk_grown (pB BK102.out) hg (Kd.R_away HO_3.out (fun _ hk => hk.2))); replace HB := am (hb); have HO108 := am (ho); clear HO_3; clear ho hb hg hat))
    go_roundg k1
    case measure => have := HK1.out; omega
    case rel => exact ⟨(y106), (wrap64 (x8_1 + 1)), rs_, H', ⟨by have := HK1.out; omega⟩, ⟨by (with_reducible repeat (first | apply Ra | apply Rn | apply Rd)); exact Kd.R_mono HO108.out (fun _ hk => trivial)⟩, ⟨pL HB.out⟩⟩
   rw [if_neg c6] at H
   exact absurd H (by simp)
end Go.Proofs.YtoekfmdcplphmaaGreat.H
namespace Go.Proofs.YtoekfmdcplphmaaGreat.H
open Go.RowKit Go.Proofs.YtoekfmdcplphmaaGreatW.PrintWords Go.Proofs.YtoekfmdcplphmaaGreatW.PrintLast Go.Proofs.YtoekfmdcplphmaaGreatW.PrintMore
/-- A kind of elements whose cells are told by the element alone (no rows inside). -/
structure Flat {α : Type} (d : Kd α) (c : α → List Value) : Prop where
  M : ∀ {w base ok x cs}, d.M w base ok x cs ↔ cs = c x
  K : ∀ {w x cs}, d.K w x cs ↔ cs = c x
  len : ∀ x, (c x).length = d.sz
  one : ∀ x, ∀ u ∈ c x, u.oneCell' = true
  pos : 0 < d.sz
section
variable {α : Type} {d : Kd α} {c : α → List Value}
theorem Flat.flen (F : Flat d c) : ∀ xs : List α, (xs.flatMap c).length = xs.length * d.sz
  | [] => by simp
  | x :: xs => by rw [List.flatMap_cons, List.length_append, F.len, F.flen xs, List.length_cons, Nat.succ_mul, Nat.add_comm]
theorem Flat.fone (F : Flat d c) (xs : List α) : ∀ u ∈ xs.flatMap c, u.oneCell' = true := fun u hu => by
  obtain ⟨x, _, hx⟩ := List.mem_flatMap.1 hu
  exact F.one x u hx
theorem Flat.fdrop (F : Flat d c) : ∀ (xs : List α) (i : Nat), (xs.flatMap c).drop (i * d.sz) = (xs.drop i).flatMap c
  | xs, 0 => by simp
  | [], i + 1 => by simp
  | x :: xs, i + 1 => by
    rw [List.flatMap_cons, List.drop_append, F.len, List.drop_eq_nil_of_le (by rw [F.len, Nat.succ_mul]; omega), List.nil_append, List.drop_succ_cons, ← F.fdrop xs i]
    congr 1
    rw [Nat.succ_mul]; omega
theorem Flat.ftake (F : Flat d c) : ∀ (xs : List α) (i : Nat), (xs.flatMap c).take (i * d.sz) = (xs.take i).flatMap c
  | xs, 0 => by simp
  | [], i + 1 => by simp
  | x :: xs, i + 1 => by
    rw [List.flatMap_cons, List.take_append, F.len, List.take_of_length_le (by rw [F.len, Nat.succ_mul]; omega), List.take_succ_cons, List.flatMap_cons, ← F.ftake xs i]
    congr 2
    rw [Nat.succ_mul]; omega
theorem Flat.fget (F : Flat d c) {xs : List α} {i : Nat} {x : α} (h : xs[i]? = some x) : ((xs.flatMap c).drop (i * d.sz)).take d.sz = c x := by
  rw [F.fdrop, drop_cons h, List.flatMap_cons, List.take_append_of_le_length (by rw [F.len]; exact Nat.le_refl _), List.take_of_length_le (by rw [F.len]; exact Nat.le_refl _)]
theorem Flat.reps (F : Flat d c) {R : α → List Value → Prop} (hR : ∀ x cs, R x cs ↔ cs = c x) : ∀ {xs : List α} {inner : List Value}, Reps R d.sz xs inner ↔ inner = xs.flatMap c := by
  intro xs inner
  constructor
  · intro h
    apply List.ext_getElem?
    intro q
    by_cases hq : q < xs.length * d.sz
    · have hi : q / d.sz < xs.length := (Nat.div_lt_iff_lt_mul F.pos).2 hq
      have h1 := (hR _ _).1 (h.2 (q / d.sz) _ (List.getElem?_eq_getElem hi))
      have h2 := F.fget (List.getElem?_eq_getElem hi)
      have e : ∀ l : List Value, ((l.drop (q / d.sz * d.sz)).take d.sz)[q % d.sz]? = l[q]? := fun l => by
        rw [List.getElem?_take, if_pos (Nat.mod_lt _ F.pos), List.getElem?_drop, Nat.mul_comm, Nat.div_add_mod]
      rw [← e inner, ← e (xs.flatMap c), h1, h2]
    · rw [List.getElem?_eq_none (by rw [h.1]; omega), List.getElem?_eq_none (by rw [F.flen]; omega)]
  · rintro rfl
    exact ⟨F.flen xs, fun j p hj => (hR _ _).2 (F.fget hj)⟩
/-- what a row of one's own is, told by its block -/
structure Blk (d : Kd α) (c : α → List Value) (e : Nat) (w : World) (base : Nat) (ok : Nat → Prop) (g n cap : Nat) (xs : List α) (cur : Array Value) : Prop where
  len : n = xs.length
  okg : ok g
  bas : base ≤ g
  heap : w.heap[g]? = some (.cells cur e (0, 0))
  le : n ≤ cap
  max : cap ≤ maxLen
  size : cur.size = cap * d.sz
  take : cur.toList.take (n * d.sz) = xs.flatMap c
theorem Flat.blk (F : Flat d c) {e : Nat} {w : World} {base : Nat} {ok : Nat → Prop} {g n cap : Nat} {xs : List α} (h : d.R e w base ok (.slice (some ⟨g, 0, none⟩) n cap) xs) : ∃ cur, Blk d c e w base ok g n cap xs cur := by
  obtain ⟨hn, _, _⟩ := Kd.R_reads' h
  obtain ⟨hok, inner, ⟨hlen, ho⟩, hr⟩ := h
  rcases ho with ⟨he, _⟩ | ⟨g', cap', cur, he, hb, hh, hnc, hcm, hcs, htk⟩
  · cases he
  · cases he
    exact ⟨cur, hn, hok g rfl, hb, hh, by omega, hcm, hcs, by rw [hn, htk]; exact (F.reps (fun _ _ => F.M)).1 hr⟩
theorem Flat.row (F : Flat d c) {e : Nat} {w : World} {base : Nat} {ok : Nat → Prop} {g n cap : Nat} {xs : List α} {cur : Array Value} (h : Blk d c e w base ok g n cap xs cur) : d.R e w base ok (.slice (some ⟨g, 0, none⟩) n cap) xs := by
  have hn := h.len
  subst hn
  refine ⟨fun k hk => ?_, xs.flatMap c, ⟨F.flen xs, .inr ⟨g, cap, cur, rfl, h.bas, h.heap, h.le, h.max, h.size, h.take⟩⟩, (F.reps (fun _ _ => F.M)).2 rfl⟩
  have : g = k := by simpa [Value.ownBlock] using hk
  exact this ▸ h.okg
/-- a row that is read: its cells -/
theorem Flat.cell (F : Flat d c) {w : World} {A : Addr} {n : Nat} {xs : List α} (h : d.C w (some A) n xs) : ∀ j u, (xs.flatMap c)[j]? = some u → w.cell? (A.add j) = some u := by
  intro j u hj
  have hjl : j < xs.length * d.sz := by rw [← F.flen]; exact (List.getElem?_eq_some_iff.1 hj).1
  have hi : j / d.sz < xs.length := (Nat.div_lt_iff_lt_mul F.pos).2 hjl
  obtain ⟨ad, cs, e, hs, hK, hc⟩ := Kd.C_nth h (List.getElem?_eq_getElem hi)
  cases e
  have hk := F.K.1 hK
  have h2 := F.fget (List.getElem?_eq_getElem hi)
  have e : ((xs.flatMap c).drop (j / d.sz * d.sz)).take d.sz = cs := by rw [h2, hk]
  have h3 : cs[j % d.sz]? = some u := by
    rw [← e, List.getElem?_take, if_pos (Nat.mod_lt _ F.pos), List.getElem?_drop, Nat.mul_comm, Nat.div_add_mod]; exact hj
  have := hc _ _ h3
  rwa [Nat.mul_comm, Nat.div_add_mod] at this
end
section
variable {P : Program}
theorem run_copy_sz (w : World) (dT sT ty elem : TypeId) (b o dLen dCap : Nat) (a : Addr) (sLen sCap sz k : Nat) (cs : List Value)
    (hu : P.underlying dT = some (.slice elem)) (hs : (P.info? elem).map (·.size) = some sz) (hk : k = Nat.min sLen dLen) (hn : cs.length = k * sz)
    (hsrc : ∀ j v, cs[j]? = some v → w.cell? (a.add j) = some v) (hc : ∀ j, j < cs.length → (w.cell? ⟨b, o + j, none⟩).isSome = true) (hf : ∀ j, j < cs.length → w.frozen? ⟨b, o + j, none⟩ = false) (h1 : ∀ v ∈ cs, v.oneCell' = true) :
    (Builtin.copy_ #[dT, sT] ty #[.slice (some ⟨b, o, none⟩) dLen dCap, .slice (some a) sLen sCap]).run P w = .ok (goInt k) (w.setCells b o cs) := by
  have hl := run_loadCells_list (P := P) w a cs hsrc
  have hst := run_storeCells_cells (P := P) b o cs 0 w (by simpa using hc) (by simpa using hf) h1
  cases hq : P.info? elem with
  | none => simp [hq] at hs
  | some i =>
    have hi : i.size = sz := by simpa [hq] using hs
    simp [Builtin.copy_, run_underlying hu, Builtin.lenOf, Builtin.firstCells, sizeOf, typeInfo, hq, hi, ← hk, ← hn, hl, hst]
end
/-- the cells of a block behind 'setCells' -/
theorem setCells_heap {g : Nat} {e : TypeId} : ∀ (vs : List Value) (o : Nat) (w : World) (cur : Array Value), w.heap[g]? = some (.cells cur e (0, 0)) → o + vs.length ≤ cur.size →
    ∃ cur' : Array Value, (w.setCells g o vs).heap[g]? = some (.cells cur' e (0, 0)) ∧ cur'.size = cur.size ∧ cur'.toList = cur.toList.take o ++ vs ++ cur.toList.drop (o + vs.length)
  | [], o, w, cur, h, _ => ⟨cur, h, rfl, by simp⟩
  | v :: r, o, w, cur, h, hl => by
    have h1 := blk_set h o v
    obtain ⟨cur', h2, h3, h4⟩ := setCells_heap r (o + 1) _ _ h1 (by simp at hl ⊢; omega)
    refine ⟨cur', h2, by rw [h3]; simp, ?_⟩
    rw [h4]
    have e := list_seg_step cur.toList o v r (by simp at hl ⊢; omega)
    simpa [Array.toList_setIfInBounds, Nat.add_assoc] using e
theorem setCells_grown (g : Nat) : ∀ (vs : List Value) (o : Nat) (w : World), w.grownBy (w.setCells g o vs) (some g)
  | [], o, w => World.grownBy.refl w _
  | v :: r, o, w => grown_trans (grown_set w g o v) (setCells_grown g r (o + 1) _)
theorem seg_take {α : Type} (L C : List α) (a N : Nat) (h : a + C.length ≤ N) (hN : N ≤ L.length) : (L.take a ++ C ++ L.drop (a + C.length)).take N = (L.take N).take a ++ C ++ (L.take N).drop (a + C.length) := by
  have e1 : (L.take a).length = a := by rw [List.length_take]; omega
  have t1 : (L.take a).take N = L.take a := by rw [List.take_take, Nat.min_eq_right (by omega)]
  have t2 : C.take (N - a) = C := List.take_of_length_le (by omega)
  have t3 : (L.take N).take a = L.take a := by rw [List.take_take, Nat.min_eq_left (by omega)]
  rw [t3, List.append_assoc, List.take_append, t1, e1, List.take_append, t2, List.drop_take, List.append_assoc, Nat.sub_sub]
theorem Flat.put {α : Type} {d : Kd α} {c : α → List Value} (F : Flat d c) {e : Nat} {w : World} {base : Nat} {ok : Nat → Prop} {g n cap : Nat} {xs : List α} (h : d.R e w base ok (.slice (some ⟨g, 0, none⟩) n cap) xs) {i : Nat} (hi : i < xs.length) (x : α) :
    d.R e (w.setCells g (i * d.sz) (c x)) base ok (.slice (some ⟨g, 0, none⟩) n cap) (xs.set i x) ∧ w.grownBy (w.setCells g (i * d.sz) (c x)) (some g) := by
  obtain ⟨cur, B⟩ := F.blk h
  have hn := B.len
  subst hn
  have hle : i * d.sz + d.sz ≤ xs.length * d.sz := by rw [← Nat.succ_mul]; exact Nat.mul_le_mul_right _ hi
  have hcs : xs.length * d.sz ≤ cur.size := by rw [B.size]; exact Nat.mul_le_mul_right _ B.le
  obtain ⟨cur', h1, h2, h3⟩ := setCells_heap (c x) (i * d.sz) w cur B.heap (by rw [F.len]; omega)
  refine ⟨F.row ⟨by simp, B.okg, B.bas, h1, B.le, B.max, by rw [h2, B.size], ?_⟩, setCells_grown g _ _ _⟩
  rw [h3, seg_take _ _ _ _ (by rw [F.len]; exact hle) (by simpa using hcs), B.take, F.ftake, F.len, ← Nat.succ_mul, F.fdrop, List.set_eq_take_append_cons_drop, if_pos hi]
  simp
end Go.Proofs.YtoekfmdcplphmaaGreat.H
/- what slices.SortFunc leaves of a row of elements without rows -/
namespace Go.Proofs.YtoekfmdcplphmaaGreat.H
open Go.RowKit Go.Sort Go.Proofs.YtoekfmdcplphmaaGreatW.PrintWords Go.Proofs.YtoekfmdcplphmaaGreatW.PrintLast Go.Proofs.YtoekfmdcplphmaaGreatW.PrintMore
section
variable {α : Type} [Inhabited α] {d : Kd α} {c : α → List Value}
theorem Flat.flatK (F : Flat d c) (l : List α) : flatK c d.sz l.toArray = (l.flatMap c).toArray := by
  apply Array.ext'
  apply List.ext_getElem?
  intro t
  have hp := F.pos
  by_cases ht : t < l.length * d.sz
  · have hi : t / d.sz < l.length := (Nat.div_lt_iff_lt_mul hp).2 ht
    have hm : t % d.sz < d.sz := Nat.mod_lt _ hp
    have h2 := F.fget (List.getElem?_eq_getElem hi)
    have h3 : (l.flatMap c)[t]? = (c (l[t / d.sz]'hi))[t % d.sz]? := by
      rw [← h2, List.getElem?_take, if_pos hm, List.getElem?_drop, Nat.mul_comm, Nat.div_add_mod]
    have e1 : l.toArray[t / d.sz]! = l[t / d.sz]'hi := by
      rw [getElem!_pos l.toArray _ (by simpa using hi)]
      simp
    have e2 : (c (l[t / d.sz]'hi))[t % d.sz]? = some (c (l[t / d.sz]'hi))[t % d.sz]! := by
      have hlt : t % d.sz < (c (l[t / d.sz]'hi)).length := by rw [F.len]; exact hm
      rw [getElem!_pos (c (l[t / d.sz]'hi)) (t % d.sz) hlt, List.getElem?_eq_getElem hlt]
    rw [h3]
    simp only [Go.Sort.flatK, Array.toList_map, Array.toList_range, List.getElem?_map, List.size_toArray]
    rw [List.getElem?_range ht, Option.map_some, e1]
    exact e2.symm
  · rw [List.getElem?_eq_none (by simp [Go.Sort.flatK]; omega), List.getElem?_eq_none (by simp [F.flen]; omega)]
theorem Flat.holdsK (F : Flat d c) {e : Nat} {w : World} {base : Nat} {ok : Nat → Prop} {g n cap : Nat} {l : List α} (h : d.R e w base ok (.slice (some ⟨g, 0, none⟩) n cap) l) : HoldsK c d.sz w g 0 l.toArray := by
  obtain ⟨cur, B⟩ := F.blk h
  unfold HoldsK
  rw [F.flatK]
  refine so_holds B.heap ?_
  rw [List.map_id, F.flen, ← B.len]
  exact B.take
theorem Flat.sortRow (F : Flat d c) {e : Nat} {w : World} {base : Nat} {ok : Nat → Prop} {g n cap : Nat} {l : List α} (h : d.R e w base ok (.slice (some ⟨g, 0, none⟩) n cap) l) (l' : List α) (hl : l'.length = l.length) (m : Nat) (os : Array Obj) :
    d.R e (sortWorldK c d.sz w g 0 m l'.toArray os) base ok (.slice (some ⟨g, 0, none⟩) n cap) l' ∧ w.grownBy (sortWorldK c d.sz w g 0 m l'.toArray os) (some g) := by
  obtain ⟨cur, B⟩ := F.blk h
  have hn := B.len
  have hcs : l'.length * d.sz ≤ cur.size := by rw [B.size, hl, ← hn]; exact Nat.mul_le_mul_right _ B.le
  refine ⟨?_, so_grown (enc := id) (Go.Sort.flatK c d.sz l'.toArray)⟩
  refine F.row (cur := putCells id 0 (Go.Sort.flatK c d.sz l'.toArray) cur) ⟨by omega, B.okg, B.bas, so_heap (enc := id) _ B.heap, B.le, B.max, by rw [← B.size]; simp [putCells], ?_⟩
  rw [F.flatK]
  have := so_take (enc := id) cur (l'.flatMap c) (l'.flatMap c).length (Nat.le_refl _) (by rw [F.flen]; exact hcs)
  rw [List.map_id, List.take_length, F.flen] at this
  rw [hn, ← hl]
  exact this
end
end Go.Proofs.YtoekfmdcplphmaaGreat.H
/- slices.SortFunc of a row of elements of any kind: the elements' cells are sorted, by their places -/
namespace Go.Proofs.YtoekfmdcplphmaaGreat.H
open Go.RowKit Go.Sort Go.Shelf Go.Proofs.YtoekfmdcplphmaaGreatW.PrintWords Go.Proofs.YtoekfmdcplphmaaGreatW.PrintLast Go.Proofs.YtoekfmdcplphmaaGreatW.PrintMore
/-- an element's cells -/
def chunk (sz : Nat) (inner : List Value) (i : Nat) : List Value := (inner.drop (i * sz)).take sz
theorem chunk_len {sz n : Nat} {inner : List Value} (h : inner.length = n * sz) {i : Nat} (hi : i < n) : (chunk sz inner i).length = sz := by
  have := Nat.mul_le_mul_right sz (show i + 1 ≤ n from hi)
  rw [Nat.add_mul, Nat.one_mul] at this
  simp only [chunk, List.length_take, List.length_drop]
  omega
/-- elements that are told by their cells alone -/
def cellsKd {β : Type} (sz : Nat) (enc : β → List Value) (hl : ∀ x, (enc x).length = sz) (h1 : ∀ x, ∀ u ∈ enc x, u.oneCell' = true) : Kd β where
  sz := sz
  E := []
  K := fun _ x cs => cs = enc x
  M := fun _ _ _ x cs => cs = enc x
  K_len := fun h => by rw [h, hl]
  K_one := fun h u hu => by rw [h] at hu; exact h1 _ u hu
  K_below := fun _ h => h
  K_of_M := fun h => h
  M_mono := fun _ h => h
  M_bound := fun h => h
  M_move := fun _ h => h
  M_lower := fun _ h => h
theorem cellsFlat {β : Type} (sz : Nat) (hp : 0 < sz) (enc : β → List Value) (hl : ∀ x, (enc x).length = sz) (h1 : ∀ x, ∀ u ∈ enc x, u.oneCell' = true) : Flat (cellsKd sz enc hl h1) enc :=
  ⟨Iff.rfl, Iff.rfl, hl, h1, hp⟩
section
variable {α : Type} {d : Kd α} {e : Nat} {w w1 : World} {base : Nat} {ok : Nat → Prop} {v : Value} {xs : List α}
/-- a row, told by its elements' cells -/
theorem R_cells (h : d.R e w base ok v xs) : ∃ (enc : Fin xs.length → List Value) (hl : ∀ x, (enc x).length = d.sz) (h1 : ∀ x, ∀ u ∈ enc x, u.oneCell' = true),
    (cellsKd d.sz enc hl h1).R e w base ok v (List.finRange xs.length) ∧ ∀ i, d.M w base (fun k => ok k ∧ some k ≠ v.ownBlock) xs[i] (enc i) := by
  obtain ⟨h0, inner, ho, hr⟩ := h
  have hlen := hr.1
  have hM : ∀ i : Fin xs.length, d.M w base (fun k => ok k ∧ some k ≠ v.ownBlock) xs[i] (chunk d.sz inner i) := fun i => hr.2 i _ (List.getElem?_eq_getElem i.2)
  refine ⟨fun i => chunk d.sz inner i, fun i => chunk_len hlen i.2, fun i u hu => d.K_one (d.K_of_M (hM i)) u hu, ⟨h0, inner, ?_, ?_, ?_⟩, hM⟩
  · rw [List.length_finRange]; exact ho
  · rw [List.length_finRange]; exact hlen
  · intro j p hj
    obtain ⟨hlt, hp⟩ := List.getElem?_eq_some_iff.1 hj
    subst hp
    show _ = chunk d.sz inner _
    simp [cellsKd, chunk]
/-- .. and back: the same elements in any order -/
theorem R_of_cells {enc : Fin xs.length → List Value} {hl : ∀ x, (enc x).length = d.sz} {h1 : ∀ x, ∀ u ∈ enc x, u.oneCell' = true} {l : List (Fin xs.length)} (h : (cellsKd d.sz enc hl h1).R e w base ok v l)
    (hM : ∀ i, d.M w base (fun k => ok k ∧ some k ≠ v.ownBlock) xs[i] (enc i)) : d.R e w base ok v (l.map fun i => xs[i]) := by
  obtain ⟨h0, inner, ho, hr⟩ := h
  refine ⟨h0, inner, ?_, ?_, ?_⟩
  · rw [List.length_map]; exact ho
  · rw [List.length_map]; exact hr.1
  · intro j p hj
    rw [List.getElem?_map] at hj
    obtain ⟨i, hi, rfl⟩ := Option.map_eq_some_iff.1 hj
    have := hr.2 j i hi
    have e1 : (inner.drop (j * d.sz)).take d.sz = enc i := this
    rw [e1]
    exact hM i
/-- an element, copied to another place of its row -/
theorem R_copy {g n cap : Nat} (h : d.R e w base ok (.slice (some ⟨g, 0, none⟩) n cap) xs) (hp : 0 < d.sz) {i k : Nat} {y : α} (hi : xs[i]? = some y) (hk : k < xs.length) {cs : List Value} (hcs : cs.length = d.sz)
    (hc : ∀ j u, cs[j]? = some u → w.cell? ⟨g, i * d.sz + j, none⟩ = some u) :
    d.R e (w.setCells g (k * d.sz) cs) base ok (.slice (some ⟨g, 0, none⟩) n cap) (xs.set k y) ∧ w.grownBy (w.setCells g (k * d.sz) cs) (some g) := by
  obtain ⟨enc, hl, h1, hR, hM⟩ := R_cells h
  have F := cellsFlat d.sz hp enc hl h1
  obtain ⟨hil, rfl⟩ := List.getElem?_eq_some_iff.1 hi
  have e1 : cs = enc ⟨i, hil⟩ := by
    obtain ⟨-, -, hC⟩ := Kd.R_reads' hR
    obtain ⟨ad, c, ea, hcl, hK, hcell⟩ := Kd.C_nth (i := i) (y := ⟨i, hil⟩) hC (by simp [hil])
    cases ea
    have hK' : c = enc ⟨i, hil⟩ := hK
    subst hK'
    apply List.ext_getElem?
    intro j
    by_cases hj : j < cs.length
    · have q1 := hc j _ (List.getElem?_eq_getElem hj)
      have hj2 : j < (enc ⟨i, hil⟩).length := by rw [hl, ← hcs]; exact hj
      have q2 := hcell j _ (List.getElem?_eq_getElem hj2)
      have e0 : Addr.add ⟨g, 0, none⟩ (i * d.sz + j) = ⟨g, i * d.sz + j, none⟩ := by simp only [add_plain]
      rw [show (cellsKd d.sz enc hl h1).sz = d.sz from rfl, e0, q1] at q2
      rw [List.getElem?_eq_getElem hj, List.getElem?_eq_getElem hj2]
      exact q2
    · rw [List.getElem?_eq_none (by omega), List.getElem?_eq_none (by rw [hl, ← hcs]; omega)]
  subst e1
  have hP := F.put hR (i := k) (by simpa using hk) ⟨i, hil⟩
  refine ⟨?_, hP.2⟩
  have := R_of_cells (d := d) hP.1 (fun q => Kd.M_grown (hM q) hP.2 (fun k' hk' => hk'.2))
  have e2 : ((List.finRange xs.length).set k ⟨i, hil⟩).map (fun q => xs[q]) = xs.set k xs[i] := by
    rw [List.map_set]
    congr 1
    apply List.ext_getElem (by simp)
    intro j h2 h3
    simp
  rw [e2] at this
  exact this
end
theorem ext_all {α : Type} (a : Array α) {n : Nat} (h : n = a.size) : a.extract 0 n = a := by subst h; simp
section
variable {P : Program} {ρ : Ren} {α : Type} {d : Kd α}
/-- slices.SortFunc at any kind: a permutation, in order. cf: what cmp answers; it need be told of the row's elements alone. -/
theorem rowSort (L : SlLaysF0.n6 P ρ) (aE : ∀ w, (isAgg (ρ.t 24)).run P w = .ok true w) (zE : ∀ w, (Go.sizeOf (ρ.t 24)).run P w = .ok d.sz w) (hp : 0 < d.sz) (e base : Nat) (ok : Nat → Prop) (v : Value) (l : List α) (w : World) (ho : d.R e w base ok v l) (hl : l.length < 4611686018427387904)
    (cf : α → α → Int) (hirr : ∀ x ∈ l, ¬ cf x x < 0) (htr : ∀ x ∈ l, ∀ y ∈ l, ∀ z ∈ l, cf x y < 0 → cf y z < 0 → cf x z < 0) (hntr : ∀ x ∈ l, ∀ y ∈ l, ∀ z ∈ l, ¬ cf x y < 0 → ¬ cf y z < 0 → ¬ cf x z < 0) (gf : Nat)
    (eg : ∀ args w, (callFunc gf args).run P w = .ok (.enter gf args) w)
    (hcmp : ∀ (W : World) (x y : α) (cx cy : List Value), w.grownBy W v.ownBlock → x ∈ l → y ∈ l → d.K W x cx → d.K W y cy → Calls P gf #[.agg cx.toArray, .agg cy.toArray] W fun e w' => e = .returned (.int .i64 (cf x y)) ∧ ∃ q os', w' = grow (W.drewN q) os') :
    Calls P (ρ.f 6) #[v, .func (.func gf) #[] #[]] w fun e' w' => e' = .returned (.tuple #[]) ∧ ∃ l', d.R e w' base ok v l' ∧ l'.Perm l ∧ l'.Pairwise (fun x y => ¬ cf y x < 0) ∧ w.grownBy w' v.ownBlock := by
  obtain ⟨A, c, rfl, hlc, hC⟩ := Kd.R_reads ho
  rcases Nat.eq_zero_or_pos l.length with h0 | h0
  · obtain rfl := List.length_eq_zero_iff.1 h0
    refine (AnyF.slices_SortFunc_none L A c _ w).mono ?_
    rintro e' w' ⟨rfl, rfl⟩
    exact ⟨rfl, [], ho, List.Perm.refl _, List.Pairwise.nil, World.grownBy.refl _ _⟩
  · obtain ⟨b, cap, e2, hbb, hbl, cells0, hcells0⟩ := Kd.R_form ho h0
    cases e2
    obtain ⟨enc, hel, h1, hR, hM⟩ := R_cells ho
    have F := cellsFlat d.sz hp enc hel h1
    letI : Inhabited (Fin l.length) := ⟨⟨0, h0⟩⟩
    have hm : ∀ i : Fin l.length, l[i] ∈ l := fun i => List.getElem_mem _
    have hO : SWO (ltOf fun i j : Fin l.length => cf l[i] l[j]) := by
      refine ⟨fun i => ?_, fun i j k h2 h3 => ?_, fun i j k h2 h3 => ?_⟩
      · simpa [ltOf] using hirr _ (hm i)
      · simp only [ltOf, decide_eq_true_eq] at h2 h3 ⊢
        exact htr _ (hm i) _ (hm j) _ (hm k) h2 h3
      · simp only [ltOf, decide_eq_false_iff_not] at h2 h3 ⊢
        exact hntr _ (hm i) _ (hm j) _ (hm k) h2 h3
    have hcon := AnyQ.slices_SortFunc (α := Fin l.length) L d.sz aE zE enc hel h1 (fun i j => cf l[i] l[j]) hO gf #[] b 0 c (List.finRange l.length).toArray w eg
      (fun m os dk _ x y => by
        have hg : w.grownBy (sortWorldK enc d.sz w b 0 m dk os) (some b) := so_grown (enc := id) (Go.Sort.flatK enc d.sz dk)
        exact hcmp _ _ _ _ _ hg (hm x) (hm y) (d.K_of_M (Kd.M_grown (hM x) hg (fun _ hk => hk.2))) (d.K_of_M (Kd.M_grown (hM y) hg (fun _ hk => hk.2))))
      (F.holdsK hR) hbl (by simpa using hl)
    rw [List.size_toArray, List.length_finRange] at hcon
    refine hcon.mono ?_
    rintro e' w' ⟨rfl, d', n, os, hpm, hs, rfl⟩
    obtain ⟨hp1, -, hp3⟩ := hpm
    have hp2 : d'.size = l.length := by simpa using hp1
    have hperm : d'.toList.Perm (List.finRange l.length) := by
      have e1 : d'.extract 0 l.length = d' := ext_all d' hp2.symm
      have e2 : (List.finRange l.length).toArray.extract 0 l.length = (List.finRange l.length).toArray := ext_all _ (by simp)
      rw [e1, e2] at hp3
      simpa using hp3
    have hrow := F.sortRow hR d'.toList (by simpa using hp1) n os
    have e3 : d'.toList.toArray = d' := by simp
    rw [e3] at hrow
    have hfin := R_of_cells (d := d) hrow.1 (fun i => Kd.M_grown (hM i) hrow.2 (fun _ hk => hk.2))
    refine ⟨rfl, _, hfin, ?_, ?_, hrow.2⟩
    · have := hperm.map fun i => l[i]
      have e4 : (List.finRange l.length).map (fun i => l[i]) = l := by
        apply List.ext_getElem (by simp)
        intro j h2 h3
        simp
      rw [e4] at this
      exact this
    · rw [List.pairwise_map, List.pairwise_iff_getElem]
      intro i j hi hj hij
      have h := hs i j (Nat.zero_le _) hij (by have : j < d'.size := by simpa using hj
                                               omega)
      rw [getElem!_pos d' j (by simpa using hj), getElem!_pos d' i (by simpa using hi)] at h
      have h2 := of_decide_eq_false h
      simpa using h2
end
end Go.Proofs.YtoekfmdcplphmaaGreat.H
/- a world, some draws on, with some blocks behind -/
namespace Go.Proofs.YtoekfmdcplphmaaGreat.H
open Go.RowKit Go.Sort Go.Proofs.YtoekfmdcplphmaaGreatW.PrintWords Go.Proofs.YtoekfmdcplphmaaGreatW.PrintLast Go.Proofs.YtoekfmdcplphmaaGreatW.PrintMore
def GrW (w w' : World) : Prop := ∃ q os', w' = grow (w.drewN q) os'
theorem GrW.refl (w : World) : GrW w w := ⟨0, #[], by rw [grow_empty]; rfl⟩
theorem GrW.trans {a b c : World} (h : GrW a b) (k : GrW b c) : GrW a c := by
  obtain ⟨q, os, rfl⟩ := h
  obtain ⟨p, os', rfl⟩ := k
  exact ⟨q + p, os ++ os', by show grow (grow ((a.drewN q).drewN p) os) os' = _; rw [grow_grow, World.drewN_drewN]⟩
theorem GrW.alloc {a b : World} (h : GrW a b) (o : Obj) : GrW a (b.alloc o) := h.trans ⟨0, #[o], by rw [alloc_eq_grow]; rfl⟩
theorem GrW.drewN {a b : World} (h : GrW a b) (n : Nat) : GrW a (b.drewN n) := h.trans ⟨n, #[], by rw [grow_empty]⟩
theorem GrW.drew {a b : World} (h : GrW a b) : GrW a b.drew := h.drewN 1
theorem GrW.grow {a b : World} (h : GrW a b) (n : Nat) (os : Array Obj) : GrW a (grow (b.drewN n) os) := h.trans ⟨n, os, rfl⟩
theorem GrW.below {a b : World} (h : GrW a b) : Below a.heap.size a b := by
  obtain ⟨q, os, rfl⟩ := h
  exact ⟨rfl, rfl, rfl, by rw [size_grow]; exact Nat.le_add_right _ _, fun k hk => heap_grow_old _ _ (by exact hk)⟩
theorem GrW.old {a b : World} (h : GrW a b) {p : Addr} {v : Value} (hx : a.cell? p = some v) : ∀ n os, (Go.Sort.grow (b.drewN n) os).cell? p = some v := fun n os => Below.old (h.grow n os).below hx
end Go.Proofs.YtoekfmdcplphmaaGreat.H
namespace Go.Proofs.YtoekfmdcplphmaaGreat.H
open Go.RowKit Go.Proofs.YtoekfmdcplphmaaGreatW.PrintWords Go.Proofs.YtoekfmdcplphmaaGreatW.PrintLast Go.Proofs.YtoekfmdcplphmaaGreatW.PrintMore
attribute [local go_sem] max2_int min2_int max_two min_two max_three min_three max_four min_four
def cmp_isNaN_string.f (a0 : ByteArray) : Option (Bool) := some (a0.toList != a0.toList)
set_option maxHeartbeats 8000000 in
set_option maxRecDepth 100000 in
theorem cmp_isNaN_string.calls (a0 : ByteArray) (r : Bool) (w : World) (h : cmp_isNaN_string.f a0 = some r) :
  Calls Tryz.prog 55 #[.string a0] w fun e w' => e = .returned (.bool r) ∧ Drawn0 w w' := by
 have H : (some (a0.toList != a0.toList)) = some r := h
 clear h
 obtain rfl := Option.some.inj H
 go_enter Tryz.func55, Tryz.ntmps55
 go_wp2
 go_ret
 exact ⟨by first | rfl | (simp; done) | (simp [*]; done), by repeat (first | exact Drawn0.refl _ | apply Drawn0.step)⟩
end Go.Proofs.YtoekfmdcplphmaaGreat.H
namespace Go.Proofs.YtoekfmdcplphmaaGreat.H
open Go.RowKit Go.Proofs.YtoekfmdcplphmaaGreatW.PrintWords
theorem bytesLess_swap (a b : List UInt8) : (!(Op.bytesLess a b || a == b)) = Op.bytesLess b a := by
  induction a generalizing b with
  | nil => cases b <;> simp [Op.bytesLess]
  | cons x a ih =>
    cases b with
    | nil => simp [Op.bytesLess]
    | cons y b =>
      by_cases h : x = y
      · subst h
        have := ih b
        simp [Op.bytesLess] at this ⊢
        exact this
      · have h2 : ¬ y = x := fun e => h e.symm
        rw [Bool.eq_iff_iff]
        simp [Op.bytesLess, h, h2]
        have hn : x.toNat ≠ y.toNat := fun e => h (UInt8.toNat_inj.1 e)
        rw [UInt8.le_iff_toNat_le, UInt8.lt_iff_toNat_lt]
        omega
theorem bytesLeq_swap (a b : List UInt8) : (Op.bytesLess a b || a == b) = !Op.bytesLess b a := by rw [← bytesLess_swap a b, Bool.not_not]
@[go_sem high] theorem binOp_string_gtr_sw (t : TypeId) (a b : ByteArray) : binOp .gtr t (.string a) (.string b) = pure (.bool (Op.bytesLess b.toList a.toList)) := by
  rw [← bytesLess_swap]; simp [binOp, Op.stringOp]
@[go_sem high] theorem binOp_string_leq_sw (t : TypeId) (a b : ByteArray) : binOp .leq t (.string a) (.string b) = pure (.bool !(Op.bytesLess b.toList a.toList)) := by
  rw [← bytesLeq_swap]; simp [binOp, Op.stringOp]
@[go_sem] theorem binOp_string_geq_sw (t : TypeId) (a b : ByteArray) : binOp .geq t (.string a) (.string b) = pure (.bool !(Op.bytesLess a.toList b.toList)) := by simp [binOp, Op.stringOp]
end Go.Proofs.YtoekfmdcplphmaaGreat.H
