import Derived.Test.YthpejcnldecmoaaProg
import Derived.Test.YthpejcnldecmoaaWWords
import Derived.Test.YthpejcnldecmoaaTypes
namespace Go.Proofs.Ythpejcnldecmoaa.H
open Go.RowKit Go.Proofs.YthpejcnldecmoaaW.PrintWords
set_option linter.unusedVariables false

theorem Kd.C_nth {α : Type} {d : Kd α} {w : World} {A : Option Addr} {n : Nat} {xs : List α} (h : Kd.C d w A n xs) {i : Nat} {y : α} (hy : xs[i]? = some y) :
    ∃ ad c, A = some ad ∧ c.length = d.sz ∧ d.K w y c ∧ ∀ j u, c[j]? = some u → w.cell? (ad.add (i * d.sz + j)) = some u := by
  obtain ⟨h1, h2, h3⟩ := h
  have hi : i < xs.length := (List.getElem?_eq_some_iff.1 hy).1
  obtain ⟨ad, e, hc⟩ := h3 (by omega)
  obtain ⟨c, hs, hr, hcell⟩ := hc i y hy
  exact ⟨ad, c, e, hs, hr, hcell⟩
def kVal : Kd Val := Kd.iso (Kd.pair Kd.bool (Kd.pair Kd.string (Kd.int .i64))) (fun x : Val => (x.isSym, x.sym, x.n))
theorem kVal_open {w : World} {x : Val} {cs : List Value} (h : kVal.K w x cs) : cs = [.bool x.isSym, .string x.sym, .int .i64 x.n] := by
  obtain ⟨_, _, rfl, rfl, ⟨_, _, rfl, rfl, rfl⟩⟩ := h
  exact rfl
theorem kVal_openM {w : World} {base : Nat} {ok : Nat → Prop} {x : Val} {cs : List Value} (h : kVal.M w base ok x cs) : cs = [.bool x.isSym, .string x.sym, .int .i64 x.n] := by
  obtain ⟨_, _, rfl, rfl, ⟨_, _, rfl, rfl, rfl⟩⟩ := h
  exact rfl
theorem kVal_mk (w : World) (x : Val)  : kVal.K w x [.bool x.isSym, .string x.sym, .int .i64 x.n] := ⟨[.bool x.isSym], [.string x.sym, .int .i64 x.n], rfl, rfl, ⟨[.string x.sym], [.int .i64 x.n], rfl, rfl, rfl⟩⟩
theorem kVal_mkM (w : World) (base : Nat) (ok : Nat → Prop) (x : Val)  : kVal.M w base ok x [.bool x.isSym, .string x.sym, .int .i64 x.n] := ⟨[.bool x.isSym], [.string x.sym, .int .i64 x.n], rfl, rfl, ⟨[.string x.sym], [.int .i64 x.n], rfl, rfl, rfl⟩⟩
theorem at_Val {w : World} {A : Option Addr} {n : Nat} {xs : List Val} (h : Kd.C kVal w A n xs) {i : Nat} {y : Val} (hy : xs[i]? = some y) : ∃ ad , A = some ad ∧ w.cell? (ad.add (i * 3)) = some (.bool y.isSym) ∧ w.cell? ⟨(ad.add (i * 3)).block, (ad.add (i * 3)).off + 1, none⟩ = some (.string y.sym) ∧ w.cell? ⟨(ad.add (i * 3)).block, (ad.add (i * 3)).off + 2, none⟩ = some (.int .i64 y.n) := by
  obtain ⟨ad, c, e, _, hK, hc⟩ := Kd.C_nth h hy
  rw [show kVal.sz = 3 from rfl] at hc
  obtain rfl := kVal_open hK
  exact ⟨ad, e, by have hq := hc 0 _ rfl; rwa [Nat.add_zero] at hq, by rw [← add_field _ _ 1 (by omega)]; exact hc 1 _ rfl, by rw [← add_field _ _ 2 (by omega)]; exact hc 2 _ rfl⟩
def kTerm : Kd Term := Kd.iso (Kd.pair Kd.bool (Kd.pair Kd.string kVal)) (fun x : Term => (x.isVar, x.name, x.val))
theorem kTerm_open {w : World} {x : Term} {cs : List Value} (h : kTerm.K w x cs) : cs = [.bool x.isVar, .string x.name, .bool x.val.isSym, .string x.val.sym, .int .i64 x.val.n] := by
  obtain ⟨_, _, rfl, rfl, ⟨_, _, rfl, rfl, s2⟩⟩ := h
  obtain rfl := kVal_open s2
  exact rfl
theorem kTerm_openM {w : World} {base : Nat} {ok : Nat → Prop} {x : Term} {cs : List Value} (h : kTerm.M w base ok x cs) : cs = [.bool x.isVar, .string x.name, .bool x.val.isSym, .string x.val.sym, .int .i64 x.val.n] := by
  obtain ⟨_, _, rfl, rfl, ⟨_, _, rfl, rfl, s2⟩⟩ := h
  obtain rfl := kVal_openM s2
  exact rfl
theorem kTerm_mk (w : World) (x : Term)  : kTerm.K w x [.bool x.isVar, .string x.name, .bool x.val.isSym, .string x.val.sym, .int .i64 x.val.n] := ⟨[.bool x.isVar], [.string x.name, .bool x.val.isSym, .string x.val.sym, .int .i64 x.val.n], rfl, rfl, ⟨[.string x.name], [.bool x.val.isSym, .string x.val.sym, .int .i64 x.val.n], rfl, rfl, (kVal_mk w x.val )⟩⟩
theorem kTerm_mkM (w : World) (base : Nat) (ok : Nat → Prop) (x : Term)  : kTerm.M w base ok x [.bool x.isVar, .string x.name, .bool x.val.isSym, .string x.val.sym, .int .i64 x.val.n] := ⟨[.bool x.isVar], [.string x.name, .bool x.val.isSym, .string x.val.sym, .int .i64 x.val.n], rfl, rfl, ⟨[.string x.name], [.bool x.val.isSym, .string x.val.sym, .int .i64 x.val.n], rfl, rfl, (kVal_mkM w base ok x.val )⟩⟩
theorem at_Term {w : World} {A : Option Addr} {n : Nat} {xs : List Term} (h : Kd.C kTerm w A n xs) {i : Nat} {y : Term} (hy : xs[i]? = some y) : ∃ ad , A = some ad ∧ w.cell? (ad.add (i * 5)) = some (.bool y.isVar) ∧ w.cell? ⟨(ad.add (i * 5)).block, (ad.add (i * 5)).off + 1, none⟩ = some (.string y.name) ∧ w.cell? ⟨(ad.add (i * 5)).block, (ad.add (i * 5)).off + 2, none⟩ = some (.bool y.val.isSym) ∧ w.cell? ⟨(ad.add (i * 5)).block, (ad.add (i * 5)).off + 3, none⟩ = some (.string y.val.sym) ∧ w.cell? ⟨(ad.add (i * 5)).block, (ad.add (i * 5)).off + 4, none⟩ = some (.int .i64 y.val.n) := by
  obtain ⟨ad, c, e, _, hK, hc⟩ := Kd.C_nth h hy
  rw [show kTerm.sz = 5 from rfl] at hc
  obtain rfl := kTerm_open hK
  exact ⟨ad, e, by have hq := hc 0 _ rfl; rwa [Nat.add_zero] at hq, by rw [← add_field _ _ 1 (by omega)]; exact hc 1 _ rfl, by rw [← add_field _ _ 2 (by omega)]; exact hc 2 _ rfl, by rw [← add_field _ _ 3 (by omega)]; exact hc 3 _ rfl, by rw [← add_field _ _ 4 (by omega)]; exact hc 4 _ rfl⟩
def kAtom : Kd Atom := Kd.iso (Kd.pair Kd.string (Kd.slice 45 kTerm)) (fun x : Atom => (x.pred, x.args))
theorem kAtom_open {w : World} {x : Atom} {cs : List Value} (h : kAtom.K w x cs) : ∃ A1 c1, cs = [.string x.pred, .slice A1 x.args.length c1] ∧ x.args.length ≤ c1 ∧ kTerm.C w A1 x.args.length x.args := by
  obtain ⟨_, _, rfl, rfl, ⟨A1, c1, rfl, l1, g1⟩⟩ := h
  exact ⟨A1, c1, rfl, l1, g1⟩
theorem kAtom_openM {w : World} {base : Nat} {ok : Nat → Prop} {x : Atom} {cs : List Value} (h : kAtom.M w base ok x cs) : ∃ v1, cs = [.string x.pred, v1] ∧ kTerm.R 45 w base ok v1 x.args := by
  obtain ⟨_, _, rfl, rfl, ⟨v1, rfl, g1⟩⟩ := h
  exact ⟨v1, rfl, g1⟩
theorem kAtom_mk (w : World) (x : Atom) {A1 : Option Addr} {c1 : Nat} (l1 : x.args.length ≤ c1) (g1 : kTerm.C w A1 x.args.length x.args) : kAtom.K w x [.string x.pred, .slice A1 x.args.length c1] := ⟨[.string x.pred], [.slice A1 x.args.length c1], rfl, rfl, ⟨A1, c1, rfl, l1, g1⟩⟩
theorem kAtom_mkM (w : World) (base : Nat) (ok : Nat → Prop) (x : Atom) {v1 : Value} (g1 : kTerm.R 45 w base ok v1 x.args) : kAtom.M w base ok x [.string x.pred, v1] := ⟨[.string x.pred], [v1], rfl, rfl, ⟨v1, rfl, g1⟩⟩
theorem at_Atom {w : World} {A : Option Addr} {n : Nat} {xs : List Atom} (h : Kd.C kAtom w A n xs) {i : Nat} {y : Atom} (hy : xs[i]? = some y) : ∃ ad A1 c1, A = some ad ∧ w.cell? (ad.add (i * 2)) = some (.string y.pred) ∧ w.cell? ⟨(ad.add (i * 2)).block, (ad.add (i * 2)).off + 1, none⟩ = some (.slice A1 y.args.length c1) ∧ y.args.length ≤ c1 ∧ kTerm.C w A1 y.args.length y.args := by
  obtain ⟨ad, c, e, _, hK, hc⟩ := Kd.C_nth h hy
  rw [show kAtom.sz = 2 from rfl] at hc
  obtain ⟨A1, c1, rfl, l1, g1⟩ := kAtom_open hK
  exact ⟨ad, A1, c1, e, by have hq := hc 0 _ rfl; rwa [Nat.add_zero] at hq, by rw [← add_field _ _ 1 (by omega)]; exact hc 1 _ rfl, l1, g1⟩
def kLiter : Kd Liter := Kd.iso (Kd.pair (Kd.int .i64) (Kd.pair kAtom (Kd.pair Kd.string (Kd.pair kTerm kTerm)))) (fun x : Liter => (x.kind, x.atom, x.op, x.l, x.r))
theorem kLiter_open {w : World} {x : Liter} {cs : List Value} (h : kLiter.K w x cs) : ∃ A2 c2, cs = [.int .i64 x.kind, .string x.atom.pred, .slice A2 x.atom.args.length c2, .string x.op, .bool x.l.isVar, .string x.l.name, .bool x.l.val.isSym, .string x.l.val.sym, .int .i64 x.l.val.n, .bool x.r.isVar, .string x.r.name, .bool x.r.val.isSym, .string x.r.val.sym, .int .i64 x.r.val.n] ∧ x.atom.args.length ≤ c2 ∧ kTerm.C w A2 x.atom.args.length x.atom.args := by
  obtain ⟨_, _, rfl, rfl, ⟨_, _, rfl, s1, ⟨_, _, rfl, rfl, ⟨_, _, rfl, s4, s9⟩⟩⟩⟩ := h
  obtain ⟨A2, c2, rfl, l2, g2⟩ := kAtom_open s1
  obtain rfl := kTerm_open s4
  obtain rfl := kTerm_open s9
  exact ⟨A2, c2, rfl, l2, g2⟩
theorem kLiter_openM {w : World} {base : Nat} {ok : Nat → Prop} {x : Liter} {cs : List Value} (h : kLiter.M w base ok x cs) : ∃ v2, cs = [.int .i64 x.kind, .string x.atom.pred, v2, .string x.op, .bool x.l.isVar, .string x.l.name, .bool x.l.val.isSym, .string x.l.val.sym, .int .i64 x.l.val.n, .bool x.r.isVar, .string x.r.name, .bool x.r.val.isSym, .string x.r.val.sym, .int .i64 x.r.val.n] ∧ kTerm.R 45 w base ok v2 x.atom.args := by
  obtain ⟨_, _, rfl, rfl, ⟨_, _, rfl, s1, ⟨_, _, rfl, rfl, ⟨_, _, rfl, s4, s9⟩⟩⟩⟩ := h
  obtain ⟨v2, rfl, g2⟩ := kAtom_openM s1
  obtain rfl := kTerm_openM s4
  obtain rfl := kTerm_openM s9
  exact ⟨v2, rfl, g2⟩
theorem kLiter_mk (w : World) (x : Liter) {A2 : Option Addr} {c2 : Nat} (l2 : x.atom.args.length ≤ c2) (g2 : kTerm.C w A2 x.atom.args.length x.atom.args) : kLiter.K w x [.int .i64 x.kind, .string x.atom.pred, .slice A2 x.atom.args.length c2, .string x.op, .bool x.l.isVar, .string x.l.name, .bool x.l.val.isSym, .string x.l.val.sym, .int .i64 x.l.val.n, .bool x.r.isVar, .string x.r.name, .bool x.r.val.isSym, .string x.r.val.sym, .int .i64 x.r.val.n] := ⟨[.int .i64 x.kind], [.string x.atom.pred, .slice A2 x.atom.args.length c2, .string x.op, .bool x.l.isVar, .string x.l.name, .bool x.l.val.isSym, .string x.l.val.sym, .int .i64 x.l.val.n, .bool x.r.isVar, .string x.r.name, .bool x.r.val.isSym, .string x.r.val.sym, .int .i64 x.r.val.n], rfl, rfl, ⟨[.string x.atom.pred, .slice A2 x.atom.args.length c2], [.string x.op, .bool x.l.isVar, .string x.l.name, .bool x.l.val.isSym, .string x.l.val.sym, .int .i64 x.l.val.n, .bool x.r.isVar, .string x.r.name, .bool x.r.val.isSym, .string x.r.val.sym, .int .i64 x.r.val.n], rfl, (kAtom_mk w x.atom l2 g2), ⟨[.string x.op], [.bool x.l.isVar, .string x.l.name, .bool x.l.val.isSym, .string x.l.val.sym, .int .i64 x.l.val.n, .bool x.r.isVar, .string x.r.name, .bool x.r.val.isSym, .string x.r.val.sym, .int .i64 x.r.val.n], rfl, rfl, ⟨[.bool x.l.isVar, .string x.l.name, .bool x.l.val.isSym, .string x.l.val.sym, .int .i64 x.l.val.n], [.bool x.r.isVar, .string x.r.name, .bool x.r.val.isSym, .string x.r.val.sym, .int .i64 x.r.val.n], rfl, (kTerm_mk w x.l ), (kTerm_mk w x.r )⟩⟩⟩⟩
theorem kLiter_mkM (w : World) (base : Nat) (ok : Nat → Prop) (x : Liter) {v2 : Value} (g2 : kTerm.R 45 w base ok v2 x.atom.args) : kLiter.M w base ok x [.int .i64 x.kind, .string x.atom.pred, v2, .string x.op, .bool x.l.isVar, .string x.l.name, .bool x.l.val.isSym, .string x.l.val.sym, .int .i64 x.l.val.n, .bool x.r.isVar, .string x.r.name, .bool x.r.val.isSym, .string x.r.val.sym, .int .i64 x.r.val.n] := ⟨[.int .i64 x.kind], [.string x.atom.pred, v2, .string x.op, .bool x.l.isVar, .string x.l.name, .bool x.l.val.isSym, .string x.l.val.sym, .int .i64 x.l.val.n, .bool x.r.isVar, .string x.r.name, .bool x.r.val.isSym, .string x.r.val.sym, .int .i64 x.r.val.n], rfl, rfl, ⟨[.string x.atom.pred, v2], [.string x.op, .bool x.l.isVar, .string x.l.name, .bool x.l.val.isSym, .string x.l.val.sym, .int .i64 x.l.val.n, .bool x.r.isVar, .string x.r.name, .bool x.r.val.isSym, .string x.r.val.sym, .int .i64 x.r.val.n], rfl, (kAtom_mkM w base ok x.atom g2), ⟨[.string x.op], [.bool x.l.isVar, .string x.l.name, .bool x.l.val.isSym, .string x.l.val.sym, .int .i64 x.l.val.n, .bool x.r.isVar, .string x.r.name, .bool x.r.val.isSym, .string x.r.val.sym, .int .i64 x.r.val.n], rfl, rfl, ⟨[.bool x.l.isVar, .string x.l.name, .bool x.l.val.isSym, .string x.l.val.sym, .int .i64 x.l.val.n], [.bool x.r.isVar, .string x.r.name, .bool x.r.val.isSym, .string x.r.val.sym, .int .i64 x.r.val.n], rfl, (kTerm_mkM w base ok x.l ), (kTerm_mkM w base ok x.r )⟩⟩⟩⟩
theorem at_Liter {w : World} {A : Option Addr} {n : Nat} {xs : List Liter} (h : Kd.C kLiter w A n xs) {i : Nat} {y : Liter} (hy : xs[i]? = some y) : ∃ ad A2 c2, A = some ad ∧ w.cell? (ad.add (i * 14)) = some (.int .i64 y.kind) ∧ w.cell? ⟨(ad.add (i * 14)).block, (ad.add (i * 14)).off + 1, none⟩ = some (.string y.atom.pred) ∧ w.cell? ⟨(ad.add (i * 14)).block, (ad.add (i * 14)).off + 2, none⟩ = some (.slice A2 y.atom.args.length c2) ∧ w.cell? ⟨(ad.add (i * 14)).block, (ad.add (i * 14)).off + 3, none⟩ = some (.string y.op) ∧ w.cell? ⟨(ad.add (i * 14)).block, (ad.add (i * 14)).off + 4, none⟩ = some (.bool y.l.isVar) ∧ w.cell? ⟨(ad.add (i * 14)).block, (ad.add (i * 14)).off + 5, none⟩ = some (.string y.l.name) ∧ w.cell? ⟨(ad.add (i * 14)).block, (ad.add (i * 14)).off + 6, none⟩ = some (.bool y.l.val.isSym) ∧ w.cell? ⟨(ad.add (i * 14)).block, (ad.add (i * 14)).off + 7, none⟩ = some (.string y.l.val.sym) ∧ w.cell? ⟨(ad.add (i * 14)).block, (ad.add (i * 14)).off + 8, none⟩ = some (.int .i64 y.l.val.n) ∧ w.cell? ⟨(ad.add (i * 14)).block, (ad.add (i * 14)).off + 9, none⟩ = some (.bool y.r.isVar) ∧ w.cell? ⟨(ad.add (i * 14)).block, (ad.add (i * 14)).off + 10, none⟩ = some (.string y.r.name) ∧ w.cell? ⟨(ad.add (i * 14)).block, (ad.add (i * 14)).off + 11, none⟩ = some (.bool y.r.val.isSym) ∧ w.cell? ⟨(ad.add (i * 14)).block, (ad.add (i * 14)).off + 12, none⟩ = some (.string y.r.val.sym) ∧ w.cell? ⟨(ad.add (i * 14)).block, (ad.add (i * 14)).off + 13, none⟩ = some (.int .i64 y.r.val.n) ∧ y.atom.args.length ≤ c2 ∧ kTerm.C w A2 y.atom.args.length y.atom.args := by
  obtain ⟨ad, c, e, _, hK, hc⟩ := Kd.C_nth h hy
  rw [show kLiter.sz = 14 from rfl] at hc
  obtain ⟨A2, c2, rfl, l2, g2⟩ := kLiter_open hK
  exact ⟨ad, A2, c2, e, by have hq := hc 0 _ rfl; rwa [Nat.add_zero] at hq, by rw [← add_field _ _ 1 (by omega)]; exact hc 1 _ rfl, by rw [← add_field _ _ 2 (by omega)]; exact hc 2 _ rfl, by rw [← add_field _ _ 3 (by omega)]; exact hc 3 _ rfl, by rw [← add_field _ _ 4 (by omega)]; exact hc 4 _ rfl, by rw [← add_field _ _ 5 (by omega)]; exact hc 5 _ rfl, by rw [← add_field _ _ 6 (by omega)]; exact hc 6 _ rfl, by rw [← add_field _ _ 7 (by omega)]; exact hc 7 _ rfl, by rw [← add_field _ _ 8 (by omega)]; exact hc 8 _ rfl, by rw [← add_field _ _ 9 (by omega)]; exact hc 9 _ rfl, by rw [← add_field _ _ 10 (by omega)]; exact hc 10 _ rfl, by rw [← add_field _ _ 11 (by omega)]; exact hc 11 _ rfl, by rw [← add_field _ _ 12 (by omega)]; exact hc 12 _ rfl, by rw [← add_field _ _ 13 (by omega)]; exact hc 13 _ rfl, l2, g2⟩
def kRule : Kd Rule := Kd.iso (Kd.pair kAtom (Kd.slice 47 kLiter)) (fun x : Rule => (x.head, x.body))
theorem kRule_open {w : World} {x : Rule} {cs : List Value} (h : kRule.K w x cs) : ∃ A1 c1 A2 c2, cs = [.string x.head.pred, .slice A1 x.head.args.length c1, .slice A2 x.body.length c2] ∧ x.head.args.length ≤ c1 ∧ kTerm.C w A1 x.head.args.length x.head.args ∧ x.body.length ≤ c2 ∧ kLiter.C w A2 x.body.length x.body := by
  obtain ⟨_, _, rfl, s0, ⟨A2, c2, rfl, l2, g2⟩⟩ := h
  obtain ⟨A1, c1, rfl, l1, g1⟩ := kAtom_open s0
  exact ⟨A1, c1, A2, c2, rfl, l1, g1, l2, g2⟩
theorem kRule_openM {w : World} {base : Nat} {ok : Nat → Prop} {x : Rule} {cs : List Value} (h : kRule.M w base ok x cs) : ∃ v1 v2, cs = [.string x.head.pred, v1, v2] ∧ kTerm.R 45 w base ok v1 x.head.args ∧ kLiter.R 47 w base ok v2 x.body := by
  obtain ⟨_, _, rfl, s0, ⟨v2, rfl, g2⟩⟩ := h
  obtain ⟨v1, rfl, g1⟩ := kAtom_openM s0
  exact ⟨v1, v2, rfl, g1, g2⟩
theorem kRule_mk (w : World) (x : Rule) {A1 : Option Addr} {c1 : Nat} (l1 : x.head.args.length ≤ c1) (g1 : kTerm.C w A1 x.head.args.length x.head.args) {A2 : Option Addr} {c2 : Nat} (l2 : x.body.length ≤ c2) (g2 : kLiter.C w A2 x.body.length x.body) : kRule.K w x [.string x.head.pred, .slice A1 x.head.args.length c1, .slice A2 x.body.length c2] := ⟨[.string x.head.pred, .slice A1 x.head.args.length c1], [.slice A2 x.body.length c2], rfl, (kAtom_mk w x.head l1 g1), ⟨A2, c2, rfl, l2, g2⟩⟩
theorem kRule_mkM (w : World) (base : Nat) (ok : Nat → Prop) (x : Rule) {v1 : Value} (g1 : kTerm.R 45 w base ok v1 x.head.args) {v2 : Value} (g2 : kLiter.R 47 w base ok v2 x.body) : kRule.M w base ok x [.string x.head.pred, v1, v2] := ⟨[.string x.head.pred, v1], [v2], rfl, (kAtom_mkM w base ok x.head g1), ⟨v2, rfl, g2⟩⟩
theorem at_Rule {w : World} {A : Option Addr} {n : Nat} {xs : List Rule} (h : Kd.C kRule w A n xs) {i : Nat} {y : Rule} (hy : xs[i]? = some y) : ∃ ad A1 c1 A2 c2, A = some ad ∧ w.cell? (ad.add (i * 3)) = some (.string y.head.pred) ∧ w.cell? ⟨(ad.add (i * 3)).block, (ad.add (i * 3)).off + 1, none⟩ = some (.slice A1 y.head.args.length c1) ∧ w.cell? ⟨(ad.add (i * 3)).block, (ad.add (i * 3)).off + 2, none⟩ = some (.slice A2 y.body.length c2) ∧ y.head.args.length ≤ c1 ∧ kTerm.C w A1 y.head.args.length y.head.args ∧ y.body.length ≤ c2 ∧ kLiter.C w A2 y.body.length y.body := by
  obtain ⟨ad, c, e, _, hK, hc⟩ := Kd.C_nth h hy
  rw [show kRule.sz = 3 from rfl] at hc
  obtain ⟨A1, c1, A2, c2, rfl, l1, g1, l2, g2⟩ := kRule_open hK
  exact ⟨ad, A1, c1, A2, c2, e, by have hq := hc 0 _ rfl; rwa [Nat.add_zero] at hq, by rw [← add_field _ _ 1 (by omega)]; exact hc 1 _ rfl, by rw [← add_field _ _ 2 (by omega)]; exact hc 2 _ rfl, l1, g1, l2, g2⟩
end Go.Proofs.Ythpejcnldecmoaa.H
