/- Texts of this seat that its laws share, joined. -/
import Derived.Test.YthpejcnldecmoaaProg
import Derived.Below
import Derived.Deep.Draws
import Derived.Deep.AppendLies
import Derived.Maps.AppendAt
import Derived.OwnWalk
import Derived.Laws.BytesArg
import Derived.Laws.MakeOwn
import Derived.Laws.OwnMore
import Derived.Deep.OwnRows
import Derived.Tactics
import Derived.Lib.ConvBytes
import Derived.Laws.Slices
import Derived.WalkKit
import Derived.KernelRfl
import Derived.RowKit3
import Derived.Deep.LoopGhost
import Derived.Deep.QuietTactic
import Derived.BigQuiet
import Derived.WideLaws
import Derived.Deep.DeepCutAuto
import Derived.Deep.CutBlock
import Derived.Deep.RegionHeld3
import Derived.Laws.Rows
import Derived.Lib.AppendStr
import Derived.ArgAppend
import Derived.Laws.IdiomCopy
import Derived.OrdersHeld
import Derived.Laws.BitsLemmas
import Derived.RowKit
import Derived.Test.YthpejcnldecmoaaWWords
import Derived.Test.YthpejcnldecmoaaWLast
import Derived.Test.YthpejcnldecmoaaWTab
import Derived.Test.YthpejcnldecmoaaWFour
import Derived.Test.YthpejcnldecmoaaWQPut
import Derived.Test.YthpejcnldecmoaaWApart
import Derived.Test.YthpejcnldecmoaaWArr
import Derived.Test.YthpejcnldecmoaaWZeros
import Derived.Test.YthpejcnldecmoaaWFoot
import Derived.Test.YthpejcnldecmoaaWKept
import Derived.Test.YthpejcnldecmoaaWShare
import Derived.Test.YthpejcnldecmoaaWN
import Derived.Test.YthpejcnldecmoaaWFootNe
import Derived.Test.YthpejcnldecmoaaWAt
import Derived.Test.YthpejcnldecmoaaWEqStruct
import Derived.Test.YthpejcnldecmoaaWRepsOne
import Derived.Test.YthpejcnldecmoaaWInv
import Derived.Test.YthpejcnldecmoaaWInvWords
import Derived.Test.YthpejcnldecmoaaWGuard
import Derived.Test.YthpejcnldecmoaaWNEv
import Derived.Test.YthpejcnldecmoaaWMore
import Derived.Shelf.Abstract
import Derived.Deep.DeepMust
import Derived.Outline
import Derived.Lib.SliceRun
import Derived.OpenShut
import Derived.SizedLaws
import Derived.DataReads
-- made by a program of this session (wip/tools) out of the translation; Lean checks it.
namespace Go.Proofs.Ythpejcnldecmoaa.H
open Go.RowKit Go.Proofs.YthpejcnldecmoaaW.PrintWords Go.Proofs.YthpejcnldecmoaaW.PrintLast Go.Proofs.YthpejcnldecmoaaW.PrintMore
attribute [local go_sem] max2_int min2_int max_two min_two max_three min_three max_four min_four   -- for this text's walks alone
set_option linter.unusedVariables false
set_option linter.unusedSimpArgs false



def errW : Option Int → Value
 | none => .nilIface
 | some c => .iface 0 (.int .i64 c)
theorem errW_none : errW none = .nilIface := rfl
theorem errW_some (c : Int) : errW (some c) = .iface 0 (.int .i64 c) := rfl

theorem info3 : (Try.prog.info? 3).map (fun i => (i.zero, i.size, i.bytes)) = some (some (.int .i64 0), 1, 8) := by kernel_rfl
theorem info4 : (Try.prog.info? 4).map (fun i => (i.zero, i.size, i.bytes)) = some (some (.bool false), 1, 1) := by kernel_rfl
theorem info9 : (Try.prog.info? 9).map (fun i => (i.zero, i.size, i.bytes)) = some (some (.string ⟨#[]⟩), 1, 16) := by kernel_rfl
theorem info27 : (Try.prog.info? 27).map (fun i => (i.zero, i.size, i.bytes)) = some (some (.agg #[(.string ⟨#[]⟩), (.slice none 0 0), (.slice none 0 0)]), 3, 64) := by kernel_rfl
theorem info28 : (Try.prog.info? 28).map (fun i => (i.zero, i.size, i.bytes)) = some (some (.slice none 0 0), 1, 24) := by kernel_rfl
theorem info45 : (Try.prog.info? 45).map (fun i => (i.zero, i.size, i.bytes)) = some (some (.agg #[(.bool false), (.string ⟨#[]⟩), (.bool false), (.string ⟨#[]⟩), (.int .i64 0)]), 5, 56) := by kernel_rfl
theorem info47 : (Try.prog.info? 47).map (fun i => (i.zero, i.size, i.bytes)) = some (some (.agg #[(.int .i64 0), (.string ⟨#[]⟩), (.slice none 0 0), (.string ⟨#[]⟩), (.bool false), (.string ⟨#[]⟩), (.bool false), (.string ⟨#[]⟩), (.int .i64 0), (.bool false), (.string ⟨#[]⟩), (.bool false), (.string ⟨#[]⟩), (.int .i64 0)]), 14, 176) := by kernel_rfl
theorem info137 : (Try.prog.info? 137).map (fun i => (i.zero, i.size, i.bytes)) = some (some (.agg #[(.string ⟨#[]⟩), (.int .i64 0)]), 2, 24) := by kernel_rfl
-- the values' own types
/-! #### struct type 43 -/
structure Val where
 isSym : Bool
 sym : ByteArray
 n : Int
deriving DecidableEq
def z43 : Val := ⟨false, (⟨#[]⟩ : ByteArray), (0 : Int)⟩
def k43 : Kd Val := Kd.iso (Kd.pair Kd.bool (Kd.pair Kd.string (Kd.int .i64))) (fun x : Val => (x.isSym, x.sym, x.n))
theorem k43_heap : Kd.Heap k43 := Kd.heap_iso _ (Kd.heap_pair Kd.heap_bool (Kd.heap_pair Kd.heap_string (Kd.heap_int .i64)))
theorem k43_open {w : World} {x : Val} {cs : List Value} (h : k43.K w x cs) : cs = [.bool x.isSym, .string x.sym, .int .i64 x.n] := by
 obtain ⟨_, _, rfl, rfl, ⟨_, _, rfl, rfl, rfl⟩⟩ := h
 exact rfl
theorem k43_openM {w : World} {base : Nat} {ok : Nat → Prop} {x : Val} {cs : List Value} (h : k43.M w base ok x cs) : cs = [.bool x.isSym, .string x.sym, .int .i64 x.n] := by
 obtain ⟨_, _, rfl, rfl, ⟨_, _, rfl, rfl, rfl⟩⟩ := h
 exact rfl
theorem k43_mk (w : World) (x : Val)  : k43.K w x [.bool x.isSym, .string x.sym, .int .i64 x.n] := ⟨[.bool x.isSym], [.string x.sym, .int .i64 x.n], rfl, rfl, ⟨[.string x.sym], [.int .i64 x.n], rfl, rfl, rfl⟩⟩
theorem k43_mkM (w : World) (base : Nat) (ok : Nat → Prop) (x : Val)  : k43.M w base ok x [.bool x.isSym, .string x.sym, .int .i64 x.n] := ⟨[.bool x.isSym], [.string x.sym, .int .i64 x.n], rfl, rfl, ⟨[.string x.sym], [.int .i64 x.n], rfl, rfl, rfl⟩⟩
theorem k43_mkF (W : World) (ok : Nat → Prop) (x : Val) : Kd.FK k43 W ok x [.bool x.isSym, .string x.sym, .int .i64 x.n] := fun W2 _ => k43_mk W2 x
def rd_T43 (xs : List Val) (i : Int) : Val := xs.getD i.toNat z43
theorem at_T43 {w : World} {A : Option Addr} {n : Nat} {xs : List Val} (h : Kd.C k43 w A n xs) (i : Int) (h0 : 0 ≤ i) (h1 : i < n) : ∃ ad , A = some ad ∧ w.cell? (ad.add (i.toNat * 3)) = some (.bool (rd_T43 xs i).isSym) ∧ w.cell? ⟨(ad.add (i.toNat * 3)).block, (ad.add (i.toNat * 3)).off + 1, none⟩ = some (.string (rd_T43 xs i).sym) ∧ w.cell? ⟨(ad.add (i.toNat * 3)).block, (ad.add (i.toNat * 3)).off + 2, none⟩ = some (.int .i64 (rd_T43 xs i).n) := by
 obtain ⟨ad, c, e, _, hK, hc0⟩ := Kd.C_get h z43 i h0 h1
 have hc : ∀ j u, c[j]? = some u → w.cell? (ad.add (i.toNat * 3 + j)) = some u := hc0
 obtain rfl := k43_open hK
 exact ⟨ad, e, hc 0 _ rfl, by rw [← add_field _ _ 1 (by omega)]; exact hc 1 _ rfl, by rw [← add_field _ _ 2 (by omega)]; exact hc 2 _ rfl⟩

/-! #### struct type 45 -/
structure Term where
 isVar : Bool
 name : ByteArray
 val : Val
deriving DecidableEq
def z45 : Term := ⟨false, (⟨#[]⟩ : ByteArray), z43⟩
def k45 : Kd Term := Kd.iso (Kd.pair Kd.bool (Kd.pair Kd.string k43)) (fun x : Term => (x.isVar, x.name, x.val))
theorem k45_heap : Kd.Heap k45 := Kd.heap_iso _ (Kd.heap_pair Kd.heap_bool (Kd.heap_pair Kd.heap_string k43_heap))
theorem k45_open {w : World} {x : Term} {cs : List Value} (h : k45.K w x cs) : cs = [.bool x.isVar, .string x.name, .bool x.val.isSym, .string x.val.sym, .int .i64 x.val.n] := by
 obtain ⟨_, _, rfl, rfl, ⟨_, _, rfl, rfl, s2⟩⟩ := h
 obtain rfl := k43_open s2
 exact rfl
theorem k45_openM {w : World} {base : Nat} {ok : Nat → Prop} {x : Term} {cs : List Value} (h : k45.M w base ok x cs) : cs = [.bool x.isVar, .string x.name, .bool x.val.isSym, .string x.val.sym, .int .i64 x.val.n] := by
 obtain ⟨_, _, rfl, rfl, ⟨_, _, rfl, rfl, s2⟩⟩ := h
 obtain rfl := k43_openM s2
 exact rfl
theorem k45_mk (w : World) (x : Term)  : k45.K w x [.bool x.isVar, .string x.name, .bool x.val.isSym, .string x.val.sym, .int .i64 x.val.n] := ⟨[.bool x.isVar], [.string x.name, .bool x.val.isSym, .string x.val.sym, .int .i64 x.val.n], rfl, rfl, ⟨[.string x.name], [.bool x.val.isSym, .string x.val.sym, .int .i64 x.val.n], rfl, rfl, (k43_mk w x.val )⟩⟩
theorem k45_mkM (w : World) (base : Nat) (ok : Nat → Prop) (x : Term)  : k45.M w base ok x [.bool x.isVar, .string x.name, .bool x.val.isSym, .string x.val.sym, .int .i64 x.val.n] := ⟨[.bool x.isVar], [.string x.name, .bool x.val.isSym, .string x.val.sym, .int .i64 x.val.n], rfl, rfl, ⟨[.string x.name], [.bool x.val.isSym, .string x.val.sym, .int .i64 x.val.n], rfl, rfl, (k43_mkM w base ok x.val )⟩⟩
theorem k45_mkF (W : World) (ok : Nat → Prop) (x : Term) : Kd.FK k45 W ok x [.bool x.isVar, .string x.name, .bool x.val.isSym, .string x.val.sym, .int .i64 x.val.n] := fun W2 _ => k45_mk W2 x
def rd_T45 (xs : List Term) (i : Int) : Term := xs.getD i.toNat z45
theorem at_T45 {w : World} {A : Option Addr} {n : Nat} {xs : List Term} (h : Kd.C k45 w A n xs) (i : Int) (h0 : 0 ≤ i) (h1 : i < n) : ∃ ad , A = some ad ∧ w.cell? (ad.add (i.toNat * 5)) = some (.bool (rd_T45 xs i).isVar) ∧ w.cell? ⟨(ad.add (i.toNat * 5)).block, (ad.add (i.toNat * 5)).off + 1, none⟩ = some (.string (rd_T45 xs i).name) ∧ w.cell? ⟨(ad.add (i.toNat * 5)).block, (ad.add (i.toNat * 5)).off + 2, none⟩ = some (.bool (rd_T45 xs i).val.isSym) ∧ w.cell? ⟨(ad.add (i.toNat * 5)).block, (ad.add (i.toNat * 5)).off + 3, none⟩ = some (.string (rd_T45 xs i).val.sym) ∧ w.cell? ⟨(ad.add (i.toNat * 5)).block, (ad.add (i.toNat * 5)).off + 4, none⟩ = some (.int .i64 (rd_T45 xs i).val.n) := by
 obtain ⟨ad, c, e, _, hK, hc0⟩ := Kd.C_get h z45 i h0 h1
 have hc : ∀ j u, c[j]? = some u → w.cell? (ad.add (i.toNat * 5 + j)) = some u := hc0
 obtain rfl := k45_open hK
 exact ⟨ad, e, hc 0 _ rfl, by rw [← add_field _ _ 1 (by omega)]; exact hc 1 _ rfl, by rw [← add_field _ _ 2 (by omega)]; exact hc 2 _ rfl, by rw [← add_field _ _ 3 (by omega)]; exact hc 3 _ rfl, by rw [← add_field _ _ 4 (by omega)]; exact hc 4 _ rfl⟩

def rd_L5 (xs : List (List Term)) (i : Int) : (List Term) := xs.getD i.toNat ([] : List Term)
theorem at_L5 {w : World} {A : Option Addr} {n : Nat} {xs : List (List Term)} (h : Kd.C (Kd.slice 45 k45) w A n xs) (i : Int) (h0 : 0 ≤ i) (h1 : i < n) : ∃ ad A0 c0, A = some ad ∧ w.cell? (ad.add i.toNat) = some (.slice A0 (rd_L5 xs i).length c0) ∧ (rd_L5 xs i).length ≤ c0 ∧ k45.C w A0 (rd_L5 xs i).length (rd_L5 xs i) := by
 obtain ⟨ad, c, e, _, hK, hc0⟩ := Kd.C_get h ([] : List Term) i h0 h1
 have hc : ∀ j u, c[j]? = some u → w.cell? (ad.add (i.toNat * 1 + j)) = some u := hc0
 obtain ⟨A0, c0, rfl, l0, g0⟩ := hK
 exact ⟨ad, A0, c0, e, by have hq := hc 0 _ rfl; rwa [Nat.mul_one, Nat.add_zero] at hq, l0, g0⟩

/-! #### struct type 24 -/
structure Atom where
 pred : ByteArray
 args : (List Term)
deriving DecidableEq
def z24 : Atom := ⟨(⟨#[]⟩ : ByteArray), ([] : List Term)⟩
def k24 : Kd Atom := Kd.iso (Kd.pair Kd.string (Kd.slice 45 k45)) (fun x : Atom => (x.pred, x.args))
theorem k24_heap : Kd.Heap k24 := Kd.heap_iso _ (Kd.heap_pair Kd.heap_string (Kd.heap_slice 45 k45_heap))
theorem k24_open {w : World} {x : Atom} {cs : List Value} (h : k24.K w x cs) : ∃ A1 c1, cs = [.string x.pred, .slice A1 x.args.length c1] ∧ x.args.length ≤ c1 ∧ k45.C w A1 x.args.length x.args := by
 obtain ⟨_, _, rfl, rfl, ⟨A1, c1, rfl, l1, g1⟩⟩ := h
 exact ⟨A1, c1, rfl, l1, g1⟩
theorem k24_openM {w : World} {base : Nat} {ok : Nat → Prop} {x : Atom} {cs : List Value} (h : k24.M w base ok x cs) : ∃ v1, cs = [.string x.pred, v1] ∧ k45.R 45 w base ok v1 x.args := by
 obtain ⟨_, _, rfl, rfl, ⟨v1, rfl, g1⟩⟩ := h
 exact ⟨v1, rfl, g1⟩
theorem k24_mk (w : World) (x : Atom) {A1 : Option Addr} {c1 : Nat} (l1 : x.args.length ≤ c1) (g1 : k45.C w A1 x.args.length x.args) : k24.K w x [.string x.pred, .slice A1 x.args.length c1] := ⟨[.string x.pred], [.slice A1 x.args.length c1], rfl, rfl, ⟨A1, c1, rfl, l1, g1⟩⟩
theorem k24_mkM (w : World) (base : Nat) (ok : Nat → Prop) (x : Atom) {v1 : Value} (g1 : k45.R 45 w base ok v1 x.args) : k24.M w base ok x [.string x.pred, v1] := ⟨[.string x.pred], [v1], rfl, rfl, ⟨v1, rfl, g1⟩⟩
theorem k24_openF {W : World} {ok : Nat → Prop} {x : Atom} {cs : List Value} (h : Kd.FK k24 W ok x cs) : ∃ A1 c1, cs = [.string x.pred, .slice A1 x.args.length c1] ∧ x.args.length ≤ c1 ∧ Kd.F k45 W ok A1 x.args.length x.args := by
 obtain ⟨A1, c1, rfl, l1, _⟩ := k24_open (Kd.FK_now h)
 exact ⟨A1, c1, rfl, l1, (fun W' hW => by obtain ⟨A1_, c1_, he, l1_, g1_⟩ := k24_open (h W' hW); injection (Option.some.inj (show some (Value.slice A1 x.args.length c1) = some (Value.slice A1_ x.args.length c1_) from congrArg (fun l => l[1]?) he)) with ha_ _ _; rw [ha_]; exact g1_)⟩
theorem k24_mkF (W : World) (ok : Nat → Prop) (x : Atom) {A1 : Option Addr} {c1 : Nat} (l1 : x.args.length ≤ c1) (g1 : Kd.F k45 W ok A1 x.args.length x.args) : Kd.FK k24 W ok x [.string x.pred, .slice A1 x.args.length c1] := fun W2 hW => k24_mk W2 x l1 (g1 W2 hW)
def rd_T24 (xs : List Atom) (i : Int) : Atom := xs.getD i.toNat z24
theorem at_T24 {w : World} {A : Option Addr} {n : Nat} {xs : List Atom} (h : Kd.C k24 w A n xs) (i : Int) (h0 : 0 ≤ i) (h1 : i < n) : ∃ ad A1 c1, A = some ad ∧ w.cell? (ad.add (i.toNat * 2)) = some (.string (rd_T24 xs i).pred) ∧ w.cell? ⟨(ad.add (i.toNat * 2)).block, (ad.add (i.toNat * 2)).off + 1, none⟩ = some (.slice A1 (rd_T24 xs i).args.length c1) ∧ (rd_T24 xs i).args.length ≤ c1 ∧ k45.C w A1 (rd_T24 xs i).args.length (rd_T24 xs i).args := by
 obtain ⟨ad, c, e, _, hK, hc0⟩ := Kd.C_get h z24 i h0 h1
 have hc : ∀ j u, c[j]? = some u → w.cell? (ad.add (i.toNat * 2 + j)) = some u := hc0
 obtain ⟨A1, c1, rfl, l1, g1⟩ := k24_open hK
 exact ⟨ad, A1, c1, e, hc 0 _ rfl, by rw [← add_field _ _ 1 (by omega)]; exact hc 1 _ rfl, l1, g1⟩

/-! #### struct type 47 -/
structure Liter where
 kind : Int
 atom : Atom
 op : ByteArray
 l : Term
 r : Term
deriving DecidableEq
def z47 : Liter := ⟨(0 : Int), z24, (⟨#[]⟩ : ByteArray), z45, z45⟩
def k47 : Kd Liter := Kd.iso (Kd.pair (Kd.int .i64) (Kd.pair k24 (Kd.pair Kd.string (Kd.pair k45 k45)))) (fun x : Liter => (x.kind, x.atom, x.op, x.l, x.r))
theorem k47_heap : Kd.Heap k47 := Kd.heap_iso _ (Kd.heap_pair (Kd.heap_int .i64) (Kd.heap_pair k24_heap (Kd.heap_pair Kd.heap_string (Kd.heap_pair k45_heap k45_heap))))
theorem k47_open {w : World} {x : Liter} {cs : List Value} (h : k47.K w x cs) : ∃ A2 c2, cs = [.int .i64 x.kind, .string x.atom.pred, .slice A2 x.atom.args.length c2, .string x.op, .bool x.l.isVar, .string x.l.name, .bool x.l.val.isSym, .string x.l.val.sym, .int .i64 x.l.val.n, .bool x.r.isVar, .string x.r.name, .bool x.r.val.isSym, .string x.r.val.sym, .int .i64 x.r.val.n] ∧ x.atom.args.length ≤ c2 ∧ k45.C w A2 x.atom.args.length x.atom.args := by
 obtain ⟨_, _, rfl, rfl, ⟨_, _, rfl, s1, ⟨_, _, rfl, rfl, ⟨_, _, rfl, s4, s9⟩⟩⟩⟩ := h
 obtain ⟨A2, c2, rfl, l2, g2⟩ := k24_open s1
 obtain rfl := k45_open s4
 obtain rfl := k45_open s9
 exact ⟨A2, c2, rfl, l2, g2⟩
theorem k47_openM {w : World} {base : Nat} {ok : Nat → Prop} {x : Liter} {cs : List Value} (h : k47.M w base ok x cs) : ∃ v2, cs = [.int .i64 x.kind, .string x.atom.pred, v2, .string x.op, .bool x.l.isVar, .string x.l.name, .bool x.l.val.isSym, .string x.l.val.sym, .int .i64 x.l.val.n, .bool x.r.isVar, .string x.r.name, .bool x.r.val.isSym, .string x.r.val.sym, .int .i64 x.r.val.n] ∧ k45.R 45 w base ok v2 x.atom.args := by
 obtain ⟨_, _, rfl, rfl, ⟨_, _, rfl, s1, ⟨_, _, rfl, rfl, ⟨_, _, rfl, s4, s9⟩⟩⟩⟩ := h
 obtain ⟨v2, rfl, g2⟩ := k24_openM s1
 obtain rfl := k45_openM s4
 obtain rfl := k45_openM s9
 exact ⟨v2, rfl, g2⟩
theorem k47_mk (w : World) (x : Liter) {A2 : Option Addr} {c2 : Nat} (l2 : x.atom.args.length ≤ c2) (g2 : k45.C w A2 x.atom.args.length x.atom.args) : k47.K w x [.int .i64 x.kind, .string x.atom.pred, .slice A2 x.atom.args.length c2, .string x.op, .bool x.l.isVar, .string x.l.name, .bool x.l.val.isSym, .string x.l.val.sym, .int .i64 x.l.val.n, .bool x.r.isVar, .string x.r.name, .bool x.r.val.isSym, .string x.r.val.sym, .int .i64 x.r.val.n] := ⟨[.int .i64 x.kind], [.string x.atom.pred, .slice A2 x.atom.args.length c2, .string x.op, .bool x.l.isVar, .string x.l.name, .bool x.l.val.isSym, .string x.l.val.sym, .int .i64 x.l.val.n, .bool x.r.isVar, .string x.r.name, .bool x.r.val.isSym, .string x.r.val.sym, .int .i64 x.r.val.n], rfl, rfl, ⟨[.string x.atom.pred, .slice A2 x.atom.args.length c2], [.string x.op, .bool x.l.isVar, .string x.l.name, .bool x.l.val.isSym, .string x.l.val.sym, .int .i64 x.l.val.n, .bool x.r.isVar, .string x.r.name, .bool x.r.val.isSym, .string x.r.val.sym, .int .i64 x.r.val.n], rfl, (k24_mk w x.atom l2 g2), ⟨[.string x.op], [.bool x.l.isVar, .string x.l.name, .bool x.l.val.isSym, .string x.l.val.sym, .int .i64 x.l.val.n, .bool x.r.isVar, .string x.r.name, .bool x.r.val.isSym, .string x.r.val.sym, .int .i64 x.r.val.n], rfl, rfl, ⟨[.bool x.l.isVar, .string x.l.name, .bool x.l.val.isSym, .string x.l.val.sym, .int .i64 x.l.val.n], [.bool x.r.isVar, .string x.r.name, .bool x.r.val.isSym, .string x.r.val.sym, .int .i64 x.r.val.n], rfl, (k45_mk w x.l ), (k45_mk w x.r )⟩⟩⟩⟩
theorem k47_mkM (w : World) (base : Nat) (ok : Nat → Prop) (x : Liter) {v2 : Value} (g2 : k45.R 45 w base ok v2 x.atom.args) : k47.M w base ok x [.int .i64 x.kind, .string x.atom.pred, v2, .string x.op, .bool x.l.isVar, .string x.l.name, .bool x.l.val.isSym, .string x.l.val.sym, .int .i64 x.l.val.n, .bool x.r.isVar, .string x.r.name, .bool x.r.val.isSym, .string x.r.val.sym, .int .i64 x.r.val.n] := ⟨[.int .i64 x.kind], [.string x.atom.pred, v2, .string x.op, .bool x.l.isVar, .string x.l.name, .bool x.l.val.isSym, .string x.l.val.sym, .int .i64 x.l.val.n, .bool x.r.isVar, .string x.r.name, .bool x.r.val.isSym, .string x.r.val.sym, .int .i64 x.r.val.n], rfl, rfl, ⟨[.string x.atom.pred, v2], [.string x.op, .bool x.l.isVar, .string x.l.name, .bool x.l.val.isSym, .string x.l.val.sym, .int .i64 x.l.val.n, .bool x.r.isVar, .string x.r.name, .bool x.r.val.isSym, .string x.r.val.sym, .int .i64 x.r.val.n], rfl, (k24_mkM w base ok x.atom g2), ⟨[.string x.op], [.bool x.l.isVar, .string x.l.name, .bool x.l.val.isSym, .string x.l.val.sym, .int .i64 x.l.val.n, .bool x.r.isVar, .string x.r.name, .bool x.r.val.isSym, .string x.r.val.sym, .int .i64 x.r.val.n], rfl, rfl, ⟨[.bool x.l.isVar, .string x.l.name, .bool x.l.val.isSym, .string x.l.val.sym, .int .i64 x.l.val.n], [.bool x.r.isVar, .string x.r.name, .bool x.r.val.isSym, .string x.r.val.sym, .int .i64 x.r.val.n], rfl, (k45_mkM w base ok x.l ), (k45_mkM w base ok x.r )⟩⟩⟩⟩
theorem k47_openF {W : World} {ok : Nat → Prop} {x : Liter} {cs : List Value} (h : Kd.FK k47 W ok x cs) : ∃ A2 c2, cs = [.int .i64 x.kind, .string x.atom.pred, .slice A2 x.atom.args.length c2, .string x.op, .bool x.l.isVar, .string x.l.name, .bool x.l.val.isSym, .string x.l.val.sym, .int .i64 x.l.val.n, .bool x.r.isVar, .string x.r.name, .bool x.r.val.isSym, .string x.r.val.sym, .int .i64 x.r.val.n] ∧ x.atom.args.length ≤ c2 ∧ Kd.F k45 W ok A2 x.atom.args.length x.atom.args := by
 obtain ⟨A2, c2, rfl, l2, _⟩ := k47_open (Kd.FK_now h)
 exact ⟨A2, c2, rfl, l2, (fun W' hW => by obtain ⟨A2_, c2_, he, l2_, g2_⟩ := k47_open (h W' hW); injection (Option.some.inj (show some (Value.slice A2 x.atom.args.length c2) = some (Value.slice A2_ x.atom.args.length c2_) from congrArg (fun l => l[2]?) he)) with ha_ _ _; rw [ha_]; exact g2_)⟩
theorem k47_mkF (W : World) (ok : Nat → Prop) (x : Liter) {A2 : Option Addr} {c2 : Nat} (l2 : x.atom.args.length ≤ c2) (g2 : Kd.F k45 W ok A2 x.atom.args.length x.atom.args) : Kd.FK k47 W ok x [.int .i64 x.kind, .string x.atom.pred, .slice A2 x.atom.args.length c2, .string x.op, .bool x.l.isVar, .string x.l.name, .bool x.l.val.isSym, .string x.l.val.sym, .int .i64 x.l.val.n, .bool x.r.isVar, .string x.r.name, .bool x.r.val.isSym, .string x.r.val.sym, .int .i64 x.r.val.n] := fun W2 hW => k47_mk W2 x l2 (g2 W2 hW)
def rd_T47 (xs : List Liter) (i : Int) : Liter := xs.getD i.toNat z47
theorem at_T47 {w : World} {A : Option Addr} {n : Nat} {xs : List Liter} (h : Kd.C k47 w A n xs) (i : Int) (h0 : 0 ≤ i) (h1 : i < n) : ∃ ad A2 c2, A = some ad ∧ w.cell? (ad.add (i.toNat * 14)) = some (.int .i64 (rd_T47 xs i).kind) ∧ w.cell? ⟨(ad.add (i.toNat * 14)).block, (ad.add (i.toNat * 14)).off + 1, none⟩ = some (.string (rd_T47 xs i).atom.pred) ∧ w.cell? ⟨(ad.add (i.toNat * 14)).block, (ad.add (i.toNat * 14)).off + 2, none⟩ = some (.slice A2 (rd_T47 xs i).atom.args.length c2) ∧ w.cell? ⟨(ad.add (i.toNat * 14)).block, (ad.add (i.toNat * 14)).off + 3, none⟩ = some (.string (rd_T47 xs i).op) ∧ w.cell? ⟨(ad.add (i.toNat * 14)).block, (ad.add (i.toNat * 14)).off + 4, none⟩ = some (.bool (rd_T47 xs i).l.isVar) ∧ w.cell? ⟨(ad.add (i.toNat * 14)).block, (ad.add (i.toNat * 14)).off + 5, none⟩ = some (.string (rd_T47 xs i).l.name) ∧ w.cell? ⟨(ad.add (i.toNat * 14)).block, (ad.add (i.toNat * 14)).off + 6, none⟩ = some (.bool (rd_T47 xs i).l.val.isSym) ∧ w.cell? ⟨(ad.add (i.toNat * 14)).block, (ad.add (i.toNat * 14)).off + 7, none⟩ = some (.string (rd_T47 xs i).l.val.sym) ∧ w.cell? ⟨(ad.add (i.toNat * 14)).block, (ad.add (i.toNat * 14)).off + 8, none⟩ = some (.int .i64 (rd_T47 xs i).l.val.n) ∧ w.cell? ⟨(ad.add (i.toNat * 14)).block, (ad.add (i.toNat * 14)).off + 9, none⟩ = some (.bool (rd_T47 xs i).r.isVar) ∧ w.cell? ⟨(ad.add (i.toNat * 14)).block, (ad.add (i.toNat * 14)).off + 10, none⟩ = some (.string (rd_T47 xs i).r.name) ∧ w.cell? ⟨(ad.add (i.toNat * 14)).block, (ad.add (i.toNat * 14)).off + 11, none⟩ = some (.bool (rd_T47 xs i).r.val.isSym) ∧ w.cell? ⟨(ad.add (i.toNat * 14)).block, (ad.add (i.toNat * 14)).off + 12, none⟩ = some (.string (rd_T47 xs i).r.val.sym) ∧ w.cell? ⟨(ad.add (i.toNat * 14)).block, (ad.add (i.toNat * 14)).off + 13, none⟩ = some (.int .i64 (rd_T47 xs i).r.val.n) ∧ (rd_T47 xs i).atom.args.length ≤ c2 ∧ k45.C w A2 (rd_T47 xs i).atom.args.length (rd_T47 xs i).atom.args := by
 obtain ⟨ad, c, e, _, hK, hc0⟩ := Kd.C_get h z47 i h0 h1
 have hc : ∀ j u, c[j]? = some u → w.cell? (ad.add (i.toNat * 14 + j)) = some u := hc0
 obtain ⟨A2, c2, rfl, l2, g2⟩ := k47_open hK
 exact ⟨ad, A2, c2, e, hc 0 _ rfl, by rw [← add_field _ _ 1 (by omega)]; exact hc 1 _ rfl, by rw [← add_field _ _ 2 (by omega)]; exact hc 2 _ rfl, by rw [← add_field _ _ 3 (by omega)]; exact hc 3 _ rfl, by rw [← add_field _ _ 4 (by omega)]; exact hc 4 _ rfl, by rw [← add_field _ _ 5 (by omega)]; exact hc 5 _ rfl, by rw [← add_field _ _ 6 (by omega)]; exact hc 6 _ rfl, by rw [← add_field _ _ 7 (by omega)]; exact hc 7 _ rfl, by rw [← add_field _ _ 8 (by omega)]; exact hc 8 _ rfl, by rw [← add_field _ _ 9 (by omega)]; exact hc 9 _ rfl, by rw [← add_field _ _ 10 (by omega)]; exact hc 10 _ rfl, by rw [← add_field _ _ 11 (by omega)]; exact hc 11 _ rfl, by rw [← add_field _ _ 12 (by omega)]; exact hc 12 _ rfl, by rw [← add_field _ _ 13 (by omega)]; exact hc 13 _ rfl, l2, g2⟩

def rd_L8 (xs : List (List Liter)) (i : Int) : (List Liter) := xs.getD i.toNat ([] : List Liter)
theorem at_L8 {w : World} {A : Option Addr} {n : Nat} {xs : List (List Liter)} (h : Kd.C (Kd.slice 47 k47) w A n xs) (i : Int) (h0 : 0 ≤ i) (h1 : i < n) : ∃ ad A0 c0, A = some ad ∧ w.cell? (ad.add i.toNat) = some (.slice A0 (rd_L8 xs i).length c0) ∧ (rd_L8 xs i).length ≤ c0 ∧ k47.C w A0 (rd_L8 xs i).length (rd_L8 xs i) := by
 obtain ⟨ad, c, e, _, hK, hc0⟩ := Kd.C_get h ([] : List Liter) i h0 h1
 have hc : ∀ j u, c[j]? = some u → w.cell? (ad.add (i.toNat * 1 + j)) = some u := hc0
 obtain ⟨A0, c0, rfl, l0, g0⟩ := hK
 exact ⟨ad, A0, c0, e, by have hq := hc 0 _ rfl; rwa [Nat.mul_one, Nat.add_zero] at hq, l0, g0⟩

/-! #### struct type 27 -/
structure Rule where
 head : Atom
 body : (List Liter)
deriving DecidableEq
def z27 : Rule := ⟨z24, ([] : List Liter)⟩
def k27 : Kd Rule := Kd.iso (Kd.pair k24 (Kd.slice 47 k47)) (fun x : Rule => (x.head, x.body))
theorem k27_heap : Kd.Heap k27 := Kd.heap_iso _ (Kd.heap_pair k24_heap (Kd.heap_slice 47 k47_heap))
theorem k27_open {w : World} {x : Rule} {cs : List Value} (h : k27.K w x cs) : ∃ A1 c1 A2 c2, cs = [.string x.head.pred, .slice A1 x.head.args.length c1, .slice A2 x.body.length c2] ∧ x.head.args.length ≤ c1 ∧ k45.C w A1 x.head.args.length x.head.args ∧ x.body.length ≤ c2 ∧ k47.C w A2 x.body.length x.body := by
 obtain ⟨_, _, rfl, s0, ⟨A2, c2, rfl, l2, g2⟩⟩ := h
 obtain ⟨A1, c1, rfl, l1, g1⟩ := k24_open s0
 exact ⟨A1, c1, A2, c2, rfl, l1, g1, l2, g2⟩
theorem k27_openM {w : World} {base : Nat} {ok : Nat → Prop} {x : Rule} {cs : List Value} (h : k27.M w base ok x cs) : ∃ v1 v2, cs = [.string x.head.pred, v1, v2] ∧ k45.R 45 w base ok v1 x.head.args ∧ k47.R 47 w base ok v2 x.body := by
 obtain ⟨_, _, rfl, s0, ⟨v2, rfl, g2⟩⟩ := h
 obtain ⟨v1, rfl, g1⟩ := k24_openM s0
 exact ⟨v1, v2, rfl, g1, g2⟩
theorem k27_mk (w : World) (x : Rule) {A1 : Option Addr} {c1 : Nat} (l1 : x.head.args.length ≤ c1) (g1 : k45.C w A1 x.head.args.length x.head.args) {A2 : Option Addr} {c2 : Nat} (l2 : x.body.length ≤ c2) (g2 : k47.C w A2 x.body.length x.body) : k27.K w x [.string x.head.pred, .slice A1 x.head.args.length c1, .slice A2 x.body.length c2] := ⟨[.string x.head.pred, .slice A1 x.head.args.length c1], [.slice A2 x.body.length c2], rfl, (k24_mk w x.head l1 g1), ⟨A2, c2, rfl, l2, g2⟩⟩
theorem k27_mkM (w : World) (base : Nat) (ok : Nat → Prop) (x : Rule) {v1 : Value} (g1 : k45.R 45 w base ok v1 x.head.args) {v2 : Value} (g2 : k47.R 47 w base ok v2 x.body) : k27.M w base ok x [.string x.head.pred, v1, v2] := ⟨[.string x.head.pred, v1], [v2], rfl, (k24_mkM w base ok x.head g1), ⟨v2, rfl, g2⟩⟩
theorem k27_openF {W : World} {ok : Nat → Prop} {x : Rule} {cs : List Value} (h : Kd.FK k27 W ok x cs) : ∃ A1 c1 A2 c2, cs = [.string x.head.pred, .slice A1 x.head.args.length c1, .slice A2 x.body.length c2] ∧ x.head.args.length ≤ c1 ∧ Kd.F k45 W ok A1 x.head.args.length x.head.args ∧ x.body.length ≤ c2 ∧ Kd.F k47 W ok A2 x.body.length x.body := by
 obtain ⟨A1, c1, A2, c2, rfl, l1, _, l2, _⟩ := k27_open (Kd.FK_now h)
 exact ⟨A1, c1, A2, c2, rfl, l1, (fun W' hW => by obtain ⟨A1_, c1_, A2_, c2_, he, l1_, g1_, l2_, g2_⟩ := k27_open (h W' hW); injection (Option.some.inj (show some (Value.slice A1 x.head.args.length c1) = some (Value.slice A1_ x.head.args.length c1_) from congrArg (fun l => l[1]?) he)) with ha_ _ _; rw [ha_]; exact g1_), l2, (fun W' hW => by obtain ⟨A1_, c1_, A2_, c2_, he, l1_, g1_, l2_, g2_⟩ := k27_open (h W' hW); injection (Option.some.inj (show some (Value.slice A2 x.body.length c2) = some (Value.slice A2_ x.body.length c2_) from congrArg (fun l => l[2]?) he)) with ha_ _ _; rw [ha_]; exact g2_)⟩
theorem k27_mkF (W : World) (ok : Nat → Prop) (x : Rule) {A1 : Option Addr} {c1 : Nat} (l1 : x.head.args.length ≤ c1) (g1 : Kd.F k45 W ok A1 x.head.args.length x.head.args) {A2 : Option Addr} {c2 : Nat} (l2 : x.body.length ≤ c2) (g2 : Kd.F k47 W ok A2 x.body.length x.body) : Kd.FK k27 W ok x [.string x.head.pred, .slice A1 x.head.args.length c1, .slice A2 x.body.length c2] := fun W2 hW => k27_mk W2 x l1 (g1 W2 hW) l2 (g2 W2 hW)
def rd_T27 (xs : List Rule) (i : Int) : Rule := xs.getD i.toNat z27
theorem at_T27 {w : World} {A : Option Addr} {n : Nat} {xs : List Rule} (h : Kd.C k27 w A n xs) (i : Int) (h0 : 0 ≤ i) (h1 : i < n) : ∃ ad A1 c1 A2 c2, A = some ad ∧ w.cell? (ad.add (i.toNat * 3)) = some (.string (rd_T27 xs i).head.pred) ∧ w.cell? ⟨(ad.add (i.toNat * 3)).block, (ad.add (i.toNat * 3)).off + 1, none⟩ = some (.slice A1 (rd_T27 xs i).head.args.length c1) ∧ w.cell? ⟨(ad.add (i.toNat * 3)).block, (ad.add (i.toNat * 3)).off + 2, none⟩ = some (.slice A2 (rd_T27 xs i).body.length c2) ∧ (rd_T27 xs i).head.args.length ≤ c1 ∧ k45.C w A1 (rd_T27 xs i).head.args.length (rd_T27 xs i).head.args ∧ (rd_T27 xs i).body.length ≤ c2 ∧ k47.C w A2 (rd_T27 xs i).body.length (rd_T27 xs i).body := by
 obtain ⟨ad, c, e, _, hK, hc0⟩ := Kd.C_get h z27 i h0 h1
 have hc : ∀ j u, c[j]? = some u → w.cell? (ad.add (i.toNat * 3 + j)) = some u := hc0
 obtain ⟨A1, c1, A2, c2, rfl, l1, g1, l2, g2⟩ := k27_open hK
 exact ⟨ad, A1, c1, A2, c2, e, hc 0 _ rfl, by rw [← add_field _ _ 1 (by omega)]; exact hc 1 _ rfl, by rw [← add_field _ _ 2 (by omega)]; exact hc 2 _ rfl, l1, g1, l2, g2⟩

/-! #### struct type 137 -/
structure Decl where
 pred : ByteArray
 arity : Int
deriving DecidableEq
def z137 : Decl := ⟨(⟨#[]⟩ : ByteArray), (0 : Int)⟩
def k137 : Kd Decl := Kd.iso (Kd.pair Kd.string (Kd.int .i64)) (fun x : Decl => (x.pred, x.arity))
theorem k137_heap : Kd.Heap k137 := Kd.heap_iso _ (Kd.heap_pair Kd.heap_string (Kd.heap_int .i64))
theorem k137_open {w : World} {x : Decl} {cs : List Value} (h : k137.K w x cs) : cs = [.string x.pred, .int .i64 x.arity] := by
 obtain ⟨_, _, rfl, rfl, rfl⟩ := h
 exact rfl
theorem k137_openM {w : World} {base : Nat} {ok : Nat → Prop} {x : Decl} {cs : List Value} (h : k137.M w base ok x cs) : cs = [.string x.pred, .int .i64 x.arity] := by
 obtain ⟨_, _, rfl, rfl, rfl⟩ := h
 exact rfl
theorem k137_mk (w : World) (x : Decl)  : k137.K w x [.string x.pred, .int .i64 x.arity] := ⟨[.string x.pred], [.int .i64 x.arity], rfl, rfl, rfl⟩
theorem k137_mkM (w : World) (base : Nat) (ok : Nat → Prop) (x : Decl)  : k137.M w base ok x [.string x.pred, .int .i64 x.arity] := ⟨[.string x.pred], [.int .i64 x.arity], rfl, rfl, rfl⟩
theorem k137_mkF (W : World) (ok : Nat → Prop) (x : Decl) : Kd.FK k137 W ok x [.string x.pred, .int .i64 x.arity] := fun W2 _ => k137_mk W2 x
def rd_T137 (xs : List Decl) (i : Int) : Decl := xs.getD i.toNat z137
theorem at_T137 {w : World} {A : Option Addr} {n : Nat} {xs : List Decl} (h : Kd.C k137 w A n xs) (i : Int) (h0 : 0 ≤ i) (h1 : i < n) : ∃ ad , A = some ad ∧ w.cell? (ad.add (i.toNat * 2)) = some (.string (rd_T137 xs i).pred) ∧ w.cell? ⟨(ad.add (i.toNat * 2)).block, (ad.add (i.toNat * 2)).off + 1, none⟩ = some (.int .i64 (rd_T137 xs i).arity) := by
 obtain ⟨ad, c, e, _, hK, hc0⟩ := Kd.C_get h z137 i h0 h1
 have hc : ∀ j u, c[j]? = some u → w.cell? (ad.add (i.toNat * 2 + j)) = some u := hc0
 obtain rfl := k137_open hK
 exact ⟨ad, e, hc 0 _ rfl, by rw [← add_field _ _ 1 (by omega)]; exact hc 1 _ rfl⟩

def rd_L11 (xs : List (List Decl)) (i : Int) : (List Decl) := xs.getD i.toNat ([] : List Decl)
theorem at_L11 {w : World} {A : Option Addr} {n : Nat} {xs : List (List Decl)} (h : Kd.C (Kd.slice 137 k137) w A n xs) (i : Int) (h0 : 0 ≤ i) (h1 : i < n) : ∃ ad A0 c0, A = some ad ∧ w.cell? (ad.add i.toNat) = some (.slice A0 (rd_L11 xs i).length c0) ∧ (rd_L11 xs i).length ≤ c0 ∧ k137.C w A0 (rd_L11 xs i).length (rd_L11 xs i) := by
 obtain ⟨ad, c, e, _, hK, hc0⟩ := Kd.C_get h ([] : List Decl) i h0 h1
 have hc : ∀ j u, c[j]? = some u → w.cell? (ad.add (i.toNat * 1 + j)) = some u := hc0
 obtain ⟨A0, c0, rfl, l0, g0⟩ := hK
 exact ⟨ad, A0, c0, e, by have hq := hc 0 _ rfl; rwa [Nat.mul_one, Nat.add_zero] at hq, l0, g0⟩

def rd_L12 (xs : List (List Rule)) (i : Int) : (List Rule) := xs.getD i.toNat ([] : List Rule)
theorem at_L12 {w : World} {A : Option Addr} {n : Nat} {xs : List (List Rule)} (h : Kd.C (Kd.slice 27 k27) w A n xs) (i : Int) (h0 : 0 ≤ i) (h1 : i < n) : ∃ ad A0 c0, A = some ad ∧ w.cell? (ad.add i.toNat) = some (.slice A0 (rd_L12 xs i).length c0) ∧ (rd_L12 xs i).length ≤ c0 ∧ k27.C w A0 (rd_L12 xs i).length (rd_L12 xs i) := by
 obtain ⟨ad, c, e, _, hK, hc0⟩ := Kd.C_get h ([] : List Rule) i h0 h1
 have hc : ∀ j u, c[j]? = some u → w.cell? (ad.add (i.toNat * 1 + j)) = some u := hc0
 obtain ⟨A0, c0, rfl, l0, g0⟩ := hK
 exact ⟨ad, A0, c0, e, by have hq := hc 0 _ rfl; rwa [Nat.mul_one, Nat.add_zero] at hq, l0, g0⟩

/-! #### struct type 66 -/
structure Prog where
 decls : (List Decl)
 rules : (List Rule)
deriving DecidableEq
def z66 : Prog := ⟨([] : List Decl), ([] : List Rule)⟩
def k66 : Kd Prog := Kd.iso (Kd.pair (Kd.slice 137 k137) (Kd.slice 27 k27)) (fun x : Prog => (x.decls, x.rules))
theorem k66_heap : Kd.Heap k66 := Kd.heap_iso _ (Kd.heap_pair (Kd.heap_slice 137 k137_heap) (Kd.heap_slice 27 k27_heap))
theorem k66_open {w : World} {x : Prog} {cs : List Value} (h : k66.K w x cs) : ∃ A0 c0 A1 c1, cs = [.slice A0 x.decls.length c0, .slice A1 x.rules.length c1] ∧ x.decls.length ≤ c0 ∧ k137.C w A0 x.decls.length x.decls ∧ x.rules.length ≤ c1 ∧ k27.C w A1 x.rules.length x.rules := by
 obtain ⟨_, _, rfl, ⟨A0, c0, rfl, l0, g0⟩, ⟨A1, c1, rfl, l1, g1⟩⟩ := h
 exact ⟨A0, c0, A1, c1, rfl, l0, g0, l1, g1⟩
theorem k66_openM {w : World} {base : Nat} {ok : Nat → Prop} {x : Prog} {cs : List Value} (h : k66.M w base ok x cs) : ∃ v0 v1, cs = [v0, v1] ∧ k137.R 137 w base ok v0 x.decls ∧ k27.R 27 w base ok v1 x.rules := by
 obtain ⟨_, _, rfl, ⟨v0, rfl, g0⟩, ⟨v1, rfl, g1⟩⟩ := h
 exact ⟨v0, v1, rfl, g0, g1⟩
theorem k66_mk (w : World) (x : Prog) {A0 : Option Addr} {c0 : Nat} (l0 : x.decls.length ≤ c0) (g0 : k137.C w A0 x.decls.length x.decls) {A1 : Option Addr} {c1 : Nat} (l1 : x.rules.length ≤ c1) (g1 : k27.C w A1 x.rules.length x.rules) : k66.K w x [.slice A0 x.decls.length c0, .slice A1 x.rules.length c1] := ⟨[.slice A0 x.decls.length c0], [.slice A1 x.rules.length c1], rfl, ⟨A0, c0, rfl, l0, g0⟩, ⟨A1, c1, rfl, l1, g1⟩⟩
theorem k66_mkM (w : World) (base : Nat) (ok : Nat → Prop) (x : Prog) {v0 : Value} (g0 : k137.R 137 w base ok v0 x.decls) {v1 : Value} (g1 : k27.R 27 w base ok v1 x.rules) : k66.M w base ok x [v0, v1] := ⟨[v0], [v1], rfl, ⟨v0, rfl, g0⟩, ⟨v1, rfl, g1⟩⟩
theorem k66_openF {W : World} {ok : Nat → Prop} {x : Prog} {cs : List Value} (h : Kd.FK k66 W ok x cs) : ∃ A0 c0 A1 c1, cs = [.slice A0 x.decls.length c0, .slice A1 x.rules.length c1] ∧ x.decls.length ≤ c0 ∧ Kd.F k137 W ok A0 x.decls.length x.decls ∧ x.rules.length ≤ c1 ∧ Kd.F k27 W ok A1 x.rules.length x.rules := by
 obtain ⟨A0, c0, A1, c1, rfl, l0, _, l1, _⟩ := k66_open (Kd.FK_now h)
 exact ⟨A0, c0, A1, c1, rfl, l0, (fun W' hW => by obtain ⟨A0_, c0_, A1_, c1_, he, l0_, g0_, l1_, g1_⟩ := k66_open (h W' hW); injection (Option.some.inj (show some (Value.slice A0 x.decls.length c0) = some (Value.slice A0_ x.decls.length c0_) from congrArg (fun l => l[0]?) he)) with ha_ _ _; rw [ha_]; exact g0_), l1, (fun W' hW => by obtain ⟨A0_, c0_, A1_, c1_, he, l0_, g0_, l1_, g1_⟩ := k66_open (h W' hW); injection (Option.some.inj (show some (Value.slice A1 x.rules.length c1) = some (Value.slice A1_ x.rules.length c1_) from congrArg (fun l => l[1]?) he)) with ha_ _ _; rw [ha_]; exact g1_)⟩
theorem k66_mkF (W : World) (ok : Nat → Prop) (x : Prog) {A0 : Option Addr} {c0 : Nat} (l0 : x.decls.length ≤ c0) (g0 : Kd.F k137 W ok A0 x.decls.length x.decls) {A1 : Option Addr} {c1 : Nat} (l1 : x.rules.length ≤ c1) (g1 : Kd.F k27 W ok A1 x.rules.length x.rules) : Kd.FK k66 W ok x [.slice A0 x.decls.length c0, .slice A1 x.rules.length c1] := fun W2 hW => k66_mk W2 x l0 (g0 W2 hW) l1 (g1 W2 hW)
def rd_T66 (xs : List Prog) (i : Int) : Prog := xs.getD i.toNat z66
theorem at_T66 {w : World} {A : Option Addr} {n : Nat} {xs : List Prog} (h : Kd.C k66 w A n xs) (i : Int) (h0 : 0 ≤ i) (h1 : i < n) : ∃ ad A0 c0 A1 c1, A = some ad ∧ w.cell? (ad.add (i.toNat * 2)) = some (.slice A0 (rd_T66 xs i).decls.length c0) ∧ w.cell? ⟨(ad.add (i.toNat * 2)).block, (ad.add (i.toNat * 2)).off + 1, none⟩ = some (.slice A1 (rd_T66 xs i).rules.length c1) ∧ (rd_T66 xs i).decls.length ≤ c0 ∧ k137.C w A0 (rd_T66 xs i).decls.length (rd_T66 xs i).decls ∧ (rd_T66 xs i).rules.length ≤ c1 ∧ k27.C w A1 (rd_T66 xs i).rules.length (rd_T66 xs i).rules := by
 obtain ⟨ad, c, e, _, hK, hc0⟩ := Kd.C_get h z66 i h0 h1
 have hc : ∀ j u, c[j]? = some u → w.cell? (ad.add (i.toNat * 2 + j)) = some u := hc0
 obtain ⟨A0, c0, A1, c1, rfl, l0, g0, l1, g1⟩ := k66_open hK
 exact ⟨ad, A0, c0, A1, c1, e, hc 0 _ rfl, by rw [← add_field _ _ 1 (by omega)]; exact hc 1 _ rfl, l0, g0, l1, g1⟩

def rd_L14 (xs : List (List ByteArray)) (i : Int) : (List ByteArray) := xs.getD i.toNat ([] : List ByteArray)
theorem at_L14 {w : World} {A : Option Addr} {n : Nat} {xs : List (List ByteArray)} (h : Kd.C (Kd.slice 9 Kd.string) w A n xs) (i : Int) (h0 : 0 ≤ i) (h1 : i < n) : ∃ ad A0 c0, A = some ad ∧ w.cell? (ad.add i.toNat) = some (.slice A0 (rd_L14 xs i).length c0) ∧ (rd_L14 xs i).length ≤ c0 ∧ Kd.string.C w A0 (rd_L14 xs i).length (rd_L14 xs i) := by
 obtain ⟨ad, c, e, _, hK, hc0⟩ := Kd.C_get h ([] : List ByteArray) i h0 h1
 have hc : ∀ j u, c[j]? = some u → w.cell? (ad.add (i.toNat * 1 + j)) = some u := hc0
 obtain ⟨A0, c0, rfl, l0, g0⟩ := hK
 exact ⟨ad, A0, c0, e, by have hq := hc 0 _ rfl; rwa [Nat.mul_one, Nat.add_zero] at hq, l0, g0⟩

def rd_L15 (xs : List (List Int)) (i : Int) : (List Int) := xs.getD i.toNat ([] : List Int)
theorem at_L15 {w : World} {A : Option Addr} {n : Nat} {xs : List (List Int)} (h : Kd.C (Kd.slice 3 (Kd.int .i64)) w A n xs) (i : Int) (h0 : 0 ≤ i) (h1 : i < n) : ∃ ad A0 c0, A = some ad ∧ w.cell? (ad.add i.toNat) = some (.slice A0 (rd_L15 xs i).length c0) ∧ (rd_L15 xs i).length ≤ c0 ∧ (Kd.int .i64).C w A0 (rd_L15 xs i).length (rd_L15 xs i) := by
 obtain ⟨ad, c, e, _, hK, hc0⟩ := Kd.C_get h ([] : List Int) i h0 h1
 have hc : ∀ j u, c[j]? = some u → w.cell? (ad.add (i.toNat * 1 + j)) = some u := hc0
 obtain ⟨A0, c0, rfl, l0, g0⟩ := hK
 exact ⟨ad, A0, c0, e, by have hq := hc 0 _ rfl; rwa [Nat.mul_one, Nat.add_zero] at hq, l0, g0⟩

def rd_L16 (xs : List (List Bool)) (i : Int) : (List Bool) := xs.getD i.toNat ([] : List Bool)
theorem at_L16 {w : World} {A : Option Addr} {n : Nat} {xs : List (List Bool)} (h : Kd.C (Kd.slice 4 Kd.bool) w A n xs) (i : Int) (h0 : 0 ≤ i) (h1 : i < n) : ∃ ad A0 c0, A = some ad ∧ w.cell? (ad.add i.toNat) = some (.slice A0 (rd_L16 xs i).length c0) ∧ (rd_L16 xs i).length ≤ c0 ∧ Kd.bool.C w A0 (rd_L16 xs i).length (rd_L16 xs i) := by
 obtain ⟨ad, c, e, _, hK, hc0⟩ := Kd.C_get h ([] : List Bool) i h0 h1
 have hc : ∀ j u, c[j]? = some u → w.cell? (ad.add (i.toNat * 1 + j)) = some u := hc0
 obtain ⟨A0, c0, rfl, l0, g0⟩ := hK
 exact ⟨ad, A0, c0, e, by have hq := hc 0 _ rfl; rwa [Nat.mul_one, Nat.add_zero] at hq, l0, g0⟩

def rd_L17 (xs : List (List (List ByteArray))) (i : Int) : (List (List ByteArray)) := xs.getD i.toNat ([] : List (List ByteArray))
theorem at_L17 {w : World} {A : Option Addr} {n : Nat} {xs : List (List (List ByteArray))} (h : Kd.C (Kd.slice 28 (Kd.slice 9 Kd.string)) w A n xs) (i : Int) (h0 : 0 ≤ i) (h1 : i < n) : ∃ ad A0 c0, A = some ad ∧ w.cell? (ad.add i.toNat) = some (.slice A0 (rd_L17 xs i).length c0) ∧ (rd_L17 xs i).length ≤ c0 ∧ (Kd.slice 9 Kd.string).C w A0 (rd_L17 xs i).length (rd_L17 xs i) := by
 obtain ⟨ad, c, e, _, hK, hc0⟩ := Kd.C_get h ([] : List (List ByteArray)) i h0 h1
 have hc : ∀ j u, c[j]? = some u → w.cell? (ad.add (i.toNat * 1 + j)) = some u := hc0
 obtain ⟨A0, c0, rfl, l0, g0⟩ := hK
 exact ⟨ad, A0, c0, e, by have hq := hc 0 _ rfl; rwa [Nat.mul_one, Nat.add_zero] at hq, l0, g0⟩

theorem blt_ {w : World} {a : Addr} {v : Value} (h : w.cell? a = some v) : a.block < w.heap.size := World.block_lt_of_cell? w a h
end Go.Proofs.Ythpejcnldecmoaa.H
namespace Go.Proofs.Ythpejcnldecmoaa.H
/-- The structs are printed in YthpejcnldecmoaaQ0. -/
theorem types_lie : True := trivial
end Go.Proofs.Ythpejcnldecmoaa.H
namespace Go.Proofs.Ythpejcnldecmoaa.H
open Go.RowKit Go.Proofs.YthpejcnldecmoaaW.PrintWords
set_option linter.unusedVariables false

theorem Kd.C_nth {α : Type} {d : Kd α} {w : World} {A : Option Addr} {n : Nat} {xs : List α} (h : Kd.C d w A n xs) {i : Nat} {y : α} (hy : xs[i]? = some y) :
    ∃ ad c, A = some ad ∧ c.length = d.sz ∧ d.K w y c ∧ ∀ j u, c[j]? = some u → w.cell? (ad.add (i * d.sz + j)) = some u := by
  obtain ⟨h1, h2, h3⟩ := h
  have hi : i < xs.length := (List.getElem?_eq_some_iff.1 hy).1
  obtain ⟨ad, e, hc⟩ := h3 (by omega)
  obtain ⟨c, hs, hr, hcell⟩ := hc i y hy
  exact ⟨ad, c, e, hs, hr, hcell⟩
theorem at_Val {w : World} {A : Option Addr} {n : Nat} {xs : List Val} (h : Kd.C k43 w A n xs) {i : Nat} {y : Val} (hy : xs[i]? = some y) : ∃ ad , A = some ad ∧ w.cell? (ad.add (i * 3)) = some (.bool y.isSym) ∧ w.cell? ⟨(ad.add (i * 3)).block, (ad.add (i * 3)).off + 1, none⟩ = some (.string y.sym) ∧ w.cell? ⟨(ad.add (i * 3)).block, (ad.add (i * 3)).off + 2, none⟩ = some (.int .i64 y.n) := by
  obtain ⟨ad, c, e, _, hK, hc⟩ := Kd.C_nth h hy
  rw [show k43.sz = 3 from rfl] at hc
  obtain rfl := k43_open hK
  exact ⟨ad, e, by have hq := hc 0 _ rfl; rwa [Nat.add_zero] at hq, by rw [← add_field _ _ 1 (by omega)]; exact hc 1 _ rfl, by rw [← add_field _ _ 2 (by omega)]; exact hc 2 _ rfl⟩
theorem at_Term {w : World} {A : Option Addr} {n : Nat} {xs : List Term} (h : Kd.C k45 w A n xs) {i : Nat} {y : Term} (hy : xs[i]? = some y) : ∃ ad , A = some ad ∧ w.cell? (ad.add (i * 5)) = some (.bool y.isVar) ∧ w.cell? ⟨(ad.add (i * 5)).block, (ad.add (i * 5)).off + 1, none⟩ = some (.string y.name) ∧ w.cell? ⟨(ad.add (i * 5)).block, (ad.add (i * 5)).off + 2, none⟩ = some (.bool y.val.isSym) ∧ w.cell? ⟨(ad.add (i * 5)).block, (ad.add (i * 5)).off + 3, none⟩ = some (.string y.val.sym) ∧ w.cell? ⟨(ad.add (i * 5)).block, (ad.add (i * 5)).off + 4, none⟩ = some (.int .i64 y.val.n) := by
  obtain ⟨ad, c, e, _, hK, hc⟩ := Kd.C_nth h hy
  rw [show k45.sz = 5 from rfl] at hc
  obtain rfl := k45_open hK
  exact ⟨ad, e, by have hq := hc 0 _ rfl; rwa [Nat.add_zero] at hq, by rw [← add_field _ _ 1 (by omega)]; exact hc 1 _ rfl, by rw [← add_field _ _ 2 (by omega)]; exact hc 2 _ rfl, by rw [← add_field _ _ 3 (by omega)]; exact hc 3 _ rfl, by rw [← add_field _ _ 4 (by omega)]; exact hc 4 _ rfl⟩
theorem at_Atom {w : World} {A : Option Addr} {n : Nat} {xs : List Atom} (h : Kd.C k24 w A n xs) {i : Nat} {y : Atom} (hy : xs[i]? = some y) : ∃ ad A1 c1, A = some ad ∧ w.cell? (ad.add (i * 2)) = some (.string y.pred) ∧ w.cell? ⟨(ad.add (i * 2)).block, (ad.add (i * 2)).off + 1, none⟩ = some (.slice A1 y.args.length c1) ∧ y.args.length ≤ c1 ∧ k45.C w A1 y.args.length y.args := by
  obtain ⟨ad, c, e, _, hK, hc⟩ := Kd.C_nth h hy
  rw [show k24.sz = 2 from rfl] at hc
  obtain ⟨A1, c1, rfl, l1, g1⟩ := k24_open hK
  exact ⟨ad, A1, c1, e, by have hq := hc 0 _ rfl; rwa [Nat.add_zero] at hq, by rw [← add_field _ _ 1 (by omega)]; exact hc 1 _ rfl, l1, g1⟩
theorem at_Liter {w : World} {A : Option Addr} {n : Nat} {xs : List Liter} (h : Kd.C k47 w A n xs) {i : Nat} {y : Liter} (hy : xs[i]? = some y) : ∃ ad A2 c2, A = some ad ∧ w.cell? (ad.add (i * 14)) = some (.int .i64 y.kind) ∧ w.cell? ⟨(ad.add (i * 14)).block, (ad.add (i * 14)).off + 1, none⟩ = some (.string y.atom.pred) ∧ w.cell? ⟨(ad.add (i * 14)).block, (ad.add (i * 14)).off + 2, none⟩ = some (.slice A2 y.atom.args.length c2) ∧ w.cell? ⟨(ad.add (i * 14)).block, (ad.add (i * 14)).off + 3, none⟩ = some (.string y.op) ∧ w.cell? ⟨(ad.add (i * 14)).block, (ad.add (i * 14)).off + 4, none⟩ = some (.bool y.l.isVar) ∧ w.cell? ⟨(ad.add (i * 14)).block, (ad.add (i * 14)).off + 5, none⟩ = some (.string y.l.name) ∧ w.cell? ⟨(ad.add (i * 14)).block, (ad.add (i * 14)).off + 6, none⟩ = some (.bool y.l.val.isSym) ∧ w.cell? ⟨(ad.add (i * 14)).block, (ad.add (i * 14)).off + 7, none⟩ = some (.string y.l.val.sym) ∧ w.cell? ⟨(ad.add (i * 14)).block, (ad.add (i * 14)).off + 8, none⟩ = some (.int .i64 y.l.val.n) ∧ w.cell? ⟨(ad.add (i * 14)).block, (ad.add (i * 14)).off + 9, none⟩ = some (.bool y.r.isVar) ∧ w.cell? ⟨(ad.add (i * 14)).block, (ad.add (i * 14)).off + 10, none⟩ = some (.string y.r.name) ∧ w.cell? ⟨(ad.add (i * 14)).block, (ad.add (i * 14)).off + 11, none⟩ = some (.bool y.r.val.isSym) ∧ w.cell? ⟨(ad.add (i * 14)).block, (ad.add (i * 14)).off + 12, none⟩ = some (.string y.r.val.sym) ∧ w.cell? ⟨(ad.add (i * 14)).block, (ad.add (i * 14)).off + 13, none⟩ = some (.int .i64 y.r.val.n) ∧ y.atom.args.length ≤ c2 ∧ k45.C w A2 y.atom.args.length y.atom.args := by
  obtain ⟨ad, c, e, _, hK, hc⟩ := Kd.C_nth h hy
  rw [show k47.sz = 14 from rfl] at hc
  obtain ⟨A2, c2, rfl, l2, g2⟩ := k47_open hK
  exact ⟨ad, A2, c2, e, by have hq := hc 0 _ rfl; rwa [Nat.add_zero] at hq, by rw [← add_field _ _ 1 (by omega)]; exact hc 1 _ rfl, by rw [← add_field _ _ 2 (by omega)]; exact hc 2 _ rfl, by rw [← add_field _ _ 3 (by omega)]; exact hc 3 _ rfl, by rw [← add_field _ _ 4 (by omega)]; exact hc 4 _ rfl, by rw [← add_field _ _ 5 (by omega)]; exact hc 5 _ rfl, by rw [← add_field _ _ 6 (by omega)]; exact hc 6 _ rfl, by rw [← add_field _ _ 7 (by omega)]; exact hc 7 _ rfl, by rw [← add_field _ _ 8 (by omega)]; exact hc 8 _ rfl, by rw [← add_field _ _ 9 (by omega)]; exact hc 9 _ rfl, by rw [← add_field _ _ 10 (by omega)]; exact hc 10 _ rfl, by rw [← add_field _ _ 11 (by omega)]; exact hc 11 _ rfl, by rw [← add_field _ _ 12 (by omega)]; exact hc 12 _ rfl, by rw [← add_field _ _ 13 (by omega)]; exact hc 13 _ rfl, l2, g2⟩
theorem at_Rule {w : World} {A : Option Addr} {n : Nat} {xs : List Rule} (h : Kd.C k27 w A n xs) {i : Nat} {y : Rule} (hy : xs[i]? = some y) : ∃ ad A1 c1 A2 c2, A = some ad ∧ w.cell? (ad.add (i * 3)) = some (.string y.head.pred) ∧ w.cell? ⟨(ad.add (i * 3)).block, (ad.add (i * 3)).off + 1, none⟩ = some (.slice A1 y.head.args.length c1) ∧ w.cell? ⟨(ad.add (i * 3)).block, (ad.add (i * 3)).off + 2, none⟩ = some (.slice A2 y.body.length c2) ∧ y.head.args.length ≤ c1 ∧ k45.C w A1 y.head.args.length y.head.args ∧ y.body.length ≤ c2 ∧ k47.C w A2 y.body.length y.body := by
  obtain ⟨ad, c, e, _, hK, hc⟩ := Kd.C_nth h hy
  rw [show k27.sz = 3 from rfl] at hc
  obtain ⟨A1, c1, A2, c2, rfl, l1, g1, l2, g2⟩ := k27_open hK
  exact ⟨ad, A1, c1, A2, c2, e, by have hq := hc 0 _ rfl; rwa [Nat.add_zero] at hq, by rw [← add_field _ _ 1 (by omega)]; exact hc 1 _ rfl, by rw [← add_field _ _ 2 (by omega)]; exact hc 2 _ rfl, l1, g1, l2, g2⟩
theorem at_Decl {w : World} {A : Option Addr} {n : Nat} {xs : List Decl} (h : Kd.C k137 w A n xs) {i : Nat} {y : Decl} (hy : xs[i]? = some y) : ∃ ad , A = some ad ∧ w.cell? (ad.add (i * 2)) = some (.string y.pred) ∧ w.cell? ⟨(ad.add (i * 2)).block, (ad.add (i * 2)).off + 1, none⟩ = some (.int .i64 y.arity) := by
  obtain ⟨ad, c, e, _, hK, hc⟩ := Kd.C_nth h hy
  rw [show k137.sz = 2 from rfl] at hc
  obtain rfl := k137_open hK
  exact ⟨ad, e, by have hq := hc 0 _ rfl; rwa [Nat.add_zero] at hq, by rw [← add_field _ _ 1 (by omega)]; exact hc 1 _ rfl⟩
theorem at_Prog {w : World} {A : Option Addr} {n : Nat} {xs : List Prog} (h : Kd.C k66 w A n xs) {i : Nat} {y : Prog} (hy : xs[i]? = some y) : ∃ ad A0 c0 A1 c1, A = some ad ∧ w.cell? (ad.add (i * 2)) = some (.slice A0 y.decls.length c0) ∧ w.cell? ⟨(ad.add (i * 2)).block, (ad.add (i * 2)).off + 1, none⟩ = some (.slice A1 y.rules.length c1) ∧ y.decls.length ≤ c0 ∧ k137.C w A0 y.decls.length y.decls ∧ y.rules.length ≤ c1 ∧ k27.C w A1 y.rules.length y.rules := by
  obtain ⟨ad, c, e, _, hK, hc⟩ := Kd.C_nth h hy
  rw [show k66.sz = 2 from rfl] at hc
  obtain ⟨A0, c0, A1, c1, rfl, l0, g0, l1, g1⟩ := k66_open hK
  exact ⟨ad, A0, c0, A1, c1, e, by have hq := hc 0 _ rfl; rwa [Nat.add_zero] at hq, by rw [← add_field _ _ 1 (by omega)]; exact hc 1 _ rfl, l0, g0, l1, g1⟩
end Go.Proofs.Ythpejcnldecmoaa.H
namespace Go.Proofs.Ythpejcnldecmoaa.H
/-- is a name one of some -/
def mem (s : ByteArray) (l : List ByteArray) : Bool := l.any fun x => decide (s = x)
theorem mem_iff {s : ByteArray} {l : List ByteArray} : mem s l = true ↔ s ∈ l := by simp [mem]
end Go.Proofs.Ythpejcnldecmoaa.H
namespace Go.Proofs.Ythpejcnldecmoaa.H
/-- the variables of some terms, each once, in turn -/
def namesGo (acc : List ByteArray) : List Term → List ByteArray
  | [] => acc
  | t :: l => if t.isVar && !mem t.name acc then namesGo (acc ++ [t.name]) l else namesGo acc l
def names (l : List Term) : List ByteArray := namesGo [] l
theorem namesGo_len : ∀ (l : List Term) (acc : List ByteArray), (namesGo acc l).length ≤ acc.length + l.length
  | [], acc => by simp [namesGo]
  | t :: l, acc => by
    unfold namesGo
    split
    · have := namesGo_len l (acc ++ [t.name]); simp at this ⊢; omega
    · have := namesGo_len l acc; simp; omega
theorem names_len (l : List Term) : (names l).length ≤ l.length := by have := namesGo_len l []; simpa [names] using this
end Go.Proofs.Ythpejcnldecmoaa.H
namespace Go.Proofs.Ythpejcnldecmoaa.H
/-- the places of the terms that are known -/
def colsGo (bound : List ByteArray) : List Term → Nat → List Int
  | [], _ => []
  | t :: l, i => if !t.isVar || mem t.name bound then (i : Int) :: colsGo bound l (i + 1) else colsGo bound l (i + 1)
def cols (bound : List ByteArray) (l : List Term) : List Int := colsGo bound l 0
theorem colsGo_len (bound : List ByteArray) : ∀ (l : List Term) (i : Nat), (colsGo bound l i).length ≤ l.length
  | [], i => by simp [colsGo]
  | t :: l, i => by
    unfold colsGo
    have := colsGo_len bound l (i + 1)
    split <;> simp <;> omega
end Go.Proofs.Ythpejcnldecmoaa.H
namespace Go.Proofs.Ythpejcnldecmoaa.H
def ints (l : List Nat) : List Int := l.map fun (k : Nat) => (k : Int)
/-- what of a literal has to be known -/
def litTerms (l : Liter) : List Term := if l.kind = 3 then [l.l, l.r] else l.atom.args
def known (bound : List ByteArray) (l : Liter) : Bool := !(names (litTerms l)).any fun s => !mem s bound
end Go.Proofs.Ythpejcnldecmoaa.H
namespace Go.Proofs.Ythpejcnldecmoaa.H
deriving instance Inhabited for Val
deriving instance Inhabited for Term
deriving instance Inhabited for Atom
deriving instance Inhabited for Liter
def lit (body : List Liter) (k : Nat) : Liter := body.getD k default
def asks (bound : List ByteArray) (l : Liter) : Bool := decide (l.kind ≠ 1) && known bound l
/-- a rule that is gone through: what is left, what is bound, the order so far -/
structure Plan where
  left : List Nat
  bound : List ByteArray
  order : List Nat
def optInt (o : Option Nat) : Int := match o with | some k => (k : Int) | none => -1
def testOf (body : List Liter) (s : Plan) : Option Nat := s.left.find? fun k => asks s.bound (lit body k)
def bestGo (body : List Liter) (bound : List ByteArray) : List Nat → Option Nat × Int → Option Nat × Int
  | [], b => b
  | k :: l, b => if (lit body k).kind = 1 ∧ b.2 < ((cols bound (lit body k).atom.args).length : Int) then bestGo body bound l (some k, ((cols bound (lit body k).atom.args).length : Int)) else bestGo body bound l b
def bestOf (body : List Liter) (s : Plan) : Option Nat := (bestGo body s.bound s.left (none, -1)).1
def takeOf (body : List Liter) (s : Plan) (i : Nat) : Plan :=
  { left := s.left.filter fun k => !decide (k = i), bound := if (lit body i).kind = 1 then s.bound ++ names (lit body i).atom.args else s.bound, order := s.order ++ [i] }
end Go.Proofs.Ythpejcnldecmoaa.H
namespace Go.Proofs.Ythpejcnldecmoaa.H
def nextOf (body : List Liter) (s : Plan) : Option Nat := match testOf body s with | some k => some k | none => bestOf body s
/-- the rest of an order, with so many steps at most -/
def runOf (body : List Liter) : Nat → Plan → Option (List Nat)
  | 0, s => if s.left = [] then some s.order else none
  | n + 1, s => if s.left = [] then some s.order else match nextOf body s with | some k => runOf body n (takeOf body s k) | none => none
def odd (l : Liter) : Bool := decide (l.kind < 1) || decide (3 < l.kind)
def badFirst (body : List Liter) (first : Int) : Bool := body.any odd || decide (first < -1) || decide ((body.length : Int) ≤ first) || (decide (0 ≤ first) && decide ((lit body first.toNat).kind ≠ 1))
def planStart (body : List Liter) : Plan := { left := List.range body.length, bound := [], order := [] }
/-- the order, and the error's number -/
def orderOf (body : List Liter) (first : Int) : List Nat × Int :=
  if badFirst body first then ([], 1)
  else match runOf body body.length (if 0 ≤ first then takeOf body (planStart body) first.toNat else planStart body) with
    | some l => (l, 0)
    | none => ([], 6)
/-- of what is left: only what was there -/
theorem bestGo_mem (body : List Liter) (bound : List ByteArray) : ∀ (l : List Nat) (b : Option Nat × Int) (k : Nat), (bestGo body bound l b).1 = some k → b.1 = some k ∨ k ∈ l
  | [], b, k, h => .inl h
  | x :: l, b, k, h => by
    unfold bestGo at h
    split at h
    · rcases bestGo_mem body bound l _ k h with h1 | h1
      · simp at h1; exact .inr (by simp [h1])
      · exact .inr (List.mem_cons_of_mem _ h1)
    · rcases bestGo_mem body bound l _ k h with h1 | h1
      · exact .inl h1
      · exact .inr (List.mem_cons_of_mem _ h1)
theorem nextOf_mem {body : List Liter} {s : Plan} {k : Nat} (h : nextOf body s = some k) : k ∈ s.left := by
  unfold nextOf at h
  split at h
  · rename_i k' hk
    cases h
    exact List.mem_of_find?_eq_some hk
  · rcases bestGo_mem body s.bound s.left _ k h with h1 | h1
    · cases h1
    · exact h1
theorem takeOf_len {body : List Liter} {s : Plan} {k : Nat} (h : k ∈ s.left) : (takeOf body s k).left.length < s.left.length := by
  unfold takeOf
  show (s.left.filter _).length < _
  exact List.length_filter_lt_length_iff_exists.2 ⟨k, h, by simp⟩
theorem runOf_step {body : List Liter} {n : Nat} {s : Plan} (hn : s.left.length ≤ n) : runOf body n s = if s.left = [] then some s.order else match nextOf body s with | some k => runOf body (n - 1) (takeOf body s k) | none => none := by
  cases n with
  | zero =>
    have : s.left = [] := List.length_eq_zero_iff.1 (by omega)
    simp [runOf, this]
  | succ n => rfl
theorem runOf_any {body : List Liter} : ∀ {n m : Nat} {s : Plan}, s.left.length ≤ n → s.left.length ≤ m → runOf body n s = runOf body m s := by
  intro n
  induction n with
  | zero =>
    intro m s hn hm
    rw [runOf_step hn, runOf_step hm]
    have : s.left = [] := List.length_eq_zero_iff.1 (by omega)
    simp [this]
  | succ n ih =>
    intro m s hn hm
    rw [runOf_step hn, runOf_step hm]
    split
    · rfl
    · split
      · rename_i k hk
        have := takeOf_len (body := body) (nextOf_mem hk)
        exact ih (by omega) (by omega)
      · rfl
end Go.Proofs.Ythpejcnldecmoaa.H
namespace Go.Proofs.Ythpejcnldecmoaa.H
theorem colsGo_count (b : List ByteArray) : ∀ (l : List Term) (k : Nat), (colsGo b l k).length = l.countP fun t => !t.isVar || mem t.name b
  | [], k => by simp [colsGo]
  | t :: l, k => by
    unfold colsGo
    by_cases h : (!t.isVar || mem t.name b) = true
    · rw [if_pos h, List.countP_cons, List.length_cons, colsGo_count b l, if_pos h]
    · rw [if_neg h, List.countP_cons, colsGo_count b l, if_neg h]
      rfl
theorem cols_len (b : List ByteArray) (l : List Term) : (cols b l).length = l.countP fun t => !t.isVar || mem t.name b := colsGo_count b l 0
theorem countP_le {α : Type} {p q : α → Bool} : ∀ {l : List α}, (∀ x ∈ l, p x = true → q x = true) → l.countP p ≤ l.countP q
  | [], _ => Nat.le_refl _
  | a :: l, h => by
    have h1 := countP_le (p := p) (q := q) (l := l) fun x hx => h x (List.mem_cons_of_mem _ hx)
    have h2 := h a List.mem_cons_self
    rw [List.countP_cons, List.countP_cons]
    cases hp : p a with
    | false => simp; omega
    | true => rw [h2 hp]; simp; omega
theorem cols_more (b : List ByteArray) (s : ByteArray) (l : List Term) : (cols b l).length ≤ (cols (b ++ [s]) l).length := by
  rw [cols_len, cols_len]
  refine countP_le fun t _ h => ?_
  simp only [Bool.or_eq_true, mem_iff, List.mem_append] at h ⊢
  rcases h with h | h
  · exact .inl h
  · exact .inr (.inl h)
theorem namesGo_acc : ∀ (l : List Term) (acc : List ByteArray) (s : ByteArray), s ∈ acc → s ∈ namesGo acc l
  | [], acc, s, h => by simpa [namesGo] using h
  | t :: l, acc, s, h => by
    unfold namesGo
    split
    · exact namesGo_acc l _ s (List.mem_append_left _ h)
    · exact namesGo_acc l _ s h
theorem namesGo_mem : ∀ (l : List Term) (acc : List ByteArray) (s : ByteArray), s ∈ namesGo acc l ↔ s ∈ acc ∨ ∃ t ∈ l, t.isVar = true ∧ t.name = s
  | [], acc, s => by simp [namesGo]
  | t :: l, acc, s => by
    unfold namesGo
    split
    · rename_i h
      simp only [Bool.and_eq_true] at h
      rw [namesGo_mem l]
      simp only [List.mem_append, List.mem_cons, List.not_mem_nil, or_false]
      constructor
      · rintro ((h1 | rfl) | ⟨u, hu, h2⟩)
        · exact .inl h1
        · exact .inr ⟨t, .inl rfl, h.1, rfl⟩
        · exact .inr ⟨u, .inr hu, h2⟩
      · rintro (h1 | ⟨u, rfl | hu, h2, h3⟩)
        · exact .inl (.inl h1)
        · exact .inl (.inr h3.symm)
        · exact .inr ⟨u, hu, h2, h3⟩
    · rename_i h
      rw [namesGo_mem l]
      simp only [List.mem_cons]
      constructor
      · rintro (h1 | ⟨u, hu, h2⟩)
        · exact .inl h1
        · exact .inr ⟨u, .inr hu, h2⟩
      · rintro (h1 | ⟨u, rfl | hu, h2, h3⟩)
        · exact .inl h1
        · left
          rw [h2] at h
          simp only [Bool.true_and, Bool.not_eq_true', Bool.not_eq_false] at h
          rw [← h3]
          exact mem_iff.1 h
        · exact .inr ⟨u, hu, h2, h3⟩
theorem names_mem (l : List Term) (s : ByteArray) : s ∈ names l ↔ ∃ t ∈ l, t.isVar = true ∧ t.name = s := by
  rw [names, namesGo_mem]; simp
theorem cols_all (l : List Term) : (cols (names l) l).length = l.length := by
  rw [cols_len, List.countP_eq_length]
  intro t ht
  simp only [Bool.or_eq_true, mem_iff, names_mem]
  cases h : t.isVar with
  | false => simp
  | true => exact .inr ⟨t, ht, h, rfl⟩
theorem cols_none (l : List Term) : (cols [] l).length = l.countP fun t => !t.isVar := by
  rw [cols_len]
  refine List.countP_congr fun t _ => ?_
  simp [mem]
theorem cols_le_all (b : List ByteArray) (l : List Term) : (cols b l).length ≤ l.length := by rw [cols_len]; exact List.countP_le_length
theorem cols_none_le (b : List ByteArray) (l : List Term) : (l.countP fun t => !t.isVar) ≤ (cols b l).length := by
  rw [cols_len]
  exact countP_le fun t _ h => by simp only [Bool.or_eq_true]; exact .inl h
end Go.Proofs.Ythpejcnldecmoaa.H
namespace Go.Proofs.Ythpejcnldecmoaa.H
/-- are all variables of some terms among some names -/
def allKnown (b : List ByteArray) (l : List Term) : Bool := l.all fun t => !t.isVar || mem t.name b
theorem known_eq (b : List ByteArray) (y : Liter) : known b y = allKnown b (litTerms y) := by
  rw [Bool.eq_iff_iff]
  simp only [known, allKnown, Bool.not_eq_true', List.any_eq_false, List.all_eq_true, names_mem, Bool.not_eq_true', Bool.not_eq_false, Bool.or_eq_true]
  constructor
  · intro h t ht
    cases hv : t.isVar with
    | false => exact .inl rfl
    | true => exact .inr (by simpa using h t.name ⟨t, ht, hv, rfl⟩)
  · rintro h s ⟨t, ht, hv, rfl⟩
    rcases h t ht with h1 | h1
    · rw [hv] at h1; cases h1
    · simpa using h1
/-- what is bound behind some places -/
def boundOf (body : List Liter) (l : List Nat) : List ByteArray := l.foldl (fun b k => if (lit body k).kind = 1 then b ++ names (lit body k).atom.args else b) []
theorem boundOf_snoc (body : List Liter) (l : List Nat) (k : Nat) : boundOf body (l ++ [k]) = if (lit body k).kind = 1 then boundOf body l ++ names (lit body k).atom.args else boundOf body l := by
  simp [boundOf, List.foldl_append]
/-- where an order has come to -/
def stOf (body : List Liter) (o : List Nat) : Plan := ⟨(List.range body.length).filter fun k => !o.contains k, boundOf body o, o⟩
theorem stOf_take (body : List Liter) (o : List Nat) (k : Nat) : takeOf body (stOf body o) k = stOf body (o ++ [k]) := by
  unfold takeOf stOf
  congr 1
  · rw [List.filter_filter]
    refine List.filter_congr fun x _ => ?_
    by_cases hx : x = k <;> simp [hx, List.contains_eq_mem]
  · exact (boundOf_snoc body o k).symm
theorem stOf_start (body : List Liter) : planStart body = stOf body [] := by
  unfold planStart stOf
  congr 1
  simp only [List.contains_nil, Bool.not_false]
  exact (List.filter_eq_self.2 (fun _ _ => rfl)).symm
theorem stOf_left {body : List Liter} {o : List Nat} {k : Nat} : k ∈ (stOf body o).left ↔ k < body.length ∧ k ∉ o := by
  simp [stOf, List.contains_eq_mem]
theorem run_trace {body : List Liter} : ∀ {n : Nat} {o l : List Nat}, runOf body n (stOf body o) = some l →
    ∃ r, l = o ++ r ∧ (∀ i k, r[i]? = some k → nextOf body (stOf body (o ++ r.take i)) = some k) ∧ (stOf body l).left = [] := by
  intro n
  induction n with
  | zero =>
    intro o l h
    unfold runOf at h
    split at h
    · rename_i h1
      cases h
      exact ⟨[], by simp [stOf], by simp, h1⟩
    · cases h
  | succ n ih =>
    intro o l h
    unfold runOf at h
    split at h
    · rename_i h1
      cases h
      exact ⟨[], by simp [stOf], by simp, h1⟩
    · split at h
      · rename_i k hk
        rw [stOf_take] at h
        obtain ⟨r, rfl, h2, h3⟩ := ih h
        refine ⟨k :: r, by simp, fun i j hj => ?_, h3⟩
        cases i with
        | zero =>
          simp at hj
          subst hj
          simpa using hk
        | succ i =>
          have := h2 i j (by simpa using hj)
          simpa using this
      · cases h
/-- what an order that is told is, place by place -/
structure Traced (body : List Liter) (first : Int) (l : List Nat) : Prop where
  good : badFirst body first = false
  done : (stOf body l).left = []
  step : ∀ i k, l[i]? = some k → (i = 0 ∧ 0 ≤ first ∧ k = first.toNat) ∨ nextOf body (stOf body (l.take i)) = some k
  head : 0 ≤ first → l[0]? = some first.toNat
theorem order_traced {body : List Liter} {first : Int} {l : List Nat} (h : orderOf body first = (l, 0)) : Traced body first l := by
  unfold orderOf at h
  split at h
  · simp at h
  · rename_i hb
    have hb : badFirst body first = false := by simpa using hb
    split at h
    · rename_i l' hr
      obtain rfl : l' = l := by simpa using h
      by_cases hf : 0 ≤ first
      · rw [if_pos hf, stOf_start, stOf_take] at hr
        obtain ⟨r, rfl, h1, h2⟩ := run_trace hr
        refine ⟨hb, h2, fun i k hk => ?_, fun _ => by simp⟩
        cases i with
        | zero => simp at hk; exact .inl ⟨rfl, hf, hk.symm⟩
        | succ i => exact .inr (by simpa using h1 i k (by simpa using hk))
      · rw [if_neg hf, stOf_start] at hr
        obtain ⟨r, rfl, h1, h2⟩ := run_trace hr
        exact ⟨hb, h2, fun i k hk => .inr (by simpa using h1 i k (by simpa using hk)), fun h => absurd h hf⟩
    · simp at h
theorem bestGo_kind (body : List Liter) (bound : List ByteArray) : ∀ (l : List Nat) (b : Option Nat × Int) (k : Nat), (bestGo body bound l b).1 = some k → b.1 = some k ∨ (lit body k).kind = 1
  | [], b, k, h => .inl h
  | x :: l, b, k, h => by
    unfold bestGo at h
    split at h
    · rename_i hx
      rcases bestGo_kind body bound l _ k h with h1 | h1
      · simp at h1; subst h1; exact .inr hx.1
      · exact .inr h1
    · exact bestGo_kind body bound l _ k h
theorem nextOf_known {body : List Liter} {s : Plan} {k : Nat} (h : nextOf body s = some k) : (lit body k).kind = 1 ∨ known s.bound (lit body k) = true := by
  unfold nextOf at h
  split at h
  · rename_i k' hk
    cases h
    have := List.find?_some hk
    simp only [asks, Bool.and_eq_true] at this
    exact .inr this.2
  · rcases bestGo_kind body s.bound s.left _ k h with h1 | h1
    · cases h1
    · exact .inl h1
section
variable {body : List Liter} {first : Int} {l : List Nat} (h : Traced body first l)
include h
theorem Traced.first_lt (hf : 0 ≤ first) : first.toNat < body.length ∧ (lit body first.toNat).kind = 1 := by
  have hg := h.good
  simp only [badFirst, Bool.or_eq_false_iff, Bool.and_eq_false_iff, decide_eq_false_iff_not] at hg
  obtain ⟨⟨⟨_, _⟩, h3⟩, h4⟩ := hg
  refine ⟨by omega, ?_⟩
  rcases h4 with h4 | h4
  · exact absurd hf h4
  · exact Decidable.not_not.1 h4
theorem Traced.fresh {i k : Nat} (hk : l[i]? = some k) : k < body.length ∧ k ∉ l.take i := by
  rcases h.step i k hk with ⟨rfl, hf, rfl⟩ | h1
  · exact ⟨(h.first_lt hf).1, by simp⟩
  · exact stOf_left.1 (nextOf_mem h1)
theorem Traced.known {i k : Nat} (hk : l[i]? = some k) : (lit body k).kind = 1 ∨ allKnown (boundOf body (l.take i)) (litTerms (lit body k)) = true := by
  rcases h.step i k hk with ⟨rfl, hf, rfl⟩ | h1
  · exact .inl (h.first_lt hf).2
  · rw [← known_eq]
    exact nextOf_known h1
theorem Traced.nodup : l.Nodup := by
  refine List.pairwise_iff_getElem.2 fun i j hi hj hij he => ?_
  refine (h.fresh (List.getElem?_eq_getElem hj)).2 ?_
  rw [← he]
  exact List.mem_take_iff_getElem.2 ⟨i, by omega, rfl⟩
theorem Traced.len : l.length = body.length := by
  have hp : l.Perm (List.range body.length) := by
    rw [List.perm_ext_iff_of_nodup h.nodup List.nodup_range]
    intro a
    constructor
    · intro ha
      obtain ⟨i, hi⟩ := List.mem_iff_getElem?.1 ha
      exact List.mem_range.2 (h.fresh hi).1
    · intro ha
      by_cases hn : a ∈ l
      · exact hn
      · have := (stOf_left (body := body) (o := l)).2 ⟨List.mem_range.1 ha, hn⟩
        rw [h.done] at this
        cases this
  simpa using hp.length_eq
end
theorem order_code (body : List Liter) (first : Int) : ((orderOf body first).2 = 0 ∧ Traced body first (orderOf body first).1) ∨ ((orderOf body first).2 ≠ 0 ∧ (orderOf body first).1 = []) := by
  by_cases h : (orderOf body first).2 = 0
  · exact .inl ⟨h, order_traced (by rw [← h])⟩
  · refine .inr ⟨h, ?_⟩
    unfold orderOf at h ⊢
    split
    · rfl
    · rename_i hb
      rw [if_neg hb] at h
      split
      · rename_i l hl
        rw [hl] at h
        exact absurd rfl h
      · rfl
end Go.Proofs.Ythpejcnldecmoaa.H
namespace Go.Proofs.Ythpejcnldecmoaa.H
theorem Traced.next {body : List Liter} {l : List Nat} (h : Traced body (-1) l) {i k : Nat} (hk : l[i]? = some k) : nextOf body (stOf body (l.take i)) = some k := by
  rcases h.step i k hk with ⟨_, hf, _⟩ | h1
  · omega
  · exact h1
theorem Traced.later {body : List Liter} {first : Int} {l : List Nat} (h : Traced body first l) {i j k : Nat} (hij : i < j) (hj : l[j]? = some k) : k ∈ (stOf body (l.take i)).left := by
  have hf := h.fresh hj
  refine stOf_left.2 ⟨hf.1, fun hm => hf.2 ?_⟩
  obtain ⟨a, ha, rfl⟩ := List.mem_take_iff_getElem.1 hm
  exact List.mem_take_iff_getElem.2 ⟨a, by omega, rfl⟩
theorem next_atom {body : List Liter} {s : Plan} {k : Nat} (h : nextOf body s = some k) (hk : (lit body k).kind = 1) : testOf body s = none ∧ bestOf body s = some k := by
  unfold nextOf at h
  split at h
  · rename_i k' hk'
    cases h
    have := List.find?_some hk'
    simp only [asks, Bool.and_eq_true, decide_eq_true_eq] at this
    exact absurd hk this.1
  · rename_i hn
    exact ⟨hn, h⟩
/-- what asks stands as early as can be -/
theorem Traced.early {body : List Liter} {l : List Nat} (h : Traced body (-1) l) {i j k m : Nat} (hi : l[i]? = some k) (hk : (lit body k).kind = 1) (hij : i < j) (hj : l[j]? = some m) (hm : (lit body m).kind ≠ 1) :
    allKnown (boundOf body (l.take i)) (litTerms (lit body m)) = false := by
  obtain ⟨h1, _⟩ := next_atom (h.next hi) hk
  have h2 := List.find?_eq_none.1 h1 m (h.later hij hj)
  rw [← known_eq]
  simp only [asks, Bool.and_eq_true, decide_eq_true_eq, not_and, Bool.not_eq_true] at h2
  exact h2 hm
def colN (body : List Liter) (bound : List ByteArray) (k : Nat) : Int := ((cols bound (lit body k).atom.args).length : Int)
theorem best_spec (body : List Liter) (bound : List ByteArray) : ∀ (l : List Nat) (b : Option Nat × Int), l.Pairwise (· < ·) → (∀ o, b.1 = some o → b.2 = colN body bound o ∧ ∀ j ∈ l, o < j) →
    b.2 ≤ (bestGo body bound l b).2 ∧ (∀ j ∈ l, (lit body j).kind = 1 → colN body bound j ≤ (bestGo body bound l b).2) ∧
    ∀ k, (bestGo body bound l b).1 = some k → (bestGo body bound l b).2 = colN body bound k ∧ (b.2 < (bestGo body bound l b).2 ∨ b.1 = some k) ∧ ∀ j ∈ l, (lit body j).kind = 1 → colN body bound j = colN body bound k → k ≤ j
  | [], b, _, hb => ⟨Int.le_refl _, by simp, fun k hk => ⟨(hb k hk).1, .inr hk, by simp⟩⟩
  | x :: l, b, hp, hb => by
    have hp' := List.pairwise_cons.1 hp
    unfold bestGo
    by_cases hx : (lit body x).kind = 1 ∧ b.2 < ((cols bound (lit body x).atom.args).length : Int)
    · rw [if_pos hx]
      obtain ⟨h1, h2, h3⟩ := best_spec body bound l (some x, ((cols bound (lit body x).atom.args).length : Int)) hp'.2 (fun o ho => by
        simp at ho
        subst ho
        exact ⟨rfl, fun j hj => hp'.1 j hj⟩)
      have h1' : colN body bound x ≤ _ := h1
      have hbx : b.2 < colN body bound x := hx.2
      refine ⟨by omega, fun j hj hk => ?_, fun k hk => ?_⟩
      · rcases List.mem_cons.1 hj with rfl | hj
        · exact h1'
        · exact h2 j hj hk
      · obtain ⟨h4, h5, h6⟩ := h3 k hk
        refine ⟨h4, .inl (by omega), fun j hj hk1 he => ?_⟩
        rcases List.mem_cons.1 hj with rfl | hj
        · rcases h5 with h5 | h5
          · have h5' : colN body bound j < _ := h5
            omega
          · simp at h5; omega
        · exact h6 j hj hk1 he
    · rw [if_neg hx]
      obtain ⟨h1, h2, h3⟩ := best_spec body bound l b hp'.2 (fun o ho => ⟨(hb o ho).1, fun j hj => (hb o ho).2 j (List.mem_cons_of_mem _ hj)⟩)
      have hx' : (lit body x).kind = 1 → colN body bound x ≤ b.2 := fun hk => by
        have : ¬ b.2 < colN body bound x := fun h => hx ⟨hk, h⟩
        omega
      refine ⟨h1, fun j hj hk => ?_, fun k hk => ?_⟩
      · rcases List.mem_cons.1 hj with rfl | hj
        · have := hx' hk; omega
        · exact h2 j hj hk
      · obtain ⟨h4, h5, h6⟩ := h3 k hk
        refine ⟨h4, h5, fun j hj hk1 he => ?_⟩
        rcases List.mem_cons.1 hj with rfl | hj
        · rcases h5 with h5 | h5
          · have := hx' hk1; omega
          · have := (hb k h5).2 j List.mem_cons_self; omega
        · exact h6 j hj hk1 he
theorem stOf_sorted (body : List Liter) (o : List Nat) : (stOf body o).left.Pairwise (· < ·) := List.Pairwise.filter _ List.pairwise_lt_range
/-- each atom has the most places, and is the first such -/
theorem Traced.greedy {body : List Liter} {l : List Nat} (h : Traced body (-1) l) {i j k m : Nat} (hi : l[i]? = some k) (hk : (lit body k).kind = 1) (hij : i < j) (hj : l[j]? = some m) (hm : (lit body m).kind = 1) :
    (cols (boundOf body (l.take i)) (lit body m).atom.args).length ≤ (cols (boundOf body (l.take i)) (lit body k).atom.args).length ∧
    ((cols (boundOf body (l.take i)) (lit body m).atom.args).length = (cols (boundOf body (l.take i)) (lit body k).atom.args).length → k ≤ m) := by
  obtain ⟨_, h1⟩ := next_atom (h.next hi) hk
  obtain ⟨_, h2, h3⟩ := best_spec body (boundOf body (l.take i)) (stOf body (l.take i)).left (none, -1) (stOf_sorted body _) (by simp)
  obtain ⟨h4, _, h6⟩ := h3 k h1
  have h5 := h2 m (h.later hij hj) hm
  have h7 := h6 m (h.later hij hj) hm
  simp only [colN] at h4 h5 h7
  refine ⟨by omega, fun he => h7 (by omega)⟩
end Go.Proofs.Ythpejcnldecmoaa.H
namespace Go.Proofs.Ythpejcnldecmoaa.H
open Go.RowKit Go.Proofs.YthpejcnldecmoaaW.PrintWords
set_option linter.unusedVariables false
theorem lib_ba_eq {a b : ByteArray} : (a.toList = b.toList) ↔ a = b := by
  constructor
  · intro h
    have h1 : a.data.toList = b.data.toList := by
      have := congrArg id h
      rwa [ByteArray.toList_eq, ByteArray.toList_eq] at this
    cases a; cases b; simp_all
  · rintro rfl; rfl
theorem drop_end {α : Type} {l : List α} {n : Nat} (h : l.drop n = []) : ¬ (n : Int) < (l.length : Int) := by
  have := congrArg List.length h
  simp at this
  omega
theorem drop_more {α : Type} {l : List α} {n : Nat} {y : α} {r : List α} (h : l.drop n = y :: r) (hl : l.length ≤ 9223372036854775807) :
    (n : Int) < (l.length : Int) ∧ (0 : Int) ≤ (n : Int) ∧ (∀ d, l.getD (n : Int).toNat d = y) ∧ l.drop (n + 1) = r ∧ wrap64 ((n : Int) + 1) = ((n + 1 : Nat) : Int) := by
  have h1 := congrArg List.length h
  simp at h1
  have h2 : l.drop (n + 1) = r := by
    have := congrArg (List.drop 1) h
    simpa [List.drop_drop, Nat.add_comm] using this
  have h3 : l[n]? = some y := by
    have := congrArg (fun z => z[0]?) h
    simpa using this
  refine ⟨by omega, by omega, fun d => ?_, h2, ?_⟩
  · rw [Int.toNat_natCast, List.getD_eq_getElem?_getD, h3]; rfl
  · unfold wrap64; omega
theorem at_more {α : Type} {l : List α} {n : Nat} (h : n < l.length) : ∃ y r, l.drop n = y :: r ∧ l[n]? = some y :=
  ⟨l[n], l.drop (n + 1), List.drop_eq_getElem_cons h, List.getElem?_eq_getElem h⟩
theorem getD_at {α : Type} {l : List α} {n : Nat} {y : α} (h : l[n]? = some y) (d : α) : l.getD (n : Int).toNat d = y := by
  rw [Int.toNat_natCast, List.getD_eq_getElem?_getD, h]; rfl
theorem wrap_up {n : Nat} (h : n < 9223372036854775807) : wrap64 ((n : Int) + 1) = ((n + 1 : Nat) : Int) := by unfold wrap64; omega
theorem ite_t {α : Type} {c : Prop} [Decidable c] (h : c) (a b : α) : (if c then a else b) = a := if_pos h
theorem Ev.iff {α : Type} {g : Nat → Option α} {r r' : α} (h : Ev g r) (e : r = r') : Ev g r' := e ▸ h
theorem Ev.some {α : Type} {r r' : α} (e : r = r') : Ev (fun _ => some r) r' := e ▸ Ev.now r
theorem Ev.pure {α β : Type} {o : Option α} {f : Nat → α → Option β} {a : α} {r : β} (h : o = .some a) (k : Ev (fun n => f n a) r) : Ev (fun n => o.bind (f n)) r := by
  subst h; exact k
theorem Ev.pos {α : Type} {c : Prop} [Decidable c] {g f : Nat → Option α} {r : α} (h : c) (k : Ev g r) : Ev (fun n => if c then g n else f n) r := by
  simp only [if_pos h]; exact k
theorem Ev.neg {α : Type} {c : Prop} [Decidable c] {g f : Nat → Option α} {r : α} (h : ¬ c) (k : Ev f r) : Ev (fun n => if c then g n else f n) r := by
  simp only [if_neg h]; exact k
theorem Ev.cases {α : Type} {c : Prop} [Decidable c] {g f : Nat → Option α} {r r' : α} (h1 : c → Ev g r) (h2 : ¬ c → Ev f r') : Ev (fun n => if c then g n else f n) (if c then r else r') := by
  by_cases h : c
  · simp only [if_pos h]; exact h1 h
  · simp only [if_neg h]; exact h2 h
end Go.Proofs.Ythpejcnldecmoaa.H
namespace Go.Proofs.Ythpejcnldecmoaa.H
open Go.RowKit Go.Proofs.YthpejcnldecmoaaW.PrintWords Go.Proofs.YthpejcnldecmoaaW.PrintLast Go.Proofs.YthpejcnldecmoaaW.PrintMore
set_option linter.unusedVariables false

/-- a predicate that is handed to the library, at one cell -/
def PredK (P : Program) (g : Nat) (lb : Array Value) {α : Type} (enc : α → Value) (p : α → Bool) (w : World) (l : List α) : Prop :=
  ∀ (W : World) (x : α), x ∈ l → Below w.heap.size w W → Calls P g (#[enc x] ++ lb) W fun e w' => e = .returned (.bool (p x)) ∧ Below W.heap.size W w'
/-- the same at a struct -/
def PredA (P : Program) (g : Nat) (lb : Array Value) {α : Type} (d : Kd α) (p : α → Bool) (w : World) (l : List α) : Prop :=
  ∀ (W : World) (x : α) (cs : List Value), x ∈ l → Below w.heap.size w W → d.K W x cs → Calls P g (#[.agg cs.toArray] ++ lb) W fun e w' => e = .returned (.bool (p x)) ∧ Below W.heap.size W w'

/-- the first place from i on at which p holds; -1 -/
def idxP {α : Type} (p : α → Bool) : List α → Nat → Int
  | [], _ => -1
  | x :: l, i => if p x = true then (i : Int) else idxP p l (i + 1)

theorem drop_cons {α : Type} {l : List α} {k : Nat} {y : α} (hy : l[k]? = some y) : l.drop k = y :: l.drop (k + 1) := by
  obtain ⟨h, rfl⟩ := List.getElem?_eq_some_iff.1 hy
  exact List.drop_eq_getElem_cons h
theorem drop_all {α : Type} (l : List α) : l.drop l.length = [] := List.drop_length
theorem at_some {α : Type} {l : List α} {k : Nat} (h : k < l.length) : ∃ y, l[k]? = some y := ⟨l[k], List.getElem?_eq_getElem h⟩

theorem idxP_any {α : Type} (p : α → Bool) : ∀ (l : List α) (i : Nat), decide (0 ≤ idxP p l i) = l.any p
  | [], i => by simp [idxP]
  | x :: l, i => by
    unfold idxP
    by_cases h : p x = true
    · rw [if_pos h]; simp [h]
    · rw [if_neg h, idxP_any p l (i + 1)]; simp [h]


theorem ba_eq {a b : ByteArray} : (a.toList = b.toList) ↔ a = b := by
  constructor
  · intro h
    have h1 : a.data.toList = b.data.toList := by
      have := h
      rwa [ByteArray.toList_eq, ByteArray.toList_eq] at this
    cases a; cases b; simp at h1; subst h1; rfl
  · rintro rfl; rfl
theorem ba_beq {a b : ByteArray} (h : a = b) : (a.toList == b.toList) = true ∧ (a.toList != b.toList) = false := by subst h; simp
theorem ba_bne {a b : ByteArray} (h : ¬ a = b) : (a.toList == b.toList) = false ∧ (a.toList != b.toList) = true :=
  ⟨beq_eq_false_iff_ne.2 (fun e => h (ba_eq.1 e)), bne_iff_ne.2 (fun e => h (ba_eq.1 e))⟩

section
variable {w : World} {A : Option Addr} {n i : Nat}
theorem at_int {k : IntKind} {xs : List Int} {y : Int} (h : (Kd.int k).C w A n xs) (hy : xs[i]? = some y) : ∃ ad, A = some ad ∧ w.cell? (ad.add i) = some (.int k y) := by
  obtain ⟨ad, c, e, _, hK, hc⟩ := Kd.C_nth h hy
  obtain rfl : c = [.int k y] := hK
  have hq := hc 0 _ rfl
  exact ⟨ad, e, by rwa [show i * (Kd.int k).sz + 0 = i from Nat.mul_one i] at hq⟩
theorem at_bool {xs : List Bool} {y : Bool} (h : Kd.bool.C w A n xs) (hy : xs[i]? = some y) : ∃ ad, A = some ad ∧ w.cell? (ad.add i) = some (.bool y) := by
  obtain ⟨ad, c, e, _, hK, hc⟩ := Kd.C_nth h hy
  obtain rfl : c = [.bool y] := hK
  have hq := hc 0 _ rfl
  exact ⟨ad, e, by rwa [show i * Kd.bool.sz + 0 = i from Nat.mul_one i] at hq⟩
theorem at_str {xs : List ByteArray} {y : ByteArray} (h : Kd.string.C w A n xs) (hy : xs[i]? = some y) : ∃ ad, A = some ad ∧ w.cell? (ad.add i) = some (.string y) := by
  obtain ⟨ad, c, e, _, hK, hc⟩ := Kd.C_nth h hy
  obtain rfl : c = [.string y] := hK
  have hq := hc 0 _ rfl
  exact ⟨ad, e, by rwa [show i * Kd.string.sz + 0 = i from Nat.mul_one i] at hq⟩
theorem at_row {α : Type} {d : Kd α} {t : Nat} {xs : List (List α)} {y : List α} (h : (Kd.slice t d).C w A n xs) (hy : xs[i]? = some y) : ∃ ad A1 c1, A = some ad ∧ w.cell? (ad.add i) = some (.slice A1 y.length c1) ∧ y.length ≤ c1 ∧ d.C w A1 y.length y := by
  obtain ⟨ad, c, e, _, hK, hc⟩ := Kd.C_nth h hy
  obtain ⟨A1, c1, rfl, hl, hr⟩ := hK
  have hq := hc 0 _ rfl
  exact ⟨ad, A1, c1, e, by rwa [show i * (Kd.slice t d).sz + 0 = i from Nat.mul_one i] at hq, hl, hr⟩
end
/-- an old cell, in a world that comes behind -/
theorem Below.old {w W : World} {a : Addr} {v : Value} (hb : Below w.heap.size w W) (h : w.cell? a = some v) : W.cell? a = some v := (hb.cell (World.block_lt_of_cell? w _ h)).trans h
theorem Below.then {w W X : World} (h : Below w.heap.size w W) (k : Below W.heap.size W X) : Below w.heap.size w X := below_then h h.size k
theorem ret_int {k : IntKind} {a b : Int} (h : a = b) : Ending.returned (.int k a) = .returned (.int k b) := by rw [h]
theorem ret_bool {a b : Bool} (h : a = b) : Ending.returned (.bool a) = .returned (.bool b) := by rw [h]
end Go.Proofs.Ythpejcnldecmoaa.H
namespace Go.Proofs.Ythpejcnldecmoaa.H
open Go.RowKit Go.Proofs.YthpejcnldecmoaaW.PrintWords Go.Proofs.YthpejcnldecmoaaW.PrintLast Go.Proofs.YthpejcnldecmoaaW.PrintMore
set_option linter.unusedVariables false

theorem grown_set (w : World) (g j : Nat) (v : Value) : w.grownBy (w.setCell ⟨g, j, none⟩ v) (some g) :=
  ⟨rfl, rfl, rfl, by simp [World.setCell], fun k hk hne => Below.heap_setCell w ⟨g, j, none⟩ v k (fun e => hne (by rw [e]))⟩
theorem grown_trans {w w1 w2 : World} {r : Option Nat} (h : w.grownBy w1 r) (k : w1.grownBy w2 r) : w.grownBy w2 r :=
  ⟨k.os.trans h.os, k.tape.trans h.tape, k.output.trans h.output, Nat.le_trans h.size k.size, fun j hj hne => (k.block j (Nat.lt_of_lt_of_le hj h.size) hne).trans (h.block j hj hne)⟩
/-! ### what 'clear' and stores leave of a row -/
theorem setCells_rowH {g : Nat} {e : TypeId} : ∀ (vs : List Value) (o : Nat) (w : World) (cur : Array Value), w.heap[g]? = some (.cells cur e (0, 0)) →
    ∃ cur', (w.setCells g o vs).heap[g]? = some (.cells cur' e (0, 0)) ∧ cur'.size = cur.size ∧ (∀ j, j < o → cur'[j]? = cur[j]?) ∧ w.grownBy (w.setCells g o vs) (some g)
  | [], o, w, cur, h => ⟨cur, h, rfl, fun _ _ => rfl, World.grownBy.refl w _⟩
  | v :: r, o, w, cur, h => by
    have h1 := blk_set h o v
    obtain ⟨cur', h2, h3, h4, h5⟩ := setCells_rowH r (o + 1) _ _ h1
    refine ⟨cur', h2, by rw [h3]; simp, fun j hj => ?_, ?_⟩
    · rw [h4 j (by omega)]; simp [show ¬ o = j by omega]
    · exact grown_trans (grown_set w g o v) h5
theorem run_clear_row {P : Program} (w : World) (t e ty : TypeId) (z : Value) (ht : P.underlying t = some (.slice e)) (hv : ∀ w, (zeroValue e).run P w = .ok z w) (h1 : ∀ v ∈ z.cells, v.oneCell' = true) (g o n c : Nat) (cur : Array Value)
    (hh : w.heap[g]? = some (.cells cur e (0, 0))) (hn : o + n * z.cells.size ≤ cur.size) :
    ∃ vs, (Builtin.clear_ #[t] ty #[.slice (some ⟨g, o, none⟩) n c]).run P w = .ok (.tuple #[]) (w.setCells g o vs) := by
  cases n with
  | zero => exact ⟨[], by simp [Builtin.clear_, run_underlying ht]; rfl⟩
  | succ m =>
    have hst := run_storeCells_cells (P := P) g o (Builtin.zeroCells z.cells (m + 1)).toList 0 w
      (by intro j hj
          have hj' : j < (m + 1) * z.cells.size := by simpa [Builtin.zeroCells] using hj
          rw [Nat.add_zero, blk_cell hh, Array.getElem?_eq_getElem (by omega)]; rfl)
      (fun j _ => blk_frozen hh _)
      (by intro v hv'
          simp only [Builtin.zeroCells, Array.toList_map, List.mem_map] at hv'
          obtain ⟨i, hi, rfl⟩ := hv'
          have hi' : i < (m + 1) * z.cells.size := by simpa using hi
          have hz : 0 < z.cells.size := by
            rcases Nat.eq_zero_or_pos z.cells.size with h0 | h0
            · rw [h0] at hi'; omega
            · exact h0
          rw [getElem!_pos z.cells _ (Nat.mod_lt _ hz)]
          exact h1 _ (Array.getElem_mem _))
    simp only [Nat.add_zero] at hst
    exact ⟨(Builtin.zeroCells z.cells (m + 1)).toList, by simp [Builtin.clear_, run_underlying ht, hv, hst]⟩
/-- a row whose tail was written, cut before that tail -/
theorem R_cut {α : Type} {d : Kd α} {e : Nat} {w w1 : World} {base : Nat} {ok : Nat → Prop} {g n cap i : Nat} {xs : List α} (h : d.R e w base ok (.slice (some ⟨g, 0, none⟩) n cap) xs) (hi : i ≤ xs.length) (hg : w.grownBy w1 (some g)) {cur cur' : Array Value}
    (h0 : w.heap[g]? = some (.cells cur e (0, 0))) (h1 : w1.heap[g]? = some (.cells cur' e (0, 0))) (hs : cur'.size = cur.size) (hp : ∀ j, j < i * d.sz → cur'[j]? = cur[j]?) :
    d.R e w1 base ok (.slice (some ⟨g, 0, none⟩) i cap) (xs.take i) := by
  obtain ⟨hok, inner, ⟨hlen, ho⟩, hr⟩ := h
  rcases ho with ⟨he, _⟩ | ⟨g', cap', cur0, he, hb, hh, hnc, hcm, hcs, htk⟩
  · cases he
  · cases he
    have hcc : cur0 = cur := by rw [h0] at hh; injection hh with hh; injection hh with hh; exact hh.symm
    subst hcc
    have hle : i * d.sz ≤ xs.length * d.sz := Nat.mul_le_mul_right _ hi
    have hlt : (xs.take i).length = i := by rw [List.length_take]; omega
    have hll : inner.length = xs.length * d.sz := hlen
    refine ⟨hok, inner.take (i * d.sz), ⟨?_, .inr ⟨g, cap, cur', by rw [hlt], hb, h1, by omega, hcm, by rw [hs, hcs], ?_⟩⟩, ?_, ?_⟩
    · rw [List.length_take, hlt]; omega
    · rw [hlt, ← htk, List.take_take, Nat.min_eq_left hle]
      apply List.ext_getElem?
      intro j
      rw [List.getElem?_take, List.getElem?_take]
      split
      · have := hp j (by assumption)
        simpa using this
      · rfl
    · rw [List.length_take, hlt]; omega
    · intro j p hj
      rw [List.getElem?_take] at hj
      split at hj
      · rename_i hji
        have h3 := hr.2 j p hj
        have hjs : j * d.sz + d.sz ≤ i * d.sz := by rw [← Nat.succ_mul]; exact Nat.mul_le_mul_right _ hji
        have e1 : ((inner.take (i * d.sz)).drop (j * d.sz)).take d.sz = (inner.drop (j * d.sz)).take d.sz := by
          rw [List.drop_take, List.take_take, Nat.min_eq_left (by omega)]
        rw [e1]
        refine Kd.M_grown h3 hg (fun k hk => ?_)
        simpa [Value.ownBlock] using hk.2
      · cases hj

theorem R_blk {α : Type} {d : Kd α} {e : Nat} {w : World} {base : Nat} {ok : Nat → Prop} {g n cap : Nat} {xs : List α} (h : d.R e w base ok (.slice (some ⟨g, 0, none⟩) n cap) xs) : ∃ cells, w.heap[g]? = some (.cells cells e (0, 0)) := by
  obtain ⟨_, inner, ⟨_, ho⟩, _⟩ := h
  rcases ho with ⟨he, _⟩ | ⟨g', cap', cur0, he, hb, hh, _⟩
  · cases he
  · cases he; exact ⟨_, hh⟩
theorem R_size {α : Type} {d : Kd α} {e : Nat} {w : World} {base : Nat} {ok : Nat → Prop} {g n cap : Nat} {xs : List α} (h : d.R e w base ok (.slice (some ⟨g, 0, none⟩) n cap) xs) {cells : Array Value} (hc : w.heap[g]? = some (.cells cells e (0, 0))) : cells.size = cap * d.sz ∧ n ≤ cap := by
  obtain ⟨_, inner, ⟨_, ho⟩, _⟩ := h
  rcases ho with ⟨he, _⟩ | ⟨g', cap', cur0, he, hb, hh, h1, h2, h3, _⟩
  · cases he
  · cases he
    rw [hh] at hc; injection hc with hc; injection hc with hc; subst hc
    exact ⟨h3, h1⟩
theorem R_put1 {α : Type} {enc : α → Value} {h1 : ∀ x, (enc x).oneCell' = true} {e : Nat} {w : World} {base : Nat} {ok : Nat → Prop} {g n cap : Nat} {xs : List α} (h : (Kd.scalar enc h1).R e w base ok (.slice (some ⟨g, 0, none⟩) n cap) xs) (i : Nat) (x : α) :
    (Kd.scalar enc h1).R e (w.setCell ⟨g, i, none⟩ (enc x)) base ok (.slice (some ⟨g, 0, none⟩) n cap) (xs.set i x) ∧ w.grownBy (w.setCell ⟨g, i, none⟩ (enc x)) (some g) := by
  obtain ⟨rfl, _, _⟩ := Kd.R_reads' h
  have := Kd.R_put h (i : Int) x
  simpa using this

/-- a row that was made by a literal, read -/
theorem C_cells {α : Type} {d : Kd α} {w : World} {g e : Nat} {cs : Array Value} {xs : List α} (h : w.heap[g]? = some (.cells cs e (0, 0))) (hr : Reps (d.K w) d.sz xs cs.toList) (hl : xs.length ≤ 9223372036854775807) :
    d.C w (some ⟨g, 0, none⟩) xs.length xs := by
  refine ⟨rfl, hl, fun _ => ⟨⟨g, 0, none⟩, rfl, fun j p hj => ?_⟩⟩
  refine ⟨(cs.toList.drop (j * d.sz)).take d.sz, ?_, hr.2 j p hj, fun i u hu => ?_⟩
  · have hjl := (List.getElem?_eq_some_iff.1 hj).1
    have : j * d.sz + d.sz ≤ xs.length * d.sz := by rw [← Nat.succ_mul]; exact Nat.mul_le_mul_right _ hjl
    rw [List.length_take, List.length_drop, hr.1]; omega
  · rw [List.getElem?_take] at hu
    split at hu
    · rw [add_plain, blk_cell h]
      rw [List.getElem?_drop] at hu
      simpa using hu
    · cases hu

/-- a predicate that is handed to what rewrites the row as it goes -/
def PredG (P : Program) (g : Nat) (lb : Array Value) {α : Type} (enc : α → Value) (p : α → Bool) (w : World) (row : Option Nat) (l : List α) : Prop :=
  ∀ (W : World) (x : α), x ∈ l → w.grownBy W row → Calls P g (#[enc x] ++ lb) W fun e w' => e = .returned (.bool (p x)) ∧ Below W.heap.size W w'
theorem grown_below {w w1 : World} (h : Below w.heap.size w w1) (row : Option Nat) : w.grownBy w1 row := grown_of_below h row
theorem PredG.k {P : Program} {g : Nat} {lb : Array Value} {α : Type} {enc : α → Value} {p : α → Bool} {w : World} {row : Option Nat} {l : List α} (h : PredG P g lb enc p w row l) : PredK P g lb enc p w l :=
  fun W x hm hb => h W x hm (grown_of_below hb row)

/-! ### what is kept of a row as slices.DeleteFunc goes through it -/
structure KeptIv {α : Type} (q : α → Bool) (l : List α) (j i : Nat) (dk : List α) : Prop where
  len : dk.length = l.length
  lt : i < j
  le : j ≤ l.length
  low : dk.take i = (l.take j).filter q
  high : dk.drop j = l.drop j
theorem KeptIv.skip {α : Type} {q : α → Bool} {l dk : List α} {j i : Nat} {y : α} (h : KeptIv q l j i dk) (hy : l[j]? = some y) (hq : q y = false) : KeptIv q l (j + 1) i dk := by
  have hj : j < l.length := (List.getElem?_eq_some_iff.1 hy).1
  refine ⟨h.len, by have := h.lt; omega, by omega, ?_, ?_⟩
  · rw [List.take_add_one, hy, List.filter_append, h.low]; simp [hq]
  · have := congrArg (List.drop 1) h.high; simpa [List.drop_drop, Nat.add_comm] using this
theorem KeptIv.keep {α : Type} {q : α → Bool} {l dk : List α} {j i : Nat} {y : α} (h : KeptIv q l j i dk) (hy : l[j]? = some y) (hq : q y = true) : KeptIv q l (j + 1) (i + 1) (dk.set i y) := by
  have hj : j < l.length := (List.getElem?_eq_some_iff.1 hy).1
  have hlt := h.lt
  have hlen := h.len
  refine ⟨by simpa using h.len, by omega, by omega, ?_, ?_⟩
  · have e1 : (dk.set i y).take (i + 1) = dk.take i ++ [y] := by
      rw [List.take_add_one, List.getElem?_set_self (by omega)]
      simp [List.take_set_of_le (Nat.le_refl i)]
    rw [e1, h.low, List.take_add_one, hy, List.filter_append]; simp [hq]
  · rw [List.drop_set_of_lt (by omega)]
    have := congrArg (List.drop 1) h.high; simpa [List.drop_drop, Nat.add_comm] using this
theorem KeptIv.start {α : Type} {q : α → Bool} {l : List α} {k : Nat} {y : α} (h : ∀ x ∈ l.take k, q x = true) (hy : l[k]? = some y) (hq : q y = false) : KeptIv q l (k + 1) k l := by
  have hk : k < l.length := (List.getElem?_eq_some_iff.1 hy).1
  refine ⟨rfl, by omega, by omega, ?_, rfl⟩
  rw [List.take_add_one, hy, List.filter_append, List.filter_eq_self.2 h]; simp [hq]
theorem idxP_cases {α : Type} (p : α → Bool) : ∀ (l : List α) (i : Nat), (idxP p l i = -1 ∧ ∀ x ∈ l, p x = false) ∨ ∃ k y, idxP p l i = ((i + k : Nat) : Int) ∧ l[k]? = some y ∧ p y = true ∧ ∀ x ∈ l.take k, p x = false
  | [], i => .inl ⟨rfl, by simp⟩
  | x :: l, i => by
    cases h : p x with
    | true => exact .inr ⟨0, x, by simp [idxP, h], by simp, h, by simp⟩
    | false =>
      rcases idxP_cases p l (i + 1) with ⟨e, ha⟩ | ⟨k, y, e, hy, hp, ha⟩
      · exact .inl ⟨by simp [idxP, h, e], by simpa [h] using ha⟩
      · exact .inr ⟨k + 1, y, by rw [idxP, if_neg (by rw [h]; decide), e]; congr 1; omega, by simpa using hy, hp, by simpa [h] using ha⟩
end Go.Proofs.Ythpejcnldecmoaa.H
namespace Go.Proofs.Ythpejcnldecmoaa.H
open Go.RowKit Go.Proofs.YthpejcnldecmoaaW.PrintWords Go.Proofs.YthpejcnldecmoaaW.PrintLast Go.Proofs.YthpejcnldecmoaaW.PrintMore
set_option linter.unusedVariables false

set_option maxHeartbeats 1000000 in
theorem IndexString (A0 : Option Addr) (c0 : Nat) (l0 : List ByteArray) (s : ByteArray) (w : World) (hr0 : Kd.C Kd.string w A0 l0.length l0) :
    Calls Try.prog 60 #[.slice A0 l0.length c0, .string s] w fun e w' => e = .returned (.int .i64 (idxP (fun x => decide (s = x)) l0 0)) ∧ w = w' := by
  have HR := Aside0.mk hr0
  have hl : l0.length ≤ 9223372036854775807 := hr0.2.1
  clear hr0
  go_enter Try.func60, Try.ntmps60
  go_wp2
  go_loop [5, 8] (fun _ s8 => ∃ kk : Nat, kk ≤ l0.length ∧ s8 = .int .i64 kk ∧ Aside0 (idxP (fun x => decide (s = x)) l0 0 = idxP (fun x => decide (s = x)) (l0.drop kk) kk)) (fun _ s8 => l0.length - (intOf s8).toNat)
  case atStart => exact ⟨0, Nat.zero_le _, rfl, ⟨rfl⟩⟩
  case round =>
    obtain ⟨kk, hkk, rfl, A⟩ := hrel
    by_cases hlt : kk < l0.length
    · have hltz : (kk : Int) < (l0.length : Int) := by omega
      obtain ⟨y, hy⟩ := at_some hlt
      obtain ⟨ad, e1, hx⟩ := at_str HR.out hy
      cases e1
      have HA := Aside0.mk (A.out.trans (by rw [drop_cons hy]))
      clear A hy
      by_cases hq : s = y
      · obtain ⟨q1, q2⟩ := ba_beq hq
        have HQ := Aside0.mk hq
        clear hq
        go_wp2
        go_ret
        exact ⟨by rw [HA.out, idxP, if_pos (by simpa using HQ.out)]; rfl, rfl⟩
      · obtain ⟨q1, q2⟩ := ba_bne hq
        have HQ := Aside0.mk hq
        clear hq
        go_wp2
        go_round
        case measure => simp [intOf]; omega
        case rel => exact ⟨kk + 1, by omega, by go_num, ⟨by rw [HA.out, idxP, if_neg (by simpa using HQ.out)]⟩⟩
    · have hltz : ¬ (kk : Int) < (l0.length : Int) := by omega
      obtain rfl : kk = l0.length := by omega
      go_wp2
      go_ret
      exact ⟨by rw [A.out]; simp [idxP], rfl⟩

theorem ContainsString (A0 : Option Addr) (c0 : Nat) (l0 : List ByteArray) (s : ByteArray) (w : World) (hr0 : Kd.C Kd.string w A0 l0.length l0) :
    Calls Try.prog 45 #[.slice A0 l0.length c0, .string s] w fun e w' => e = .returned (.bool (mem s l0)) ∧ w = w' := by
  have HR := Aside0.mk hr0
  clear hr0
  go_enter Try.func45, Try.ntmps45
  go_wp2_with (go_at_call 60; refine (IndexString _ _ _ _ _ HR.out).mono ?_; rintro e w' ⟨rfl, rfl⟩)
  go_ret
  exact ⟨by rw [mem, ← idxP_any]; rfl, rfl⟩
end Go.Proofs.Ythpejcnldecmoaa.H
namespace Go.Proofs.Ythpejcnldecmoaa.H
open Go.RowKit Go.Proofs.YthpejcnldecmoaaW.PrintWords Go.Proofs.YthpejcnldecmoaaW.PrintLast Go.Proofs.YthpejcnldecmoaaW.PrintMore
set_option linter.unusedVariables false
theorem infoStr : (Try.prog.info? 9).map (fun i => (i.zero, i.size, i.bytes)) = some (some (.string ⟨#[]⟩), 1, 16) := by kernel_rfl
theorem infoInt : (Try.prog.info? 3).map (fun i => (i.zero, i.size, i.bytes)) = some (some (.int .i64 0), 1, 8) := by kernel_rfl

set_option maxHeartbeats 200000 in
theorem safe_names (A0 : Option Addr) (c0 : Nat) (l0 : List Term) (w : World) (hr0 : Kd.C k45 w A0 l0.length l0) (hl : l0.length ≤ 8796093022207) :
    Calls Try.prog 51 #[.slice A0 l0.length c0] w fun e w' => ∃ v, e = .returned v ∧ Kd.R Kd.string 9 w' w.heap.size (fun _ => True) v (names l0) ∧ Below w.heap.size w w' := by
  have hu := Try.underlying45
  have HR := Aside0.mk hr0
  clear hr0
  go_enter Try.func51, Try.ntmps51
  go_wp2
  go_loopg [3, 8] l0.length (fun gg v3 s8 wr => ∃ (kk : Nat) (acc : List ByteArray), kk ≤ l0.length ∧ l0.length - kk ≤ gg ∧ s8 = .int .i64 kk ∧ Aside0 (namesGo acc (l0.drop kk) = names l0) ∧ acc.length ≤ kk ∧ Aside0 (Kd.R Kd.string 9 wr w.heap.size (fun _ => True) v3 acc) ∧ Aside0 (Below w.heap.size w wr))
  case atStart => exact ⟨0, [], Nat.zero_le _, by omega, rfl, ⟨rfl⟩, Nat.zero_le _, ⟨Kd.R_nil _ _ _ _ _⟩, ⟨Below.refl _ _⟩⟩
  case round =>
    obtain ⟨kk, acc, hkk, hg, rfl, A, hal, HO, HB⟩ := hrel
    by_cases hlt : kk < l0.length
    · have hltz : (kk : Int) < (l0.length : Int) := by omega
      obtain ⟨y, hy⟩ := at_some hlt
      obtain ⟨ad, e1, hx0, hx1, hx2, hx3, hx4⟩ := at_Term HR.out hy
      cases e1
      replace hx0 := Below.old HB.out hx0
      replace hx1 := Below.old HB.out hx1
      replace hx2 := Below.old HB.out hx2
      replace hx3 := Below.old HB.out hx3
      replace hx4 := Below.old HB.out hx4
      have HA := Aside0.mk (A.out.symm.trans (by rw [drop_cons hy]))
      clear A hy
      obtain ⟨A1, c1, rfl, hlc, hc1⟩ := Kd.R_reads HO.out
      have HC := Aside0.mk hc1
      clear hc1
      cases hv : y.isVar with
      | false =>
        rw [hv] at hx0
        have hq : (y.isVar && !mem y.name acc) = false := by rw [hv]; rfl
        have HQ := Aside0.mk hq
        clear hq hv
        go_wp2
        go_roundg (l0.length - (kk + 1))
        case measure => omega
        case rel =>
          exact ⟨kk + 1, acc, by omega, by omega, by go_num, ⟨by rw [HA.out, namesGo, if_neg (by rw [HQ.out]; decide)]⟩, by omega, ⟨Kd.R_alloc HO.out _⟩, ⟨below_alloc HB.out _⟩⟩
      | true =>
        rw [hv] at hx0
        have hsz := HB.out.size
        cases hm : mem y.name acc with
        | true =>
          have hq : (y.isVar && !mem y.name acc) = false := by rw [hv, hm]; rfl
          have HQ := Aside0.mk hq
          have HM := Aside0.mk hm
          clear hq hv hm
          go_wp2_with (go_at_call 45; refine (ContainsString _ _ _ _ _ (Kd.C_alloc HC.out _)).mono ?_; rintro e w' ⟨rfl, rfl⟩; rw [HM.out])
          go_roundg (l0.length - (kk + 1))
          case measure => omega
          case rel => exact ⟨kk + 1, acc, by omega, by omega, by go_num, ⟨by rw [HA.out, namesGo, if_neg (by rw [HQ.out]; decide)]⟩, by omega, ⟨Kd.R_alloc HO.out _⟩, ⟨below_alloc HB.out _⟩⟩
        | false =>
          have hq : (y.isVar && !mem y.name acc) = true := by rw [hv, hm]; rfl
          have HQ := Aside0.mk hq
          have HM := Aside0.mk hm
          clear hq hv hm
          go_wp2_with (first
            | (go_at_call 45; refine (ContainsString _ _ _ _ _ (Kd.C_alloc HC.out _)).mono ?_; rintro e w' ⟨rfl, rfl⟩; rw [HM.out])
            | (at_builtin; go_must (refine Kd.R_append Kd.string (w0 := w) w.heap.size rfl (.tmp 21) (.tmp 24) 28 9 (.string ⟨#[]⟩) 16 rfl Try.underlying28 infoStr rfl (by decide) (by omega) (.slice A1 acc.length c1) acc y.name [.string y.name] (fun _ => True) (fun _ => False) rfl (by go_simp) rfl (fun _ h => h.elim) (fun _ _ => trivial) (Kd.R_alloc HO.out _) (below_alloc HB.out _) (by simp; omega) (by omega) ?_); intro v1 w1 ho1 hb1 hg1 hat1; have HO1 := Aside0.mk ho1; have HB1 := Aside0.mk hb1; clear ho1 hb1 hg1 hat1))
          go_roundg (l0.length - (kk + 1))
          case measure => omega
          case rel => exact ⟨kk + 1, acc ++ [y.name], by omega, by omega, by go_num, ⟨by rw [HA.out, namesGo, if_pos HQ.out]⟩, by simp; omega, HO1, HB1⟩
    · have hltz : ¬ (kk : Int) < (l0.length : Int) := by omega
      obtain rfl : kk = l0.length := by omega
      go_wp2
      go_ret
      exact ⟨_, rfl, by rw [← A.out, drop_all]; exact HO.out, HB.out⟩

theorem safe_Vars (p : ByteArray) (A0 : Option Addr) (c0 : Nat) (l0 : List Term) (w : World) (hr0 : Kd.C k45 w A0 l0.length l0) (hl : l0.length ≤ 8796093022207) :
    Calls Try.prog 31 #[.agg #[.string p, .slice A0 l0.length c0]] w fun e w' => ∃ v, e = .returned v ∧ Kd.R Kd.string 9 w' w.heap.size (fun _ => True) v (names l0) ∧ Below w.heap.size w w' := by
  have hu := Try.underlying24
  have HR := Aside0.mk hr0
  clear hr0
  go_enter Try.func31, Try.ntmps31
  go_wp2_with (go_at_call 51; go_must (refine (safe_names _ _ _ _ (Kd.C_alloc HR.out _) hl).mono ?_); rintro e w' ⟨v, rfl, hr, hb⟩; have HO := Aside0.mk hr; have HB := Aside0.mk hb; clear hr hb)
  go_ret
  exact ⟨_, rfl, Kd.R_lower HO.out (by simp), Below.then (below_alloc (Below.refl _ _) _) HB.out⟩
end Go.Proofs.Ythpejcnldecmoaa.H
namespace Go.Proofs.Ythpejcnldecmoaa.H
open Go.RowKit Go.Proofs.YthpejcnldecmoaaW.PrintWords Go.Proofs.YthpejcnldecmoaaW.PrintLast Go.Proofs.YthpejcnldecmoaaW.PrintMore
set_option linter.unusedVariables false
set_option maxHeartbeats 2000000 in
theorem plan_Cols (p : ByteArray) (A0 : Option Addr) (c0 : Nat) (l0 : List Term) (A1 : Option Addr) (c1 : Nat) (l1 : List ByteArray) (w : World) (hr0 : Kd.C k45 w A0 l0.length l0) (hr1 : Kd.C Kd.string w A1 l1.length l1) (hl : l0.length ≤ 8796093022207) :
    Calls Try.prog 20 #[.agg #[.string p, .slice A0 l0.length c0], .slice A1 l1.length c1] w fun e w' => ∃ v, e = .returned v ∧ Kd.R (Kd.int .i64) 3 w' w.heap.size (fun _ => True) v (cols l1 l0) ∧ Below w.heap.size w w' := by
  have hu := Try.underlying45
  have hu2 := Try.underlying24
  have HR := Aside0.mk hr0
  have HS := Aside0.mk hr1
  clear hr0 hr1
  go_enter Try.func20, Try.ntmps20
  go_wp2
  go_loopg [5, 11] l0.length (fun gg v5 s11 wr => ∃ (kk : Nat) (acc : List Int), kk ≤ l0.length ∧ l0.length - kk ≤ gg ∧ s11 = .int .i64 kk ∧ Aside0 (acc ++ colsGo l1 (l0.drop kk) kk = cols l1 l0) ∧ acc.length ≤ kk ∧ Aside0 (Kd.R (Kd.int .i64) 3 wr w.heap.size (fun _ => True) v5 acc) ∧ Aside0 (Below w.heap.size w wr))
  case atStart => exact ⟨0, [], Nat.zero_le _, by omega, rfl, ⟨rfl⟩, Nat.zero_le _, ⟨Kd.R_nil _ _ _ _ _⟩, ⟨below_alloc (Below.refl _ _) _⟩⟩
  case round =>
    obtain ⟨kk, acc, hkk, hg, rfl, A, hal, HO, HB⟩ := hrel
    by_cases hlt : kk < l0.length
    · have hltz : (kk : Int) < (l0.length : Int) := by omega
      obtain ⟨y, hy⟩ := at_some hlt
      obtain ⟨ad, e1, hx0, hx1, hx2, hx3, hx4⟩ := at_Term HR.out hy
      cases e1
      replace hx0 := Below.old HB.out hx0
      replace hx1 := Below.old HB.out hx1
      replace hx2 := Below.old HB.out hx2
      replace hx3 := Below.old HB.out hx3
      replace hx4 := Below.old HB.out hx4
      have HA := Aside0.mk (A.out.symm.trans (by rw [drop_cons hy]))
      clear A hy
      obtain ⟨Ao, co, rfl, hlc, hc1⟩ := Kd.R_reads HO.out
      have HS1 := Aside0.mk (Kd.C_below HS.out HB.out)
      have hsz := HB.out.size
      clear hc1
      have fin : ∀ {W : World}, True := trivial
      cases hv : y.isVar with
      | false =>
        rw [hv] at hx0
        have hq : (!y.isVar || mem y.name l1) = true := by rw [hv]; rfl
        have HQ := Aside0.mk hq
        clear hq hv
        go_wp2_with (at_builtin; go_must (refine Kd.R_append (Kd.int .i64) (w0 := w) w.heap.size rfl (.tmp 25) (.tmp 27) 31 3 (.int .i64 0) 8 rfl Try.underlying31 infoInt rfl (by decide) (by omega) (.slice Ao acc.length co) acc (kk : Int) [.int .i64 (kk : Int)] (fun _ => True) (fun _ => False) rfl (by go_simp) rfl (fun _ h => h.elim) (fun _ _ => trivial) (Kd.R_alloc HO.out _) (below_alloc HB.out _) (by simp; omega) (by omega) ?_); intro v1 w1 ho1 hb1 hg1 hat1; have HO1 := Aside0.mk ho1; have HB1 := Aside0.mk hb1; clear ho1 hb1 hg1 hat1)
        go_roundg (l0.length - (kk + 1))
        case measure => omega
        case rel => exact ⟨kk + 1, acc ++ [(kk : Int)], by omega, by omega, by go_num, ⟨by rw [HA.out, colsGo, if_pos HQ.out, List.append_assoc]; rfl⟩, by simp; omega, HO1, HB1⟩
      | true =>
        rw [hv] at hx0
        cases hm : mem y.name l1 with
        | true =>
          have hq : (!y.isVar || mem y.name l1) = true := by rw [hv, hm]; rfl
          have HQ := Aside0.mk hq
          have HM := Aside0.mk hm
          clear hq hv hm
          go_wp2_with (first
            | (go_at_call 45; go_must (refine (ContainsString _ _ _ _ _ (Kd.C_alloc HS1.out _)).mono ?_); rintro e w' ⟨rfl, rfl⟩; rw [HM.out])
            | (at_builtin; go_must (refine Kd.R_append (Kd.int .i64) (w0 := w) w.heap.size rfl (.tmp 25) (.tmp 27) 31 3 (.int .i64 0) 8 rfl Try.underlying31 infoInt rfl (by decide) (by omega) (.slice Ao acc.length co) acc (kk : Int) [.int .i64 (kk : Int)] (fun _ => True) (fun _ => False) rfl (by go_simp) rfl (fun _ h => h.elim) (fun _ _ => trivial) (Kd.R_alloc HO.out _) (below_alloc HB.out _) (by simp; omega) (by omega) ?_); intro v1 w1 ho1 hb1 hg1 hat1; have HO1 := Aside0.mk ho1; have HB1 := Aside0.mk hb1; clear ho1 hb1 hg1 hat1))
          go_roundg (l0.length - (kk + 1))
          case measure => omega
          case rel => exact ⟨kk + 1, acc ++ [(kk : Int)], by omega, by omega, by go_num, ⟨by rw [HA.out, colsGo, if_pos HQ.out, List.append_assoc]; rfl⟩, by simp; omega, HO1, HB1⟩
        | false =>
          have hq : (!y.isVar || mem y.name l1) = false := by rw [hv, hm]; rfl
          have HQ := Aside0.mk hq
          have HM := Aside0.mk hm
          clear hq hv hm
          go_wp2_with (go_at_call 45; go_must (refine (ContainsString _ _ _ _ _ (Kd.C_alloc HS1.out _)).mono ?_); rintro e w' ⟨rfl, rfl⟩; rw [HM.out])
          go_roundg (l0.length - (kk + 1))
          case measure => omega
          case rel => exact ⟨kk + 1, acc, by omega, by omega, by go_num, ⟨by rw [HA.out, colsGo, if_neg (by rw [HQ.out]; decide)]⟩, by omega, ⟨Kd.R_alloc HO.out _⟩, ⟨below_alloc HB.out _⟩⟩
    · have hltz : ¬ (kk : Int) < (l0.length : Int) := by omega
      obtain rfl : kk = l0.length := by omega
      go_wp2
      go_ret
      exact ⟨_, rfl, by rw [← A.out, drop_all, colsGo, List.append_nil]; exact HO.out, HB.out⟩
end Go.Proofs.Ythpejcnldecmoaa.H
namespace Go.Proofs.Ythpejcnldecmoaa.H
open Go.RowKit Go.Proofs.YthpejcnldecmoaaW.PrintWords
set_option linter.unusedVariables false

/-- What an argument of a type holds, read as the kind kd. -/
structure Opens {α : Type} (P : Program) (t : TypeId) (kd : Kd α) : Prop where
  size : P.cellsOf t = kd.sz
  opened : ∀ {H : Type} {enc : TypeId × Value → H} {w : World} {base : Nat} {sp : Nat → Bool} {held : Bool} {fuel : Nat} {cs : List Value} {x : DataW H × List MemPlace},
    DataW.trod enc P w base sp held fuel t cs = some x → ∃ a, kd.K w a cs

theorem opens_bool {P : Program} {t : TypeId} (ht : P.underlying t = some .bool) (hs : P.cellsOf t = 1) : Opens P t Kd.bool :=
  ⟨hs, fun h => by obtain ⟨b, rfl, _⟩ := DataW.trod_bool ht h; exact ⟨b, rfl⟩⟩
theorem opens_int {P : Program} {t : TypeId} {k : IntKind} (ht : P.underlying t = some (.int k)) (hs : P.cellsOf t = 1) : Opens P t (Kd.int k) :=
  ⟨hs, fun h => by obtain ⟨b, rfl, _⟩ := DataW.trod_int ht h; exact ⟨b, rfl⟩⟩
theorem opens_string {P : Program} {t : TypeId} (ht : P.underlying t = some .string) (hs : P.cellsOf t = 1) : Opens P t Kd.string :=
  ⟨hs, fun h => by obtain ⟨b, rfl, _⟩ := DataW.trod_string ht h; exact ⟨b, rfl⟩⟩
theorem list_of {α : Type} (p : Nat → α → Prop) : ∀ n : Nat, (∀ i, i < n → ∃ y, p i y) → ∃ l : List α, l.length = n ∧ ∀ i y, l[i]? = some y → p i y
  | 0, _ => ⟨[], rfl, fun i y h => by simp at h⟩
  | n + 1, h => by
    obtain ⟨l, hl, hp⟩ := list_of p n (fun i hi => h i (by omega))
    obtain ⟨y, hy⟩ := h n (by omega)
    refine ⟨l ++ [y], by simp [hl], fun i z hz => ?_⟩
    rcases Nat.lt_trichotomy i n with hi | rfl | hi
    · rw [List.getElem?_append_left (by omega)] at hz
      exact hp i z hz
    · rw [List.getElem?_append_right (by omega), hl, Nat.sub_self] at hz
      simp at hz
      subst hz
      exact hy
    · rw [List.getElem?_eq_none (by simp [hl]; omega)] at hz
      simp at hz
theorem addr_add_add (a : Addr) (i j : Nat) : (a.add i).add j = a.add (i + j) := by
  unfold Addr.add
  by_cases hi : i = 0 <;> by_cases hj : j = 0 <;> simp [hi, hj, Nat.add_assoc]
theorem opens_slice {α : Type} {P : Program} {t e : TypeId} {kd : Kd α} (ht : P.underlying t = some (.slice e)) (hs : P.cellsOf t = 1) (he : Opens P e kd) (q : Nat) : Opens P t (Kd.slice q kd) := by
  refine ⟨hs, fun {H enc w base sp held fuel cs x} h => ?_⟩
  rcases DataW.trod_slice ht h with ⟨rfl, _⟩ | ⟨a, len, cap, elems, rest, n, _, rfl, _, _, hl, hm, hlen, hel, _⟩
  · exact ⟨[], none, 0, rfl, Nat.le_refl _, rfl, by simp, fun h => absurd h (by simp)⟩
  · obtain ⟨l, hll, hp⟩ := list_of (fun i y => ∃ c, c.length = kd.sz ∧ kd.K w y c ∧ ∀ j u, c[j]? = some u → w.cell? (a.add (i * kd.sz + j)) = some u) len (fun i hi => by
      have h1 := hel i hi
      rw [List.getElem?_eq_getElem (by omega)] at h1
      obtain ⟨cs', h2, h3⟩ := Option.bind_eq_some_iff.1 h1
      obtain ⟨y, hy⟩ := he.opened h3
      obtain ⟨_, h4, h5⟩ := World.cells?_some h2
      refine ⟨y, cs', by rw [h4, he.size], hy, fun j u hu => ?_⟩
      have hj : j < P.cellsOf e := by rw [← h4]; exact (List.getElem?_eq_some_iff.1 hu).1
      rw [← addr_add_add, ← he.size, h5 j hj, hu])
    subst hll
    refine ⟨l, some a, cap, rfl, hl, rfl, Nat.le_trans hl (Nat.le_trans hm (by decide)), fun _ => ⟨a, rfl, fun j p hj => hp j p hj⟩⟩
theorem opens_iso {α β : Type} {P : Program} {t : TypeId} {kd : Kd α} (h : Opens P t kd) (f : β → α) (hf : ∀ b, ∃ a, f a = b) : Opens P t (Kd.iso kd f) :=
  ⟨h.size, fun hx => by obtain ⟨a, ha⟩ := h.opened hx; obtain ⟨b, rfl⟩ := hf a; exact ⟨b, ha⟩⟩

/-- The fields of a struct from the offset o on. -/
structure OpensL {α : Type} (P : Program) (fs : List Field) (o : Nat) (kd : Kd α) : Prop where
  opened : ∀ {H : Type} {enc : TypeId × Value → H} {w : World} {base : Nat} {sp : Nat → Bool} {held : Bool} {fuel : Nat} (cs : List Value), cs.length = o + kd.sz →
    (∀ f ∈ fs, ∃ x, DataW.trod enc P w base sp held fuel f.type ((cs.drop f.offset).take (P.cellsOf f.type)) = some x) → ∃ a, kd.K w a (cs.drop o)
theorem opensL_one {α : Type} {P : Program} {f : Field} {o : Nat} {kd : Kd α} (ho : f.offset = o) (h : Opens P f.type kd) : OpensL P [f] o kd := by
  refine ⟨fun {H enc w base sp held fuel} cs hcs hf => ?_⟩
  obtain ⟨x, hx⟩ := hf f (by simp)
  obtain ⟨a, ha⟩ := h.opened hx
  rw [ho, h.size, List.take_of_length_le (by simp [hcs])] at ha
  exact ⟨a, ha⟩
theorem opensL_cons {α β : Type} {P : Program} {f : Field} {fs : List Field} {o : Nat} {kd : Kd α} {kd' : Kd β} (ho : f.offset = o) (h : Opens P f.type kd) (hr : OpensL P fs (o + kd.sz) kd') : OpensL P (f :: fs) o (Kd.pair kd kd') := by
  refine ⟨fun {H enc w base sp held fuel} cs hcs hf => ?_⟩
  obtain ⟨x, hx⟩ := hf f (by simp)
  obtain ⟨a, ha⟩ := h.opened hx
  have hcs' : cs.length = o + kd.sz + kd'.sz := by rw [hcs]; show o + (kd.sz + kd'.sz) = _; omega
  obtain ⟨b, hb⟩ := hr.opened cs hcs' (fun g hg => hf g (by simp [hg]))
  rw [ho, h.size] at ha
  refine ⟨(a, b), (cs.drop o).take kd.sz, (cs.drop (o + kd.sz)), ?_, ha, hb⟩
  rw [← List.drop_drop, List.take_append_drop]
theorem opens_struct {α : Type} {P : Program} {t : TypeId} {fs : List Field} {kd : Kd α} (ht : P.underlying t = some (.struct ⟨fs⟩)) (hs : P.cellsOf t = kd.sz) (h : OpensL P fs 0 kd) : Opens P t kd := by
  refine ⟨hs, fun {H enc w base sp held fuel cs x} hx => ?_⟩
  obtain ⟨xs, n, _, _, hl, hlen, hf⟩ := DataW.trod_struct ht hx
  obtain ⟨a, ha⟩ := h.opened (enc := enc) (w := w) (base := base) (sp := sp) (held := held) (fuel := n) cs (by rw [hl, hs]; omega) (fun f hfm => by
    obtain ⟨i, hi, rfl⟩ := List.mem_iff_getElem.1 hfm
    have h1 := hf i fs[i] (by simp [hi])
    exact ⟨xs[i]'(by rw [hlen]; simpa using hi), by rw [h1, List.getElem?_eq_getElem]⟩)
  exact ⟨a, by simpa using ha⟩
theorem opens_isoL {α β : Type} {P : Program} {fs : List Field} {o : Nat} {kd : Kd α} (h : OpensL P fs o kd) (f : β → α) (hf : ∀ b, ∃ a, f a = b) : OpensL P fs o (Kd.iso kd f) := by
  refine ⟨fun {H enc w base sp held fuel} cs hcs hx => ?_⟩
  obtain ⟨a, ha⟩ := h.opened cs hcs hx
  obtain ⟨b, rfl⟩ := hf a
  exact ⟨b, ha⟩
/-- an argument's value, opened -/
theorem Opens.arg {α : Type} {P : Program} {t : TypeId} {kd : Kd α} (h : Opens P t kd) {H : Type} {enc : TypeId × Value → H} {w : World} {base : Nat} {sp : Nat → Bool} {held : Bool} {v : Value} {d : DataW H} {ps : List MemPlace}
    (hv : DataW.Trod enc P w base sp held t v d ps) : ∃ a, kd.K w a v.cells.toList := by
  obtain ⟨fuel, hf⟩ := hv
  exact h.opened hf
/-- An argument's row is no longer than its weight allows. -/
theorem sized_row {H : Type} {enc : TypeId × Value → H} {P : Program} {W : World} {base : Nat} {spare : Nat → Bool} {held : Bool} {t e : TypeId} {a : Option Addr} {len cap : Nat} {d : DataW H} {ps : List MemPlace} {ts : List TypeId} {ds : List (DataW H)} {j : Nat}
    (hsz : (DataW.weightsEach P ts ds).all (· ≤ reachBytes) = true) (ht : ts[j]? = some t) (hd : ds[j]? = some d) (hu : P.underlying t = some (.slice e)) {B : Nat} (hB : P.bytesOf e = B)
    (h : DataW.Trod enc P W base spare held t (.slice a len cap) d ps) : len * B ≤ 140737488351232 := by
  obtain ⟨fuel, hf⟩ := h
  rcases DataW.trod_slice hu hf with ⟨hcs, _⟩ | ⟨x, l, c, elems, rest, n, _, hcs, hx, _, hl, _, hlen, _⟩
  · simp [Value.cells] at hcs
    obtain ⟨rfl, rfl, rfl⟩ := hcs
    simp
  · simp [Value.cells] at hcs
    obtain ⟨rfl, rfl, rfl⟩ := hcs
    obtain ⟨rfl, _⟩ := Prod.mk.inj hx
    have z := sized_slice hsz ht hd hu
    rw [hB, List.length_map, List.length_map, hlen] at z
    exact Nat.le_trans (Nat.mul_le_mul_right _ (Nat.le_add_right _ _)) z
theorem opens_Val : Opens Try.prog 43 k43 :=
  opens_struct Try.underlying43 (by kernel_rfl) (opens_isoL (opensL_cons rfl (opens_bool (by kernel_rfl) (by kernel_rfl)) (opensL_cons rfl (opens_string (by kernel_rfl) (by kernel_rfl)) (opensL_one rfl (opens_int (by kernel_rfl) (by kernel_rfl))))) _ (fun b => ⟨⟨b.1, b.2.1, b.2.2⟩, rfl⟩))
theorem opens_Term : Opens Try.prog 45 k45 :=
  opens_struct Try.underlying45 (by kernel_rfl) (opens_isoL (opensL_cons rfl (opens_bool (by kernel_rfl) (by kernel_rfl)) (opensL_cons rfl (opens_string (by kernel_rfl) (by kernel_rfl)) (opensL_one rfl opens_Val))) _ (fun b => ⟨⟨b.1, b.2.1, b.2.2⟩, rfl⟩))
theorem opens_Atom : Opens Try.prog 24 k24 :=
  opens_struct Try.underlying24 (by kernel_rfl) (opens_isoL (opensL_cons rfl (opens_string (by kernel_rfl) (by kernel_rfl)) (opensL_one rfl (opens_slice (by kernel_rfl) (by kernel_rfl) opens_Term 45))) _ (fun b => ⟨⟨b.1, b.2⟩, rfl⟩))
theorem opens_Liter : Opens Try.prog 47 k47 :=
  opens_struct Try.underlying47 (by kernel_rfl) (opens_isoL (opensL_cons rfl (opens_int (by kernel_rfl) (by kernel_rfl)) (opensL_cons rfl opens_Atom (opensL_cons rfl (opens_string (by kernel_rfl) (by kernel_rfl)) (opensL_cons rfl opens_Term (opensL_one rfl opens_Term))))) _ (fun b => ⟨⟨b.1, b.2.1, b.2.2.1, b.2.2.2.1, b.2.2.2.2⟩, rfl⟩))
theorem opens_Rule : Opens Try.prog 27 k27 :=
  opens_struct Try.underlying27 (by kernel_rfl) (opens_isoL (opensL_cons rfl opens_Atom (opensL_one rfl (opens_slice (by kernel_rfl) (by kernel_rfl) opens_Liter 47))) _ (fun b => ⟨⟨b.1, b.2⟩, rfl⟩))
theorem opens_Decl : Opens Try.prog 137 k137 :=
  opens_struct Try.underlying137 (by kernel_rfl) (opens_isoL (opensL_cons rfl (opens_string (by kernel_rfl) (by kernel_rfl)) (opensL_one rfl (opens_int (by kernel_rfl) (by kernel_rfl)))) _ (fun b => ⟨⟨b.1, b.2⟩, rfl⟩))
theorem opens_Prog : Opens Try.prog 66 k66 :=
  opens_struct Try.underlying66 (by kernel_rfl) (opens_isoL (opensL_cons rfl (opens_slice (by kernel_rfl) (by kernel_rfl) opens_Decl 137) (opensL_one rfl (opens_slice (by kernel_rfl) (by kernel_rfl) opens_Rule 27))) _ (fun b => ⟨⟨b.1, b.2⟩, rfl⟩))
end Go.Proofs.Ythpejcnldecmoaa.H
