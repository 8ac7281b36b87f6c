/- RowSafeTells of the seat's law SafeTells: the law holds, under the statement's own conditions. -/
import Derived.Test.YthpejcnldecmoaaProg
import Derived.Below
import Derived.Deep.Draws
import Derived.Deep.AppendLies
import Derived.Maps.AppendAt
import Derived.OwnWalk
import Derived.Laws.BytesArg
import Derived.Laws.MakeOwn
import Derived.Laws.OwnMore
import Derived.Deep.OwnRows
import Derived.Tactics
import Derived.Lib.ConvBytes
import Derived.Laws.Slices
import Derived.WalkKit
import Derived.KernelRfl
import Derived.RowKit3
import Derived.Deep.LoopGhost
import Derived.Deep.QuietTactic
import Derived.BigQuiet
import Derived.WideLaws
import Derived.Deep.DeepCutAuto
import Derived.Deep.CutBlock
import Derived.Deep.RegionHeld3
import Derived.Laws.Rows
import Derived.Lib.AppendStr
import Derived.ArgAppend
import Derived.Laws.IdiomCopy
import Derived.OrdersHeld
import Derived.Laws.BitsLemmas
import Derived.RowKit
import Derived.Test.YthpejcnldecmoaaNW
import Derived.Sort.Grow
import Derived.Sort.EncStr
import Derived.Lib.SlicesCompact
import Derived.Sort.Walk0
import Derived.Shelf.Sort.Plain
import Derived.Shelf.Slices.CompactS
import Derived.Shelf.Slices.Cells
import Derived.Shelf.Slices.In.SortNone
import Derived.Ground.SlgnProg
import Derived.Shelf.SlicesE.Compact
import Derived.Ground.SlgfProg
import Derived.Shelf.SlicesE.IndexFunc
import Derived.Shelf.SlicesE.DeleteFunc
namespace Go.Proofs.Ythpejcnldecmoaa.H
open Go.RowKit Go.Proofs.YthpejcnldecmoaaW.PrintWords Go.Proofs.YthpejcnldecmoaaW.PrintLast Go.Proofs.YthpejcnldecmoaaW.PrintMore
attribute [local go_sem] max2_int min2_int max_two min_two max_three min_three max_four min_four
set_option linter.unusedVariables false
set_option linter.unusedSimpArgs false
def errW : Option Int → Value
 | none => .nilIface
 | some c => .iface 0 (.int .i64 c)
theorem errW_none : errW none = .nilIface := rfl
theorem errW_some (c : Int) : errW (some c) = .iface 0 (.int .i64 c) := rfl
theorem info3 : (Try.prog.info? 3).map (fun i => (i.zero, i.size, i.bytes)) = some (some (.int .i64 0), 1, 8) := by kernel_rfl
theorem info4 : (Try.prog.info? 4).map (fun i => (i.zero, i.size, i.bytes)) = some (some (.bool false), 1, 1) := by kernel_rfl
theorem info9 : (Try.prog.info? 9).map (fun i => (i.zero, i.size, i.bytes)) = some (some (.string ⟨#[]⟩), 1, 16) := by kernel_rfl
theorem info27 : (Try.prog.info? 27).map (fun i => (i.zero, i.size, i.bytes)) = some (some (.agg #[(.string ⟨#[]⟩), (.slice none 0 0), (.slice none 0 0)]), 3, 64) := by kernel_rfl
theorem info28 : (Try.prog.info? 28).map (fun i => (i.zero, i.size, i.bytes)) = some (some (.slice none 0 0), 1, 24) := by kernel_rfl
theorem info45 : (Try.prog.info? 45).map (fun i => (i.zero, i.size, i.bytes)) = some (some (.agg #[(.bool false), (.string ⟨#[]⟩), (.bool false), (.string ⟨#[]⟩), (.int .i64 0)]), 5, 56) := by kernel_rfl
theorem info47 : (Try.prog.info? 47).map (fun i => (i.zero, i.size, i.bytes)) = some (some (.agg #[(.int .i64 0), (.string ⟨#[]⟩), (.slice none 0 0), (.string ⟨#[]⟩), (.bool false), (.string ⟨#[]⟩), (.bool false), (.string ⟨#[]⟩), (.int .i64 0), (.bool false), (.string ⟨#[]⟩), (.bool false), (.string ⟨#[]⟩), (.int .i64 0)]), 14, 176) := by kernel_rfl
theorem info137 : (Try.prog.info? 137).map (fun i => (i.zero, i.size, i.bytes)) = some (some (.agg #[(.string ⟨#[]⟩), (.int .i64 0)]), 2, 24) := by kernel_rfl
-- the values' own types
/-! #### struct type 43 -/
structure Val where
 isSym : Bool
 sym : ByteArray
 n : Int
deriving DecidableEq
def z43 : Val := ⟨false, (⟨#[]⟩ : ByteArray), (0 : Int)⟩
def k43 : Kd Val := Kd.iso (Kd.pair Kd.bool (Kd.pair Kd.string (Kd.int .i64))) (fun x : Val => (x.isSym, x.sym, x.n))
theorem k43_heap : Kd.Heap k43 := Kd.heap_iso _ (Kd.heap_pair Kd.heap_bool (Kd.heap_pair Kd.heap_string (Kd.heap_int .i64)))
theorem k43_open {w : World} {x : Val} {cs : List Value} (h : k43.K w x cs) : cs = [.bool x.isSym, .string x.sym, .int .i64 x.n] := by
 obtain ⟨_, _, rfl, rfl, ⟨_, _, rfl, rfl, rfl⟩⟩ := h
 exact rfl
theorem k43_openM {w : World} {base : Nat} {ok : Nat → Prop} {x : Val} {cs : List Value} (h : k43.M w base ok x cs) : cs = [.bool x.isSym, .string x.sym, .int .i64 x.n] := by
 obtain ⟨_, _, rfl, rfl, ⟨_, _, rfl, rfl, rfl⟩⟩ := h
 exact rfl
theorem k43_mk (w : World) (x : Val)  : k43.K w x [.bool x.isSym, .string x.sym, .int .i64 x.n] := ⟨[.bool x.isSym], [.string x.sym, .int .i64 x.n], rfl, rfl, ⟨[.string x.sym], [.int .i64 x.n], rfl, rfl, rfl⟩⟩
theorem k43_mkM (w : World) (base : Nat) (ok : Nat → Prop) (x : Val)  : k43.M w base ok x [.bool x.isSym, .string x.sym, .int .i64 x.n] := ⟨[.bool x.isSym], [.string x.sym, .int .i64 x.n], rfl, rfl, ⟨[.string x.sym], [.int .i64 x.n], rfl, rfl, rfl⟩⟩
theorem k43_mkF (W : World) (ok : Nat → Prop) (x : Val) : Kd.FK k43 W ok x [.bool x.isSym, .string x.sym, .int .i64 x.n] := fun W2 _ => k43_mk W2 x
def rd_T43 (xs : List Val) (i : Int) : Val := xs.getD i.toNat z43
theorem at_T43 {w : World} {A : Option Addr} {n : Nat} {xs : List Val} (h : Kd.C k43 w A n xs) (i : Int) (h0 : 0 ≤ i) (h1 : i < n) : ∃ ad , A = some ad ∧ w.cell? (ad.add (i.toNat * 3)) = some (.bool (rd_T43 xs i).isSym) ∧ w.cell? ⟨(ad.add (i.toNat * 3)).block, (ad.add (i.toNat * 3)).off + 1, none⟩ = some (.string (rd_T43 xs i).sym) ∧ w.cell? ⟨(ad.add (i.toNat * 3)).block, (ad.add (i.toNat * 3)).off + 2, none⟩ = some (.int .i64 (rd_T43 xs i).n) := by
 obtain ⟨ad, c, e, _, hK, hc0⟩ := Kd.C_get h z43 i h0 h1
 have hc : ∀ j u, c[j]? = some u → w.cell? (ad.add (i.toNat * 3 + j)) = some u := hc0
 obtain rfl := k43_open hK
 exact ⟨ad, e, hc 0 _ rfl, by rw [← add_field _ _ 1 (by omega)]; exact hc 1 _ rfl, by rw [← add_field _ _ 2 (by omega)]; exact hc 2 _ rfl⟩
/-! #### struct type 45 -/
structure Term where
 isVar : Bool
 name : ByteArray
 val : Val
deriving DecidableEq
def z45 : Term := ⟨false, (⟨#[]⟩ : ByteArray), z43⟩
def k45 : Kd Term := Kd.iso (Kd.pair Kd.bool (Kd.pair Kd.string k43)) (fun x : Term => (x.isVar, x.name, x.val))
theorem k45_heap : Kd.Heap k45 := Kd.heap_iso _ (Kd.heap_pair Kd.heap_bool (Kd.heap_pair Kd.heap_string k43_heap))
theorem k45_open {w : World} {x : Term} {cs : List Value} (h : k45.K w x cs) : cs = [.bool x.isVar, .string x.name, .bool x.val.isSym, .string x.val.sym, .int .i64 x.val.n] := by
 obtain ⟨_, _, rfl, rfl, ⟨_, _, rfl, rfl, s2⟩⟩ := h
 obtain rfl := k43_open s2
 exact rfl
theorem k45_openM {w : World} {base : Nat} {ok : Nat → Prop} {x : Term} {cs : List Value} (h : k45.M w base ok x cs) : cs = [.bool x.isVar, .string x.name, .bool x.val.isSym, .string x.val.sym, .int .i64 x.val.n] := by
 obtain ⟨_, _, rfl, rfl, ⟨_, _, rfl, rfl, s2⟩⟩ := h
 obtain rfl := k43_openM s2
 exact rfl
theorem k45_mk (w : World) (x : Term)  : k45.K w x [.bool x.isVar, .string x.name, .bool x.val.isSym, .string x.val.sym, .int .i64 x.val.n] := ⟨[.bool x.isVar], [.string x.name, .bool x.val.isSym, .string x.val.sym, .int .i64 x.val.n], rfl, rfl, ⟨[.string x.name], [.bool x.val.isSym, .string x.val.sym, .int .i64 x.val.n], rfl, rfl, (k43_mk w x.val )⟩⟩
theorem k45_mkM (w : World) (base : Nat) (ok : Nat → Prop) (x : Term)  : k45.M w base ok x [.bool x.isVar, .string x.name, .bool x.val.isSym, .string x.val.sym, .int .i64 x.val.n] := ⟨[.bool x.isVar], [.string x.name, .bool x.val.isSym, .string x.val.sym, .int .i64 x.val.n], rfl, rfl, ⟨[.string x.name], [.bool x.val.isSym, .string x.val.sym, .int .i64 x.val.n], rfl, rfl, (k43_mkM w base ok x.val )⟩⟩
theorem k45_mkF (W : World) (ok : Nat → Prop) (x : Term) : Kd.FK k45 W ok x [.bool x.isVar, .string x.name, .bool x.val.isSym, .string x.val.sym, .int .i64 x.val.n] := fun W2 _ => k45_mk W2 x
def rd_T45 (xs : List Term) (i : Int) : Term := xs.getD i.toNat z45
theorem at_T45 {w : World} {A : Option Addr} {n : Nat} {xs : List Term} (h : Kd.C k45 w A n xs) (i : Int) (h0 : 0 ≤ i) (h1 : i < n) : ∃ ad , A = some ad ∧ w.cell? (ad.add (i.toNat * 5)) = some (.bool (rd_T45 xs i).isVar) ∧ w.cell? ⟨(ad.add (i.toNat * 5)).block, (ad.add (i.toNat * 5)).off + 1, none⟩ = some (.string (rd_T45 xs i).name) ∧ w.cell? ⟨(ad.add (i.toNat * 5)).block, (ad.add (i.toNat * 5)).off + 2, none⟩ = some (.bool (rd_T45 xs i).val.isSym) ∧ w.cell? ⟨(ad.add (i.toNat * 5)).block, (ad.add (i.toNat * 5)).off + 3, none⟩ = some (.string (rd_T45 xs i).val.sym) ∧ w.cell? ⟨(ad.add (i.toNat * 5)).block, (ad.add (i.toNat * 5)).off + 4, none⟩ = some (.int .i64 (rd_T45 xs i).val.n) := by
 obtain ⟨ad, c, e, _, hK, hc0⟩ := Kd.C_get h z45 i h0 h1
 have hc : ∀ j u, c[j]? = some u → w.cell? (ad.add (i.toNat * 5 + j)) = some u := hc0
 obtain rfl := k45_open hK
 exact ⟨ad, e, hc 0 _ rfl, by rw [← add_field _ _ 1 (by omega)]; exact hc 1 _ rfl, by rw [← add_field _ _ 2 (by omega)]; exact hc 2 _ rfl, by rw [← add_field _ _ 3 (by omega)]; exact hc 3 _ rfl, by rw [← add_field _ _ 4 (by omega)]; exact hc 4 _ rfl⟩
def rd_L5 (xs : List (List Term)) (i : Int) : (List Term) := xs.getD i.toNat ([] : List Term)
theorem at_L5 {w : World} {A : Option Addr} {n : Nat} {xs : List (List Term)} (h : Kd.C (Kd.slice 45 k45) w A n xs) (i : Int) (h0 : 0 ≤ i) (h1 : i < n) : ∃ ad A0 c0, A = some ad ∧ w.cell? (ad.add i.toNat) = some (.slice A0 (rd_L5 xs i).length c0) ∧ (rd_L5 xs i).length ≤ c0 ∧ k45.C w A0 (rd_L5 xs i).length (rd_L5 xs i) := by
 obtain ⟨ad, c, e, _, hK, hc0⟩ := Kd.C_get h ([] : List Term) i h0 h1
 have hc : ∀ j u, c[j]? = some u → w.cell? (ad.add (i.toNat * 1 + j)) = some u := hc0
 obtain ⟨A0, c0, rfl, l0, g0⟩ := hK
 exact ⟨ad, A0, c0, e, by have hq := hc 0 _ rfl; rwa [Nat.mul_one, Nat.add_zero] at hq, l0, g0⟩
/-! #### struct type 24 -/
structure Atom where
 pred : ByteArray
 args : (List Term)
deriving DecidableEq
def z24 : Atom := ⟨(⟨#[]⟩ : ByteArray), ([] : List Term)⟩
def k24 : Kd Atom := Kd.iso (Kd.pair Kd.string (Kd.slice 45 k45)) (fun x : Atom => (x.pred, x.args))
theorem k24_heap : Kd.Heap k24 := Kd.heap_iso _ (Kd.heap_pair Kd.heap_string (Kd.heap_slice 45 k45_heap))
theorem k24_open {w : World} {x : Atom} {cs : List Value} (h : k24.K w x cs) : ∃ A1 c1, cs = [.string x.pred, .slice A1 x.args.length c1] ∧ x.args.length ≤ c1 ∧ k45.C w A1 x.args.length x.args := by
 obtain ⟨_, _, rfl, rfl, ⟨A1, c1, rfl, l1, g1⟩⟩ := h
 exact ⟨A1, c1, rfl, l1, g1⟩
theorem k24_openM {w : World} {base : Nat} {ok : Nat → Prop} {x : Atom} {cs : List Value} (h : k24.M w base ok x cs) : ∃ v1, cs = [.string x.pred, v1] ∧ k45.R 45 w base ok v1 x.args := by
 obtain ⟨_, _, rfl, rfl, ⟨v1, rfl, g1⟩⟩ := h
 exact ⟨v1, rfl, g1⟩
theorem k24_mk (w : World) (x : Atom) {A1 : Option Addr} {c1 : Nat} (l1 : x.args.length ≤ c1) (g1 : k45.C w A1 x.args.length x.args) : k24.K w x [.string x.pred, .slice A1 x.args.length c1] := ⟨[.string x.pred], [.slice A1 x.args.length c1], rfl, rfl, ⟨A1, c1, rfl, l1, g1⟩⟩
theorem k24_mkM (w : World) (base : Nat) (ok : Nat → Prop) (x : Atom) {v1 : Value} (g1 : k45.R 45 w base ok v1 x.args) : k24.M w base ok x [.string x.pred, v1] := ⟨[.string x.pred], [v1], rfl, rfl, ⟨v1, rfl, g1⟩⟩
theorem k24_openF {W : World} {ok : Nat → Prop} {x : Atom} {cs : List Value} (h : Kd.FK k24 W ok x cs) : ∃ A1 c1, cs = [.string x.pred, .slice A1 x.args.length c1] ∧ x.args.length ≤ c1 ∧ Kd.F k45 W ok A1 x.args.length x.args := by
 obtain ⟨A1, c1, rfl, l1, _⟩ := k24_open (Kd.FK_now h)
 exact ⟨A1, c1, rfl, l1, (fun W' hW => by obtain ⟨A1_, c1_, he, l1_, g1_⟩ := k24_open (h W' hW); injection (Option.some.inj (show some (Value.slice A1 x.args.length c1) = some (Value.slice A1_ x.args.length c1_) from congrArg (fun l => l[1]?) he)) with ha_ _ _; rw [ha_]; exact g1_)⟩
theorem k24_mkF (W : World) (ok : Nat → Prop) (x : Atom) {A1 : Option Addr} {c1 : Nat} (l1 : x.args.length ≤ c1) (g1 : Kd.F k45 W ok A1 x.args.length x.args) : Kd.FK k24 W ok x [.string x.pred, .slice A1 x.args.length c1] := fun W2 hW => k24_mk W2 x l1 (g1 W2 hW)
def rd_T24 (xs : List Atom) (i : Int) : Atom := xs.getD i.toNat z24
theorem at_T24 {w : World} {A : Option Addr} {n : Nat} {xs : List Atom} (h : Kd.C k24 w A n xs) (i : Int) (h0 : 0 ≤ i) (h1 : i < n) : ∃ ad A1 c1, A = some ad ∧ w.cell? (ad.add (i.toNat * 2)) = some (.string (rd_T24 xs i).pred) ∧ w.cell? ⟨(ad.add (i.toNat * 2)).block, (ad.add (i.toNat * 2)).off + 1, none⟩ = some (.slice A1 (rd_T24 xs i).args.length c1) ∧ (rd_T24 xs i).args.length ≤ c1 ∧ k45.C w A1 (rd_T24 xs i).args.length (rd_T24 xs i).args := by
 obtain ⟨ad, c, e, _, hK, hc0⟩ := Kd.C_get h z24 i h0 h1
 have hc : ∀ j u, c[j]? = some u → w.cell? (ad.add (i.toNat * 2 + j)) = some u := hc0
 obtain ⟨A1, c1, rfl, l1, g1⟩ := k24_open hK
 exact ⟨ad, A1, c1, e, hc 0 _ rfl, by rw [← add_field _ _ 1 (by omega)]; exact hc 1 _ rfl, l1, g1⟩
/-! #### struct type 47 -/
structure Liter where
 kind : Int
 atom : Atom
 op : ByteArray
 l : Term
 r : Term
deriving DecidableEq
def z47 : Liter := ⟨(0 : Int), z24, (⟨#[]⟩ : ByteArray), z45, z45⟩
def k47 : Kd Liter := Kd.iso (Kd.pair (Kd.int .i64) (Kd.pair k24 (Kd.pair Kd.string (Kd.pair k45 k45)))) (fun x : Liter => (x.kind, x.atom, x.op, x.l, x.r))
theorem k47_heap : Kd.Heap k47 := Kd.heap_iso _ (Kd.heap_pair (Kd.heap_int .i64) (Kd.heap_pair k24_heap (Kd.heap_pair Kd.heap_string (Kd.heap_pair k45_heap k45_heap))))
theorem k47_open {w : World} {x : Liter} {cs : List Value} (h : k47.K w x cs) : ∃ A2 c2, cs = [.int .i64 x.kind, .string x.atom.pred, .slice A2 x.atom.args.length c2, .string x.op, .bool x.l.isVar, .string x.l.name, .bool x.l.val.isSym, .string x.l.val.sym, .int .i64 x.l.val.n, .bool x.r.isVar, .string x.r.name, .bool x.r.val.isSym, .string x.r.val.sym, .int .i64 x.r.val.n] ∧ x.atom.args.length ≤ c2 ∧ k45.C w A2 x.atom.args.length x.atom.args := by
 obtain ⟨_, _, rfl, rfl, ⟨_, _, rfl, s1, ⟨_, _, rfl, rfl, ⟨_, _, rfl, s4, s9⟩⟩⟩⟩ := h
 obtain ⟨A2, c2, rfl, l2, g2⟩ := k24_open s1
 obtain rfl := k45_open s4
 obtain rfl := k45_open s9
 exact ⟨A2, c2, rfl, l2, g2⟩
theorem k47_openM {w : World} {base : Nat} {ok : Nat → Prop} {x : Liter} {cs : List Value} (h : k47.M w base ok x cs) : ∃ v2, cs = [.int .i64 x.kind, .string x.atom.pred, v2, .string x.op, .bool x.l.isVar, .string x.l.name, .bool x.l.val.isSym, .string x.l.val.sym, .int .i64 x.l.val.n, .bool x.r.isVar, .string x.r.name, .bool x.r.val.isSym, .string x.r.val.sym, .int .i64 x.r.val.n] ∧ k45.R 45 w base ok v2 x.atom.args := by
 obtain ⟨_, _, rfl, rfl, ⟨_, _, rfl, s1, ⟨_, _, rfl, rfl, ⟨_, _, rfl, s4, s9⟩⟩⟩⟩ := h
 obtain ⟨v2, rfl, g2⟩ := k24_openM s1
 obtain rfl := k45_openM s4
 obtain rfl := k45_openM s9
 exact ⟨v2, rfl, g2⟩
theorem k47_mk (w : World) (x : Liter) {A2 : Option Addr} {c2 : Nat} (l2 : x.atom.args.length ≤ c2) (g2 : k45.C w A2 x.atom.args.length x.atom.args) : k47.K w x [.int .i64 x.kind, .string x.atom.pred, .slice A2 x.atom.args.length c2, .string x.op, .bool x.l.isVar, .string x.l.name, .bool x.l.val.isSym, .string x.l.val.sym, .int .i64 x.l.val.n, .bool x.r.isVar, .string x.r.name, .bool x.r.val.isSym, .string x.r.val.sym, .int .i64 x.r.val.n] := ⟨[.int .i64 x.kind], [.string x.atom.pred, .slice A2 x.atom.args.length c2, .string x.op, .bool x.l.isVar, .string x.l.name, .bool x.l.val.isSym, .string x.l.val.sym, .int .i64 x.l.val.n, .bool x.r.isVar, .string x.r.name, .bool x.r.val.isSym, .string x.r.val.sym, .int .i64 x.r.val.n], rfl, rfl, ⟨[.string x.atom.pred, .slice A2 x.atom.args.length c2], [.string x.op, .bool x.l.isVar, .string x.l.name, .bool x.l.val.isSym, .string x.l.val.sym, .int .i64 x.l.val.n, .bool x.r.isVar, .string x.r.name, .bool x.r.val.isSym, .string x.r.val.sym, .int .i64 x.r.val.n], rfl, (k24_mk w x.atom l2 g2), ⟨[.string x.op], [.bool x.l.isVar, .string x.l.name, .bool x.l.val.isSym, .string x.l.val.sym, .int .i64 x.l.val.n, .bool x.r.isVar, .string x.r.name, .bool x.r.val.isSym, .string x.r.val.sym, .int .i64 x.r.val.n], rfl, rfl, ⟨[.bool x.l.isVar, .string x.l.name, .bool x.l.val.isSym, .string x.l.val.sym, .int .i64 x.l.val.n], [.bool x.r.isVar, .string x.r.name, .bool x.r.val.isSym, .string x.r.val.sym, .int .i64 x.r.val.n], rfl, (k45_mk w x.l ), (k45_mk w x.r )⟩⟩⟩⟩
theorem k47_mkM (w : World) (base : Nat) (ok : Nat → Prop) (x : Liter) {v2 : Value} (g2 : k45.R 45 w base ok v2 x.atom.args) : k47.M w base ok x [.int .i64 x.kind, .string x.atom.pred, v2, .string x.op, .bool x.l.isVar, .string x.l.name, .bool x.l.val.isSym, .string x.l.val.sym, .int .i64 x.l.val.n, .bool x.r.isVar, .string x.r.name, .bool x.r.val.isSym, .string x.r.val.sym, .int .i64 x.r.val.n] := ⟨[.int .i64 x.kind], [.string x.atom.pred, v2, .string x.op, .bool x.l.isVar, .string x.l.name, .bool x.l.val.isSym, .string x.l.val.sym, .int .i64 x.l.val.n, .bool x.r.isVar, .string x.r.name, .bool x.r.val.isSym, .string x.r.val.sym, .int .i64 x.r.val.n], rfl, rfl, ⟨[.string x.atom.pred, v2], [.string x.op, .bool x.l.isVar, .string x.l.name, .bool x.l.val.isSym, .string x.l.val.sym, .int .i64 x.l.val.n, .bool x.r.isVar, .string x.r.name, .bool x.r.val.isSym, .string x.r.val.sym, .int .i64 x.r.val.n], rfl, (k24_mkM w base ok x.atom g2), ⟨[.string x.op], [.bool x.l.isVar, .string x.l.name, .bool x.l.val.isSym, .string x.l.val.sym, .int .i64 x.l.val.n, .bool x.r.isVar, .string x.r.name, .bool x.r.val.isSym, .string x.r.val.sym, .int .i64 x.r.val.n], rfl, rfl, ⟨[.bool x.l.isVar, .string x.l.name, .bool x.l.val.isSym, .string x.l.val.sym, .int .i64 x.l.val.n], [.bool x.r.isVar, .string x.r.name, .bool x.r.val.isSym, .string x.r.val.sym, .int .i64 x.r.val.n], rfl, (k45_mkM w base ok x.l ), (k45_mkM w base ok x.r )⟩⟩⟩⟩
theorem k47_openF {W : World} {ok : Nat → Prop} {x : Liter} {cs : List Value} (h : Kd.FK k47 W ok x cs) : ∃ A2 c2, cs = [.int .i64 x.kind, .string x.atom.pred, .slice A2 x.atom.args.length c2, .string x.op, .bool x.l.isVar, .string x.l.name, .bool x.l.val.isSym, .string x.l.val.sym, .int .i64 x.l.val.n, .bool x.r.isVar, .string x.r.name, .bool x.r.val.isSym, .string x.r.val.sym, .int .i64 x.r.val.n] ∧ x.atom.args.length ≤ c2 ∧ Kd.F k45 W ok A2 x.atom.args.length x.atom.args := by
 obtain ⟨A2, c2, rfl, l2, _⟩ := k47_open (Kd.FK_now h)
 exact ⟨A2, c2, rfl, l2, (fun W' hW => by obtain ⟨A2_, c2_, he, l2_, g2_⟩ := k47_open (h W' hW); injection (Option.some.inj (show some (Value.slice A2 x.atom.args.length c2) = some (Value.slice A2_ x.atom.args.length c2_) from congrArg (fun l => l[2]?) he)) with ha_ _ _; rw [ha_]; exact g2_)⟩
theorem k47_mkF (W : World) (ok : Nat → Prop) (x : Liter) {A2 : Option Addr} {c2 : Nat} (l2 : x.atom.args.length ≤ c2) (g2 : Kd.F k45 W ok A2 x.atom.args.length x.atom.args) : Kd.FK k47 W ok x [.int .i64 x.kind, .string x.atom.pred, .slice A2 x.atom.args.length c2, .string x.op, .bool x.l.isVar, .string x.l.name, .bool x.l.val.isSym, .string x.l.val.sym, .int .i64 x.l.val.n, .bool x.r.isVar, .string x.r.name, .bool x.r.val.isSym, .string x.r.val.sym, .int .i64 x.r.val.n] := fun W2 hW => k47_mk W2 x l2 (g2 W2 hW)
def rd_T47 (xs : List Liter) (i : Int) : Liter := xs.getD i.toNat z47
theorem at_T47 {w : World} {A : Option Addr} {n : Nat} {xs : List Liter} (h : Kd.C k47 w A n xs) (i : Int) (h0 : 0 ≤ i) (h1 : i < n) : ∃ ad A2 c2, A = some ad ∧ w.cell? (ad.add (i.toNat * 14)) = some (.int .i64 (rd_T47 xs i).kind) ∧ w.cell? ⟨(ad.add (i.toNat * 14)).block, (ad.add (i.toNat * 14)).off + 1, none⟩ = some (.string (rd_T47 xs i).atom.pred) ∧ w.cell? ⟨(ad.add (i.toNat * 14)).block, (ad.add (i.toNat * 14)).off + 2, none⟩ = some (.slice A2 (rd_T47 xs i).atom.args.length c2) ∧ w.cell? ⟨(ad.add (i.toNat * 14)).block, (ad.add (i.toNat * 14)).off + 3, none⟩ = some (.string (rd_T47 xs i).op) ∧ w.cell? ⟨(ad.add (i.toNat * 14)).block, (ad.add (i.toNat * 14)).off + 4, none⟩ = some (.bool (rd_T47 xs i).l.isVar) ∧ w.cell? ⟨(ad.add (i.toNat * 14)).block, (ad.add (i.toNat * 14)).off + 5, none⟩ = some (.string (rd_T47 xs i).l.name) ∧ w.cell? ⟨(ad.add (i.toNat * 14)).block, (ad.add (i.toNat * 14)).off + 6, none⟩ = some (.bool (rd_T47 xs i).l.val.isSym) ∧ w.cell? ⟨(ad.add (i.toNat * 14)).block, (ad.add (i.toNat * 14)).off + 7, none⟩ = some (.string (rd_T47 xs i).l.val.sym) ∧ w.cell? ⟨(ad.add (i.toNat * 14)).block, (ad.add (i.toNat * 14)).off + 8, none⟩ = some (.int .i64 (rd_T47 xs i).l.val.n) ∧ w.cell? ⟨(ad.add (i.toNat * 14)).block, (ad.add (i.toNat * 14)).off + 9, none⟩ = some (.bool (rd_T47 xs i).r.isVar) ∧ w.cell? ⟨(ad.add (i.toNat * 14)).block, (ad.add (i.toNat * 14)).off + 10, none⟩ = some (.string (rd_T47 xs i).r.name) ∧ w.cell? ⟨(ad.add (i.toNat * 14)).block, (ad.add (i.toNat * 14)).off + 11, none⟩ = some (.bool (rd_T47 xs i).r.val.isSym) ∧ w.cell? ⟨(ad.add (i.toNat * 14)).block, (ad.add (i.toNat * 14)).off + 12, none⟩ = some (.string (rd_T47 xs i).r.val.sym) ∧ w.cell? ⟨(ad.add (i.toNat * 14)).block, (ad.add (i.toNat * 14)).off + 13, none⟩ = some (.int .i64 (rd_T47 xs i).r.val.n) ∧ (rd_T47 xs i).atom.args.length ≤ c2 ∧ k45.C w A2 (rd_T47 xs i).atom.args.length (rd_T47 xs i).atom.args := by
 obtain ⟨ad, c, e, _, hK, hc0⟩ := Kd.C_get h z47 i h0 h1
 have hc : ∀ j u, c[j]? = some u → w.cell? (ad.add (i.toNat * 14 + j)) = some u := hc0
 obtain ⟨A2, c2, rfl, l2, g2⟩ := k47_open hK
 exact ⟨ad, A2, c2, e, hc 0 _ rfl, by rw [← add_field _ _ 1 (by omega)]; exact hc 1 _ rfl, by rw [← add_field _ _ 2 (by omega)]; exact hc 2 _ rfl, by rw [← add_field _ _ 3 (by omega)]; exact hc 3 _ rfl, by rw [← add_field _ _ 4 (by omega)]; exact hc 4 _ rfl, by rw [← add_field _ _ 5 (by omega)]; exact hc 5 _ rfl, by rw [← add_field _ _ 6 (by omega)]; exact hc 6 _ rfl, by rw [← add_field _ _ 7 (by omega)]; exact hc 7 _ rfl, by rw [← add_field _ _ 8 (by omega)]; exact hc 8 _ rfl, by rw [← add_field _ _ 9 (by omega)]; exact hc 9 _ rfl, by rw [← add_field _ _ 10 (by omega)]; exact hc 10 _ rfl, by rw [← add_field _ _ 11 (by omega)]; exact hc 11 _ rfl, by rw [← add_field _ _ 12 (by omega)]; exact hc 12 _ rfl, by rw [← add_field _ _ 13 (by omega)]; exact hc 13 _ rfl, l2, g2⟩
def rd_L8 (xs : List (List Liter)) (i : Int) : (List Liter) := xs.getD i.toNat ([] : List Liter)
theorem at_L8 {w : World} {A : Option Addr} {n : Nat} {xs : List (List Liter)} (h : Kd.C (Kd.slice 47 k47) w A n xs) (i : Int) (h0 : 0 ≤ i) (h1 : i < n) : ∃ ad A0 c0, A = some ad ∧ w.cell? (ad.add i.toNat) = some (.slice A0 (rd_L8 xs i).length c0) ∧ (rd_L8 xs i).length ≤ c0 ∧ k47.C w A0 (rd_L8 xs i).length (rd_L8 xs i) := by
 obtain ⟨ad, c, e, _, hK, hc0⟩ := Kd.C_get h ([] : List Liter) i h0 h1
 have hc : ∀ j u, c[j]? = some u → w.cell? (ad.add (i.toNat * 1 + j)) = some u := hc0
 obtain ⟨A0, c0, rfl, l0, g0⟩ := hK
 exact ⟨ad, A0, c0, e, by have hq := hc 0 _ rfl; rwa [Nat.mul_one, Nat.add_zero] at hq, l0, g0⟩
/-! #### struct type 27 -/
structure Rule where
 head : Atom
 body : (List Liter)
deriving DecidableEq
def z27 : Rule := ⟨z24, ([] : List Liter)⟩
def k27 : Kd Rule := Kd.iso (Kd.pair k24 (Kd.slice 47 k47)) (fun x : Rule => (x.head, x.body))
theorem k27_heap : Kd.Heap k27 := Kd.heap_iso _ (Kd.heap_pair k24_heap (Kd.heap_slice 47 k47_heap))
theorem k27_open {w : World} {x : Rule} {cs : List Value} (h : k27.K w x cs) : ∃ A1 c1 A2 c2, cs = [.string x.head.pred, .slice A1 x.head.args.length c1, .slice A2 x.body.length c2] ∧ x.head.args.length ≤ c1 ∧ k45.C w A1 x.head.args.length x.head.args ∧ x.body.length ≤ c2 ∧ k47.C w A2 x.body.length x.body := by
 obtain ⟨_, _, rfl, s0, ⟨A2, c2, rfl, l2, g2⟩⟩ := h
 obtain ⟨A1, c1, rfl, l1, g1⟩ := k24_open s0
 exact ⟨A1, c1, A2, c2, rfl, l1, g1, l2, g2⟩
theorem k27_openM {w : World} {base : Nat} {ok : Nat → Prop} {x : Rule} {cs : List Value} (h : k27.M w base ok x cs) : ∃ v1 v2, cs = [.string x.head.pred, v1, v2] ∧ k45.R 45 w base ok v1 x.head.args ∧ k47.R 47 w base ok v2 x.body := by
 obtain ⟨_, _, rfl, s0, ⟨v2, rfl, g2⟩⟩ := h
 obtain ⟨v1, rfl, g1⟩ := k24_openM s0
 exact ⟨v1, v2, rfl, g1, g2⟩
theorem k27_mk (w : World) (x : Rule) {A1 : Option Addr} {c1 : Nat} (l1 : x.head.args.length ≤ c1) (g1 : k45.C w A1 x.head.args.length x.head.args) {A2 : Option Addr} {c2 : Nat} (l2 : x.body.length ≤ c2) (g2 : k47.C w A2 x.body.length x.body) : k27.K w x [.string x.head.pred, .slice A1 x.head.args.length c1, .slice A2 x.body.length c2] := ⟨[.string x.head.pred, .slice A1 x.head.args.length c1], [.slice A2 x.body.length c2], rfl, (k24_mk w x.head l1 g1), ⟨A2, c2, rfl, l2, g2⟩⟩
theorem k27_mkM (w : World) (base : Nat) (ok : Nat → Prop) (x : Rule) {v1 : Value} (g1 : k45.R 45 w base ok v1 x.head.args) {v2 : Value} (g2 : k47.R 47 w base ok v2 x.body) : k27.M w base ok x [.string x.head.pred, v1, v2] := ⟨[.string x.head.pred, v1], [v2], rfl, (k24_mkM w base ok x.head g1), ⟨v2, rfl, g2⟩⟩
theorem k27_openF {W : World} {ok : Nat → Prop} {x : Rule} {cs : List Value} (h : Kd.FK k27 W ok x cs) : ∃ A1 c1 A2 c2, cs = [.string x.head.pred, .slice A1 x.head.args.length c1, .slice A2 x.body.length c2] ∧ x.head.args.length ≤ c1 ∧ Kd.F k45 W ok A1 x.head.args.length x.head.args ∧ x.body.length ≤ c2 ∧ Kd.F k47 W ok A2 x.body.length x.body := by
 obtain ⟨A1, c1, A2, c2, rfl, l1, _, l2, _⟩ := k27_open (Kd.FK_now h)
 exact ⟨A1, c1, A2, c2, rfl, l1, (fun W' hW => by obtain ⟨A1_, c1_, A2_, c2_, he, l1_, g1_, l2_, g2_⟩ := k27_open (h W' hW); injection (Option.some.inj (show some (Value.slice A1 x.head.args.length c1) = some (Value.slice A1_ x.head.args.length c1_) from congrArg (fun l => l[1]?) he)) with ha_ _ _; rw [ha_]; exact g1_), l2, (fun W' hW => by obtain ⟨A1_, c1_, A2_, c2_, he, l1_, g1_, l2_, g2_⟩ := k27_open (h W' hW); injection (Option.some.inj (show some (Value.slice A2 x.body.length c2) = some (Value.slice A2_ x.body.length c2_) from congrArg (fun l => l[2]?) he)) with ha_ _ _; rw [ha_]; exact g2_)⟩
theorem k27_mkF (W : World) (ok : Nat → Prop) (x : Rule) {A1 : Option Addr} {c1 : Nat} (l1 : x.head.args.length ≤ c1) (g1 : Kd.F k45 W ok A1 x.head.args.length x.head.args) {A2 : Option Addr} {c2 : Nat} (l2 : x.body.length ≤ c2) (g2 : Kd.F k47 W ok A2 x.body.length x.body) : Kd.FK k27 W ok x [.string x.head.pred, .slice A1 x.head.args.length c1, .slice A2 x.body.length c2] := fun W2 hW => k27_mk W2 x l1 (g1 W2 hW) l2 (g2 W2 hW)
def rd_T27 (xs : List Rule) (i : Int) : Rule := xs.getD i.toNat z27
theorem at_T27 {w : World} {A : Option Addr} {n : Nat} {xs : List Rule} (h : Kd.C k27 w A n xs) (i : Int) (h0 : 0 ≤ i) (h1 : i < n) : ∃ ad A1 c1 A2 c2, A = some ad ∧ w.cell? (ad.add (i.toNat * 3)) = some (.string (rd_T27 xs i).head.pred) ∧ w.cell? ⟨(ad.add (i.toNat * 3)).block, (ad.add (i.toNat * 3)).off + 1, none⟩ = some (.slice A1 (rd_T27 xs i).head.args.length c1) ∧ w.cell? ⟨(ad.add (i.toNat * 3)).block, (ad.add (i.toNat * 3)).off + 2, none⟩ = some (.slice A2 (rd_T27 xs i).body.length c2) ∧ (rd_T27 xs i).head.args.length ≤ c1 ∧ k45.C w A1 (rd_T27 xs i).head.args.length (rd_T27 xs i).head.args ∧ (rd_T27 xs i).body.length ≤ c2 ∧ k47.C w A2 (rd_T27 xs i).body.length (rd_T27 xs i).body := by
 obtain ⟨ad, c, e, _, hK, hc0⟩ := Kd.C_get h z27 i h0 h1
 have hc : ∀ j u, c[j]? = some u → w.cell? (ad.add (i.toNat * 3 + j)) = some u := hc0
 obtain ⟨A1, c1, A2, c2, rfl, l1, g1, l2, g2⟩ := k27_open hK
 exact ⟨ad, A1, c1, A2, c2, e, hc 0 _ rfl, by rw [← add_field _ _ 1 (by omega)]; exact hc 1 _ rfl, by rw [← add_field _ _ 2 (by omega)]; exact hc 2 _ rfl, l1, g1, l2, g2⟩
/-! #### struct type 137 -/
structure Decl where
 pred : ByteArray
 arity : Int
deriving DecidableEq
def z137 : Decl := ⟨(⟨#[]⟩ : ByteArray), (0 : Int)⟩
def k137 : Kd Decl := Kd.iso (Kd.pair Kd.string (Kd.int .i64)) (fun x : Decl => (x.pred, x.arity))
theorem k137_heap : Kd.Heap k137 := Kd.heap_iso _ (Kd.heap_pair Kd.heap_string (Kd.heap_int .i64))
theorem k137_open {w : World} {x : Decl} {cs : List Value} (h : k137.K w x cs) : cs = [.string x.pred, .int .i64 x.arity] := by
 obtain ⟨_, _, rfl, rfl, rfl⟩ := h
 exact rfl
theorem k137_openM {w : World} {base : Nat} {ok : Nat → Prop} {x : Decl} {cs : List Value} (h : k137.M w base ok x cs) : cs = [.string x.pred, .int .i64 x.arity] := by
 obtain ⟨_, _, rfl, rfl, rfl⟩ := h
 exact rfl
theorem k137_mk (w : World) (x : Decl)  : k137.K w x [.string x.pred, .int .i64 x.arity] := ⟨[.string x.pred], [.int .i64 x.arity], rfl, rfl, rfl⟩
theorem k137_mkM (w : World) (base : Nat) (ok : Nat → Prop) (x : Decl)  : k137.M w base ok x [.string x.pred, .int .i64 x.arity] := ⟨[.string x.pred], [.int .i64 x.arity], rfl, rfl, rfl⟩
theorem k137_mkF (W : World) (ok : Nat → Prop) (x : Decl) : Kd.FK k137 W ok x [.string x.pred, .int .i64 x.arity] := fun W2 _ => k137_mk W2 x
def rd_T137 (xs : List Decl) (i : Int) : Decl := xs.getD i.toNat z137
theorem at_T137 {w : World} {A : Option Addr} {n : Nat} {xs : List Decl} (h : Kd.C k137 w A n xs) (i : Int) (h0 : 0 ≤ i) (h1 : i < n) : ∃ ad , A = some ad ∧ w.cell? (ad.add (i.toNat * 2)) = some (.string (rd_T137 xs i).pred) ∧ w.cell? ⟨(ad.add (i.toNat * 2)).block, (ad.add (i.toNat * 2)).off + 1, none⟩ = some (.int .i64 (rd_T137 xs i).arity) := by
 obtain ⟨ad, c, e, _, hK, hc0⟩ := Kd.C_get h z137 i h0 h1
 have hc : ∀ j u, c[j]? = some u → w.cell? (ad.add (i.toNat * 2 + j)) = some u := hc0
 obtain rfl := k137_open hK
 exact ⟨ad, e, hc 0 _ rfl, by rw [← add_field _ _ 1 (by omega)]; exact hc 1 _ rfl⟩
def rd_L11 (xs : List (List Decl)) (i : Int) : (List Decl) := xs.getD i.toNat ([] : List Decl)
theorem at_L11 {w : World} {A : Option Addr} {n : Nat} {xs : List (List Decl)} (h : Kd.C (Kd.slice 137 k137) w A n xs) (i : Int) (h0 : 0 ≤ i) (h1 : i < n) : ∃ ad A0 c0, A = some ad ∧ w.cell? (ad.add i.toNat) = some (.slice A0 (rd_L11 xs i).length c0) ∧ (rd_L11 xs i).length ≤ c0 ∧ k137.C w A0 (rd_L11 xs i).length (rd_L11 xs i) := by
 obtain ⟨ad, c, e, _, hK, hc0⟩ := Kd.C_get h ([] : List Decl) i h0 h1
 have hc : ∀ j u, c[j]? = some u → w.cell? (ad.add (i.toNat * 1 + j)) = some u := hc0
 obtain ⟨A0, c0, rfl, l0, g0⟩ := hK
 exact ⟨ad, A0, c0, e, by have hq := hc 0 _ rfl; rwa [Nat.mul_one, Nat.add_zero] at hq, l0, g0⟩
def rd_L12 (xs : List (List Rule)) (i : Int) : (List Rule) := xs.getD i.toNat ([] : List Rule)
theorem at_L12 {w : World} {A : Option Addr} {n : Nat} {xs : List (List Rule)} (h : Kd.C (Kd.slice 27 k27) w A n xs) (i : Int) (h0 : 0 ≤ i) (h1 : i < n) : ∃ ad A0 c0, A = some ad ∧ w.cell? (ad.add i.toNat) = some (.slice A0 (rd_L12 xs i).length c0) ∧ (rd_L12 xs i).length ≤ c0 ∧ k27.C w A0 (rd_L12 xs i).length (rd_L12 xs i) := by
 obtain ⟨ad, c, e, _, hK, hc0⟩ := Kd.C_get h ([] : List Rule) i h0 h1
 have hc : ∀ j u, c[j]? = some u → w.cell? (ad.add (i.toNat * 1 + j)) = some u := hc0
 obtain ⟨A0, c0, rfl, l0, g0⟩ := hK
 exact ⟨ad, A0, c0, e, by have hq := hc 0 _ rfl; rwa [Nat.mul_one, Nat.add_zero] at hq, l0, g0⟩
/-! #### struct type 66 -/
structure Prog where
 decls : (List Decl)
 rules : (List Rule)
deriving DecidableEq
def z66 : Prog := ⟨([] : List Decl), ([] : List Rule)⟩
def k66 : Kd Prog := Kd.iso (Kd.pair (Kd.slice 137 k137) (Kd.slice 27 k27)) (fun x : Prog => (x.decls, x.rules))
theorem k66_heap : Kd.Heap k66 := Kd.heap_iso _ (Kd.heap_pair (Kd.heap_slice 137 k137_heap) (Kd.heap_slice 27 k27_heap))
theorem k66_open {w : World} {x : Prog} {cs : List Value} (h : k66.K w x cs) : ∃ A0 c0 A1 c1, cs = [.slice A0 x.decls.length c0, .slice A1 x.rules.length c1] ∧ x.decls.length ≤ c0 ∧ k137.C w A0 x.decls.length x.decls ∧ x.rules.length ≤ c1 ∧ k27.C w A1 x.rules.length x.rules := by
 obtain ⟨_, _, rfl, ⟨A0, c0, rfl, l0, g0⟩, ⟨A1, c1, rfl, l1, g1⟩⟩ := h
 exact ⟨A0, c0, A1, c1, rfl, l0, g0, l1, g1⟩
theorem k66_openM {w : World} {base : Nat} {ok : Nat → Prop} {x : Prog} {cs : List Value} (h : k66.M w base ok x cs) : ∃ v0 v1, cs = [v0, v1] ∧ k137.R 137 w base ok v0 x.decls ∧ k27.R 27 w base ok v1 x.rules := by
 obtain ⟨_, _, rfl, ⟨v0, rfl, g0⟩, ⟨v1, rfl, g1⟩⟩ := h
 exact ⟨v0, v1, rfl, g0, g1⟩
theorem k66_mk (w : World) (x : Prog) {A0 : Option Addr} {c0 : Nat} (l0 : x.decls.length ≤ c0) (g0 : k137.C w A0 x.decls.length x.decls) {A1 : Option Addr} {c1 : Nat} (l1 : x.rules.length ≤ c1) (g1 : k27.C w A1 x.rules.length x.rules) : k66.K w x [.slice A0 x.decls.length c0, .slice A1 x.rules.length c1] := ⟨[.slice A0 x.decls.length c0], [.slice A1 x.rules.length c1], rfl, ⟨A0, c0, rfl, l0, g0⟩, ⟨A1, c1, rfl, l1, g1⟩⟩
theorem k66_mkM (w : World) (base : Nat) (ok : Nat → Prop) (x : Prog) {v0 : Value} (g0 : k137.R 137 w base ok v0 x.decls) {v1 : Value} (g1 : k27.R 27 w base ok v1 x.rules) : k66.M w base ok x [v0, v1] := ⟨[v0], [v1], rfl, ⟨v0, rfl, g0⟩, ⟨v1, rfl, g1⟩⟩
theorem k66_openF {W : World} {ok : Nat → Prop} {x : Prog} {cs : List Value} (h : Kd.FK k66 W ok x cs) : ∃ A0 c0 A1 c1, cs = [.slice A0 x.decls.length c0, .slice A1 x.rules.length c1] ∧ x.decls.length ≤ c0 ∧ Kd.F k137 W ok A0 x.decls.length x.decls ∧ x.rules.length ≤ c1 ∧ Kd.F k27 W ok A1 x.rules.length x.rules := by
 obtain ⟨A0, c0, A1, c1, rfl, l0, _, l1, _⟩ := k66_open (Kd.FK_now h)
 exact ⟨A0, c0, A1, c1, rfl, l0, (fun W' hW => by obtain ⟨A0_, c0_, A1_, c1_, he, l0_, g0_, l1_, g1_⟩ := k66_open (h W' hW); injection (Option.some.inj (show some (Value.slice A0 x.decls.length c0) = some (Value.slice A0_ x.decls.length c0_) from congrArg (fun l => l[0]?) he)) with ha_ _ _; rw [ha_]; exact g0_), l1, (fun W' hW => by obtain ⟨A0_, c0_, A1_, c1_, he, l0_, g0_, l1_, g1_⟩ := k66_open (h W' hW); injection (Option.some.inj (show some (Value.slice A1 x.rules.length c1) = some (Value.slice A1_ x.rules.length c1_) from congrArg (fun l => l[1]?) he)) with ha_ _ _; rw [ha_]; exact g1_)⟩
theorem k66_mkF (W : World) (ok : Nat → Prop) (x : Prog) {A0 : Option Addr} {c0 : Nat} (l0 : x.decls.length ≤ c0) (g0 : Kd.F k137 W ok A0 x.decls.length x.decls) {A1 : Option Addr} {c1 : Nat} (l1 : x.rules.length ≤ c1) (g1 : Kd.F k27 W ok A1 x.rules.length x.rules) : Kd.FK k66 W ok x [.slice A0 x.decls.length c0, .slice A1 x.rules.length c1] := fun W2 hW => k66_mk W2 x l0 (g0 W2 hW) l1 (g1 W2 hW)
def rd_T66 (xs : List Prog) (i : Int) : Prog := xs.getD i.toNat z66
theorem at_T66 {w : World} {A : Option Addr} {n : Nat} {xs : List Prog} (h : Kd.C k66 w A n xs) (i : Int) (h0 : 0 ≤ i) (h1 : i < n) : ∃ ad A0 c0 A1 c1, A = some ad ∧ w.cell? (ad.add (i.toNat * 2)) = some (.slice A0 (rd_T66 xs i).decls.length c0) ∧ w.cell? ⟨(ad.add (i.toNat * 2)).block, (ad.add (i.toNat * 2)).off + 1, none⟩ = some (.slice A1 (rd_T66 xs i).rules.length c1) ∧ (rd_T66 xs i).decls.length ≤ c0 ∧ k137.C w A0 (rd_T66 xs i).decls.length (rd_T66 xs i).decls ∧ (rd_T66 xs i).rules.length ≤ c1 ∧ k27.C w A1 (rd_T66 xs i).rules.length (rd_T66 xs i).rules := by
 obtain ⟨ad, c, e, _, hK, hc0⟩ := Kd.C_get h z66 i h0 h1
 have hc : ∀ j u, c[j]? = some u → w.cell? (ad.add (i.toNat * 2 + j)) = some u := hc0
 obtain ⟨A0, c0, A1, c1, rfl, l0, g0, l1, g1⟩ := k66_open hK
 exact ⟨ad, A0, c0, A1, c1, e, hc 0 _ rfl, by rw [← add_field _ _ 1 (by omega)]; exact hc 1 _ rfl, l0, g0, l1, g1⟩
def rd_L14 (xs : List (List ByteArray)) (i : Int) : (List ByteArray) := xs.getD i.toNat ([] : List ByteArray)
theorem at_L14 {w : World} {A : Option Addr} {n : Nat} {xs : List (List ByteArray)} (h : Kd.C (Kd.slice 9 Kd.string) w A n xs) (i : Int) (h0 : 0 ≤ i) (h1 : i < n) : ∃ ad A0 c0, A = some ad ∧ w.cell? (ad.add i.toNat) = some (.slice A0 (rd_L14 xs i).length c0) ∧ (rd_L14 xs i).length ≤ c0 ∧ Kd.string.C w A0 (rd_L14 xs i).length (rd_L14 xs i) := by
 obtain ⟨ad, c, e, _, hK, hc0⟩ := Kd.C_get h ([] : List ByteArray) i h0 h1
 have hc : ∀ j u, c[j]? = some u → w.cell? (ad.add (i.toNat * 1 + j)) = some u := hc0
 obtain ⟨A0, c0, rfl, l0, g0⟩ := hK
 exact ⟨ad, A0, c0, e, by have hq := hc 0 _ rfl; rwa [Nat.mul_one, Nat.add_zero] at hq, l0, g0⟩
def rd_L15 (xs : List (List Int)) (i : Int) : (List Int) := xs.getD i.toNat ([] : List Int)
theorem at_L15 {w : World} {A : Option Addr} {n : Nat} {xs : List (List Int)} (h : Kd.C (Kd.slice 3 (Kd.int .i64)) w A n xs) (i : Int) (h0 : 0 ≤ i) (h1 : i < n) : ∃ ad A0 c0, A = some ad ∧ w.cell? (ad.add i.toNat) = some (.slice A0 (rd_L15 xs i).length c0) ∧ (rd_L15 xs i).length ≤ c0 ∧ (Kd.int .i64).C w A0 (rd_L15 xs i).length (rd_L15 xs i) := by
 obtain ⟨ad, c, e, _, hK, hc0⟩ := Kd.C_get h ([] : List Int) i h0 h1
 have hc : ∀ j u, c[j]? = some u → w.cell? (ad.add (i.toNat * 1 + j)) = some u := hc0
 obtain ⟨A0, c0, rfl, l0, g0⟩ := hK
 exact ⟨ad, A0, c0, e, by have hq := hc 0 _ rfl; rwa [Nat.mul_one, Nat.add_zero] at hq, l0, g0⟩
def rd_L16 (xs : List (List Bool)) (i : Int) : (List Bool) := xs.getD i.toNat ([] : List Bool)
theorem at_L16 {w : World} {A : Option Addr} {n : Nat} {xs : List (List Bool)} (h : Kd.C (Kd.slice 4 Kd.bool) w A n xs) (i : Int) (h0 : 0 ≤ i) (h1 : i < n) : ∃ ad A0 c0, A = some ad ∧ w.cell? (ad.add i.toNat) = some (.slice A0 (rd_L16 xs i).length c0) ∧ (rd_L16 xs i).length ≤ c0 ∧ Kd.bool.C w A0 (rd_L16 xs i).length (rd_L16 xs i) := by
 obtain ⟨ad, c, e, _, hK, hc0⟩ := Kd.C_get h ([] : List Bool) i h0 h1
 have hc : ∀ j u, c[j]? = some u → w.cell? (ad.add (i.toNat * 1 + j)) = some u := hc0
 obtain ⟨A0, c0, rfl, l0, g0⟩ := hK
 exact ⟨ad, A0, c0, e, by have hq := hc 0 _ rfl; rwa [Nat.mul_one, Nat.add_zero] at hq, l0, g0⟩
def rd_L17 (xs : List (List (List ByteArray))) (i : Int) : (List (List ByteArray)) := xs.getD i.toNat ([] : List (List ByteArray))
theorem at_L17 {w : World} {A : Option Addr} {n : Nat} {xs : List (List (List ByteArray))} (h : Kd.C (Kd.slice 28 (Kd.slice 9 Kd.string)) w A n xs) (i : Int) (h0 : 0 ≤ i) (h1 : i < n) : ∃ ad A0 c0, A = some ad ∧ w.cell? (ad.add i.toNat) = some (.slice A0 (rd_L17 xs i).length c0) ∧ (rd_L17 xs i).length ≤ c0 ∧ (Kd.slice 9 Kd.string).C w A0 (rd_L17 xs i).length (rd_L17 xs i) := by
 obtain ⟨ad, c, e, _, hK, hc0⟩ := Kd.C_get h ([] : List (List ByteArray)) i h0 h1
 have hc : ∀ j u, c[j]? = some u → w.cell? (ad.add (i.toNat * 1 + j)) = some u := hc0
 obtain ⟨A0, c0, rfl, l0, g0⟩ := hK
 exact ⟨ad, A0, c0, e, by have hq := hc 0 _ rfl; rwa [Nat.mul_one, Nat.add_zero] at hq, l0, g0⟩
theorem blt_ {w : World} {a : Addr} {v : Value} (h : w.cell? a = some v) : a.block < w.heap.size := World.block_lt_of_cell? w a h
end Go.Proofs.Ythpejcnldecmoaa.H
namespace Go.Proofs.Ythpejcnldecmoaa.H
/-- The structs are printed in YthpejcnldecmoaaQ0. -/
theorem types_lie : True := trivial
end Go.Proofs.Ythpejcnldecmoaa.H
namespace Go.Proofs.Ythpejcnldecmoaa.H
def toL (b : ByteArray) : List UInt8 := b.data.toList
def ofL (l : List UInt8) : ByteArray := ⟨l.toArray⟩
theorem ofL_toL (b : ByteArray) : ofL (toL b) = b := by simp [ofL, toL]
theorem toL_ofL (l : List UInt8) : toL (ofL l) = l := by simp [ofL, toL]
end Go.Proofs.Ythpejcnldecmoaa.H
namespace Go.Proofs.Ythpejcnldecmoaa.H
open Go.RowKit Go.Sort Go.Proofs.YthpejcnldecmoaaW.PrintWords Go.Proofs.YthpejcnldecmoaaW.PrintLast Go.Proofs.YthpejcnldecmoaaW.PrintMore
set_option linter.unusedVariables false
section
variable {α : Type} [Inhabited α] {enc : α → Value}
theorem so_heap {w : World} {g n : Nat} {os : Array Obj} {cur : Array Value} {e : TypeId} {fr : Nat × Nat} (d : Array α) (hb : w.heap[g]? = some (.cells cur e fr)) :
    (grow (putRow enc (Sort.ahead w n) g 0 d) os).heap[g]? = some (.cells (putCells enc 0 d cur) e fr) := by
  have hg : g < w.heap.size := (Array.getElem?_eq_some_iff.1 hb).1
  rw [heap_grow_old _ _ (by simpa using hg)]
  simp [putRow, mapBlock, Sort.ahead, Array.getElem?_modify, hb, onCells]
theorem so_grown {w : World} {g n : Nat} {os : Array Obj} (d : Array α) : w.grownBy (grow (putRow enc (Sort.ahead w n) g 0 d) os) (some g) := by
  refine ⟨rfl, rfl, rfl, by simp, fun k hk hne => ?_⟩
  rw [heap_grow_old _ _ (by simpa using hk)]
  have : g ≠ k := fun e => hne (by rw [e])
  simp [putRow, mapBlock, Sort.ahead, Array.getElem?_modify, this]
theorem so_take (cur : Array Value) (ts : List α) (m : Nat) (hm : m ≤ ts.length) (h : ts.length ≤ cur.size) : (putCells enc 0 ts.toArray cur).toList.take m = (ts.take m).map enc := by
  apply List.ext_getElem?
  intro j
  by_cases hj : j < m
  · rw [List.getElem?_take_of_lt hj, Array.getElem?_toList]
    simp [putCells, show j < ts.length by omega, show j < cur.size by omega, hj]
  · rw [List.getElem?_take_eq_none (by omega), List.getElem?_eq_none (by simp; omega)]
theorem so_holds {w : World} {g : Nat} {cur : Array Value} {e : TypeId} {ss : List α} (hb : w.heap[g]? = some (.cells cur e (0, 0))) (ht : cur.toList.take ss.length = ss.map enc) : Holds enc w g 0 ss.toArray := by
  intro j hj
  have hj' : j < ss.length := by simpa using hj
  refine ⟨?_, by simp [World.frozen?, hb]⟩
  have h1 : (cur.toList.take ss.length)[j]? = (ss.map enc)[j]? := by rw [ht]
  rw [List.getElem?_take_of_lt hj'] at h1
  simp only [World.cell?, hb, Nat.zero_add]
  simp only [Option.isSome_none, Bool.false_eq_true, if_false]
  rw [← Array.getElem?_toList, h1]
  simp [hj']
/-- behind a sort (or a compacting): the row owns the first elements of what was laid -/
theorem so_owns {w : World} {base g cap n m : Nat} {e : TypeId} {os : Array Obj} {cur : Array Value} {ss ts : List α} (hl : ts.length = ss.length) (hm : m ≤ ts.length) (hbase : base ≤ g) (hb : w.heap[g]? = some (.cells cur e (0, 0)))
    (h1 : ss.length ≤ cap) (h2 : cap ≤ maxLen) (h3 : cur.size = cap * 1) :
    (grow (putRow enc (Sort.ahead w n) g 0 ts.toArray) os).ownsRow base e 1 (.slice (some ⟨g, 0, none⟩) m cap) m ((ts.take m).map enc) :=
  ⟨by simp; omega, .inr ⟨g, cap, _, rfl, hbase, so_heap _ hb, by omega, h2, by simp [putCells, h3], by rw [Nat.mul_one]; exact so_take cur ts m hm (by omega)⟩⟩
end
/-- what a function that writes a row of the caller's leaves -/
theorem so_kept {w w' : World} {g : Nat} {P : Nat → Prop} (hg : w.grownBy w' (some g)) (hP : P g) : Kept w w' P :=
  ⟨hg.size, fun i hi hn => hg.block i hi (fun e => hn (by cases e; exact hP))⟩
theorem so_below {w0 w w' : World} {g : Nat} (hB : Below w0.heap.size w0 w) (hg : w.grownBy w' (some g)) (hb : w0.heap.size ≤ g) : Below w0.heap.size w0 w' :=
  pw_below_grown hB (some g) hB.size hg (fun k e => by cases e; exact hb)
theorem encs_toL (xs : List ByteArray) : xs.map Value.string = (xs.map toL).map encStr := by
  rw [List.map_map]
  exact List.map_congr_left fun x _ => by simp [encStr, toL]
theorem encs_ofL (ls : List (List UInt8)) : ls.map encStr = (ls.map ofL).map Value.string := by
  rw [List.map_map]
  exact List.map_congr_left fun x _ => by simp [encStr, ofL]
def sortS (l : List ByteArray) : List ByteArray := ((l.map toL).mergeSort fun x y => decide (x ≤ y)).map ofL
def compactS (l : List ByteArray) : List ByteArray := (Go.Lib.compact (l.map toL)).map ofL
theorem sortS_len (l : List ByteArray) : (sortS l).length = l.length := by simp [sortS]
theorem compactS_len (l : List ByteArray) : (compactS l).length ≤ l.length := by
  unfold compactS Go.Lib.compact Go.Lib.compactUpTo
  simp only [List.length_map]
  exact Nat.le_trans (List.length_filter_le _ _) (by simp)
def sortI (l : List Int) : List Int := l.mergeSort fun x y => decide (x ≤ y)
def compactI (l : List Int) : List Int := Go.Lib.compact l
theorem sortI_len (l : List Int) : (sortI l).length = l.length := by simp [sortI]
theorem compactI_len (l : List Int) : (compactI l).length ≤ l.length := by
  unfold compactI Go.Lib.compact Go.Lib.compactUpTo
  simp only [List.length_map]
  exact Nat.le_trans (List.length_filter_le _ _) (by simp)
end Go.Proofs.Ythpejcnldecmoaa.H
namespace Go.Proofs.Ythpejcnldecmoaa.H
open Go.RowKit Go.Proofs.YthpejcnldecmoaaW.PrintWords
set_option linter.unusedVariables false
section
variable {α : Type} [Inhabited α] [DecidableEq α]
theorem cut_mem (d : Array α) : ∀ (m : Nat), ∀ x, x ∈ Go.Lib.compactUpTo d m ↔ ∃ j, j < m ∧ d[j]! = x
  | 0, x => by simp [Go.Lib.compactUpTo]
  | m + 1, x => by
    rw [Go.Lib.compactUpTo_succ, List.mem_append, cut_mem d m x]
    constructor
    · rintro (⟨j, h1, h2⟩ | h)
      · exact ⟨j, by omega, h2⟩
      · split at h
        · exact ⟨m, by omega, by simpa using (List.mem_singleton.1 h).symm⟩
        · simp at h
    · rintro ⟨j, h1, h2⟩
      rcases Nat.lt_or_ge j m with h | h
      · exact .inl ⟨j, h, h2⟩
      · obtain rfl : j = m := by omega
        by_cases hk : Go.Lib.keeps d j = true
        · exact .inr (by rw [if_pos hk]; simp [h2])
        · left
          have : 0 < j ∧ d[j]! = d[j - 1]! := by
            unfold Go.Lib.keeps at hk
            simp at hk
            refine ⟨by omega, ?_⟩
            simpa using hk.2
          exact ⟨j - 1, by omega, by rw [← this.2]; exact h2⟩
theorem cut_sorted (lt : α → α → Prop) (le : α → α → Prop) (hle : ∀ a b c, le a b → le b c → le a c) (hlt : ∀ a b, le a b → a ≠ b → lt a b) (hll : ∀ a b c, le a b → lt b c → lt a c) (d : Array α) (hd : ∀ i j, i ≤ j → j < d.size → le d[i]! d[j]!) : ∀ (m : Nat), m ≤ d.size → (Go.Lib.compactUpTo d m).Pairwise lt
  | 0, _ => by simp [Go.Lib.compactUpTo]
  | m + 1, hm => by
    rw [Go.Lib.compactUpTo_succ, List.pairwise_append]
    refine ⟨cut_sorted lt le hle hlt hll d hd m (by omega), by split <;> simp, fun x hx y hy => ?_⟩
    split at hy
    case isFalse => simp at hy
    rename_i hk
    obtain ⟨j, hj, rfl⟩ := (cut_mem d m x).1 hx
    rw [List.mem_singleton.1 hy]
    unfold Go.Lib.keeps at hk
    simp at hk
    have hne : d[m - 1]! ≠ d[m]! := by
      intro e
      rcases hk with h | h
      · omega
      · exact h (by simpa using e.symm)
    exact hll _ _ _ (hd j (m - 1) (by omega) (by omega)) (hlt _ _ (hd (m - 1) m (by omega) (by omega)) hne)
end
def setS (l : List ByteArray) : List ByteArray := compactS (sortS l)
theorem toL_inj {a b : ByteArray} (h : toL a = toL b) : a = b := by rw [← ofL_toL a, ← ofL_toL b, h]
theorem map_toL_setS (l : List ByteArray) : (setS l).map toL = Go.Lib.compact ((l.map toL).mergeSort fun x y => decide (x ≤ y)) := by
  unfold setS compactS sortS
  rw [List.map_map, List.map_map]
  have e1 : ((toL ∘ ofL) : List UInt8 → List UInt8) = id := by funext x; simp [toL_ofL]
  rw [e1, List.map_id, List.map_id]
theorem mem_setS {l : List ByteArray} {x : ByteArray} : x ∈ setS l ↔ x ∈ l := by
  have h1 : x ∈ setS l ↔ toL x ∈ (setS l).map toL := by
    rw [List.mem_map]
    exact ⟨fun h => ⟨x, h, rfl⟩, fun ⟨y, h, e⟩ => toL_inj e ▸ h⟩
  have h2 : x ∈ l ↔ toL x ∈ (l.map toL).mergeSort fun x y => decide (x ≤ y) := by
    rw [List.mem_mergeSort, List.mem_map]
    exact ⟨fun h => ⟨x, h, rfl⟩, fun ⟨y, h, e⟩ => toL_inj e ▸ h⟩
  rw [h1, h2, map_toL_setS]
  unfold Go.Lib.compact
  generalize ((l.map toL).mergeSort fun x y => decide (x ≤ y)) = s
  rw [cut_mem, List.mem_iff_getElem]
  constructor
  · rintro ⟨j, hj, e⟩
    exact ⟨j, hj, by simpa [hj] using e⟩
  · rintro ⟨j, hj, e⟩
    exact ⟨j, hj, by simpa [hj] using e⟩
theorem setS_sorted (l : List ByteArray) : ((setS l).map toL).Pairwise (· < ·) := by
  rw [map_toL_setS]
  have hs := List.pairwise_mergeSort (le := fun x y : List UInt8 => decide (x ≤ y)) (by intro a b c; simp; exact fun h1 h2 => List.le_trans h1 h2) (by intro a b; simp; exact List.le_total a b) (l.map toL)
  unfold Go.Lib.compact
  revert hs
  generalize ((l.map toL).mergeSort fun x y => decide (x ≤ y)) = s
  intro hs
  refine cut_sorted (· < ·) (· ≤ ·) (fun a b c => List.le_trans) (fun a b h hne => ?_) (fun a b c => List.lt_of_le_of_lt) s.toArray (fun i j hij hj => ?_) s.length (by simp)
  · rcases List.le_iff_lt_or_eq.1 h with h | h
    · exact h
    · exact absurd h hne
  · simp at hj
    rcases Nat.lt_or_ge i j with h | h
    · have := List.pairwise_iff_getElem.1 hs i j (by omega) hj h
      simpa [hj, show i < s.length by omega] using this
    · obtain rfl : i = j := by omega
      exact List.le_refl _
theorem setS_ext {l l' : List ByteArray} (h : ∀ x, x ∈ l ↔ x ∈ l') : setS l = setS l' := by
  have e : (setS l).map toL = (setS l').map toL := by
    have n1 : ((setS l).map toL).Nodup := List.Pairwise.imp (R := (· < ·)) (fun {a b} h => by rintro rfl; exact List.lt_irrefl a h) (setS_sorted l)
    have n2 : ((setS l').map toL).Nodup := List.Pairwise.imp (R := (· < ·)) (fun {a b} h => by rintro rfl; exact List.lt_irrefl a h) (setS_sorted l')
    refine List.Perm.eq_of_pairwise (le := (· < ·)) ?_ (setS_sorted l) (setS_sorted l') ((List.perm_ext_iff_of_nodup n1 n2).2 fun x => ?_)
    · intro a b _ _ h1 h2
      exact absurd (List.lt_trans h1 h2) (List.lt_irrefl a)
    · rw [List.mem_map, List.mem_map]
      constructor
      · rintro ⟨y, hy, rfl⟩; exact ⟨y, mem_setS.2 ((h y).1 (mem_setS.1 hy)), rfl⟩
      · rintro ⟨y, hy, rfl⟩; exact ⟨y, mem_setS.2 ((h y).2 (mem_setS.1 hy)), rfl⟩
  have := congrArg (List.map ofL) e
  rw [List.map_map, List.map_map] at this
  have e2 : (ofL ∘ toL) = (id : ByteArray → ByteArray) := by funext x; simp [ofL_toL]
  simpa [e2] using this
theorem setS_len (l : List ByteArray) : (setS l).length ≤ l.length := by
  have := compactS_len (sortS l)
  rw [sortS_len] at this
  exact this
end Go.Proofs.Ythpejcnldecmoaa.H
namespace Go.Proofs.Ythpejcnldecmoaa.H
/-- is a name one of some -/
def mem (s : ByteArray) (l : List ByteArray) : Bool := l.any fun x => decide (s = x)
theorem mem_iff {s : ByteArray} {l : List ByteArray} : mem s l = true ↔ s ∈ l := by simp [mem]
end Go.Proofs.Ythpejcnldecmoaa.H
namespace Go.Proofs.Ythpejcnldecmoaa.H
open Go.RowKit Go.Proofs.YthpejcnldecmoaaW.PrintWords
set_option linter.unusedVariables false
theorem lib_ba_eq {a b : ByteArray} : (a.toList = b.toList) ↔ a = b := by
  constructor
  · intro h
    have h1 : a.data.toList = b.data.toList := by
      have := congrArg id h
      rwa [ByteArray.toList_eq, ByteArray.toList_eq] at this
    cases a; cases b; simp_all
  · rintro rfl; rfl
theorem drop_end {α : Type} {l : List α} {n : Nat} (h : l.drop n = []) : ¬ (n : Int) < (l.length : Int) := by
  have := congrArg List.length h
  simp at this
  omega
theorem drop_more {α : Type} {l : List α} {n : Nat} {y : α} {r : List α} (h : l.drop n = y :: r) (hl : l.length ≤ 9223372036854775807) :
    (n : Int) < (l.length : Int) ∧ (0 : Int) ≤ (n : Int) ∧ (∀ d, l.getD (n : Int).toNat d = y) ∧ l.drop (n + 1) = r ∧ wrap64 ((n : Int) + 1) = ((n + 1 : Nat) : Int) := by
  have h1 := congrArg List.length h
  simp at h1
  have h2 : l.drop (n + 1) = r := by
    have := congrArg (List.drop 1) h
    simpa [List.drop_drop, Nat.add_comm] using this
  have h3 : l[n]? = some y := by
    have := congrArg (fun z => z[0]?) h
    simpa using this
  refine ⟨by omega, by omega, fun d => ?_, h2, ?_⟩
  · rw [Int.toNat_natCast, List.getD_eq_getElem?_getD, h3]; rfl
  · unfold wrap64; omega
theorem at_more {α : Type} {l : List α} {n : Nat} (h : n < l.length) : ∃ y r, l.drop n = y :: r ∧ l[n]? = some y :=
  ⟨l[n], l.drop (n + 1), List.drop_eq_getElem_cons h, List.getElem?_eq_getElem h⟩
theorem getD_at {α : Type} {l : List α} {n : Nat} {y : α} (h : l[n]? = some y) (d : α) : l.getD (n : Int).toNat d = y := by
  rw [Int.toNat_natCast, List.getD_eq_getElem?_getD, h]; rfl
theorem wrap_up {n : Nat} (h : n < 9223372036854775807) : wrap64 ((n : Int) + 1) = ((n + 1 : Nat) : Int) := by unfold wrap64; omega
theorem ite_t {α : Type} {c : Prop} [Decidable c] (h : c) (a b : α) : (if c then a else b) = a := if_pos h
theorem Ev.iff {α : Type} {g : Nat → Option α} {r r' : α} (h : Ev g r) (e : r = r') : Ev g r' := e ▸ h
theorem Ev.some {α : Type} {r r' : α} (e : r = r') : Ev (fun _ => some r) r' := e ▸ Ev.now r
theorem Ev.pure {α β : Type} {o : Option α} {f : Nat → α → Option β} {a : α} {r : β} (h : o = .some a) (k : Ev (fun n => f n a) r) : Ev (fun n => o.bind (f n)) r := by
  subst h; exact k
theorem Ev.pos {α : Type} {c : Prop} [Decidable c] {g f : Nat → Option α} {r : α} (h : c) (k : Ev g r) : Ev (fun n => if c then g n else f n) r := by
  simp only [if_pos h]; exact k
theorem Ev.neg {α : Type} {c : Prop} [Decidable c] {g f : Nat → Option α} {r : α} (h : ¬ c) (k : Ev f r) : Ev (fun n => if c then g n else f n) r := by
  simp only [if_neg h]; exact k
theorem Ev.cases {α : Type} {c : Prop} [Decidable c] {g f : Nat → Option α} {r r' : α} (h1 : c → Ev g r) (h2 : ¬ c → Ev f r') : Ev (fun n => if c then g n else f n) (if c then r else r') := by
  by_cases h : c
  · simp only [if_pos h]; exact h1 h
  · simp only [if_neg h]; exact h2 h
end Go.Proofs.Ythpejcnldecmoaa.H
namespace Go.Proofs.Ythpejcnldecmoaa.H
/-- the variables of some terms, each once, in turn -/
def namesGo (acc : List ByteArray) : List Term → List ByteArray
  | [] => acc
  | t :: l => if t.isVar && !mem t.name acc then namesGo (acc ++ [t.name]) l else namesGo acc l
def names (l : List Term) : List ByteArray := namesGo [] l
theorem namesGo_len : ∀ (l : List Term) (acc : List ByteArray), (namesGo acc l).length ≤ acc.length + l.length
  | [], acc => by simp [namesGo]
  | t :: l, acc => by
    unfold namesGo
    split
    · have := namesGo_len l (acc ++ [t.name]); simp at this ⊢; omega
    · have := namesGo_len l acc; simp; omega
theorem names_len (l : List Term) : (names l).length ≤ l.length := by have := namesGo_len l []; simpa [names] using this
end Go.Proofs.Ythpejcnldecmoaa.H
namespace Go.Proofs.Ythpejcnldecmoaa.H
open Go.RowKit Go.Proofs.YthpejcnldecmoaaW.PrintWords Go.Proofs.YthpejcnldecmoaaW.PrintLast Go.Proofs.YthpejcnldecmoaaW.PrintMore
abbrev tt : Bool := true
abbrev ff : Bool := false
/-- a table of bools, told as a number -/
def bls : Nat → Nat → List Bool
  | 0, _ => []
  | n + 1, b => (b % 2 == 1) :: bls n (b / 2)
def bl (n b : Nat) : Array Bool := ⟨bls n b⟩
theorem sA {α : Type _} (l : List α) (i : Nat) (a : α) : l.toArray.setIfInBounds i a = (l.set i a).toArray := List.setIfInBounds_toArray ..
theorem sZ {α : Type _} {xs : List α} {a b : α} : (a :: xs).set 0 b = b :: xs := List.set_cons_zero
theorem sS {α : Type _} {xs : List α} {n : Nat} {a b : α} : (a :: xs).set (n + 1) b = a :: xs.set n b := List.set_cons_succ
theorem am {p : Prop} (h : p) : Aside0 p := Aside0.mk h
abbrev Va := @Kd.V_alloc
abbrev Vn := @Kd.V_drewN
abbrev Vd := @Kd.V_drew
abbrev Ra := @Kd.R_alloc
abbrev Rn := @Kd.R_drewN
abbrev Rd := @Kd.R_drew
abbrev bN := @blk_drewN
abbrev bD := @blk_drew
abbrev bA := @blk_alloc
abbrev lA := @below_alloc
abbrev lN := @pw_below_drewN
abbrev lD := @below_drew1
abbrev lS := @below_set
end Go.Proofs.Ythpejcnldecmoaa.H
namespace Go.Proofs.Ythpejcnldecmoaa.H
open Go.RowKit Go.Proofs.YthpejcnldecmoaaW.PrintWords Go.Proofs.YthpejcnldecmoaaW.PrintLast Go.Proofs.YthpejcnldecmoaaW.PrintMore
attribute [local go_sem] max2_int min2_int max_two min_two max_three min_three max_four min_four
set_option linter.unusedVariables false
set_option linter.unusedSimpArgs false
def lambrequinref09_In.l0 : Nat → List ByteArray → ByteArray → Int → Option (Bool)
 | 0, _, _, _ => none
 | k + 1, x0, x1, x5 => if x5 < (x0.length : Int) then (if 0 ≤ x5 then (if (rdOf ByteArray.empty x0 x5).toList = x1.toList then (some true) else (lambrequinref09_In.l0 k x0 x1 (wrap64 (x5 + 1)))) else (none)) else (some false)
def lambrequinref09_In.f (k : Nat) (l0 : List ByteArray) (a1 : ByteArray) : Option (Bool) := lambrequinref09_In.l0 k l0 a1 0
theorem lambrequinref09_In.mono_l : ∀ k, (∀ y0 y1 y2, LeO (lambrequinref09_In.l0 k y0 y1 y2) (lambrequinref09_In.l0 (k + 1) y0 y1 y2))
 | 0 => fun _ _ _ r h => by simp [lambrequinref09_In.l0] at h
 | k + 1 => by
  have ih0 := lambrequinref09_In.mono_l k
  ·intro y0 y1 y2
   unfold lambrequinref09_In.l0
   repeat' first
   | (with_reducible exact ih0 _ _ _)
   | (with_reducible exact LeO.refl _)
   | (with_reducible exact LeO.none _)
   | (with_reducible refine LeO.ite ?_ ?_)
   | (with_reducible refine LeO.bind ?_ (fun _ => ?_))
   | exact ih0 _ _ _
   | exact LeO.none _
   | refine LeO.ite ?_ ?_
   | refine LeO.bind ?_ (fun _ => ?_)
theorem lambrequinref09_In.mono : ∀ a0 a1 k, LeO (lambrequinref09_In.f k a0 a1) (lambrequinref09_In.f (k + 1) a0 a1) := by
 intro a0 a1 k
 have ih0 := lambrequinref09_In.mono_l k
 unfold lambrequinref09_In.f
 repeat' first
   | (with_reducible exact ih0 _ _ _)
   | (with_reducible exact LeO.refl _)
   | (with_reducible exact LeO.none _)
   | (with_reducible refine LeO.ite ?_ ?_)
   | (with_reducible refine LeO.bind ?_ (fun _ => ?_))
   | exact ih0 _ _ _
   | exact LeO.none _
   | refine LeO.ite ?_ ?_
   | refine LeO.bind ?_ (fun _ => ?_)
set_option maxHeartbeats 8000000 in
set_option maxRecDepth 100000 in
theorem lambrequinref09_In.calls (k : Nat) (A0 : Option Addr) (c0 : Nat) (l0 : List ByteArray) (a1 : ByteArray) (r : Bool) (w : World) (hr0 : Kd.C Kd.string w A0 l0.length l0) (hc0 : l0.length ≤ c0) (h : lambrequinref09_In.f k l0 a1 = some r) :
  Calls Try.prog 32 #[.slice A0 l0.length c0, .string a1] w fun e w' => e = .returned (.bool r) ∧ Drawn0 w w' := by
 have HR0 := Aside0.mk hr0
 have HC0 := Aside0.mk hc0
 clear hr0 hc0
 have H : (lambrequinref09_In.l0 k l0 a1 0) = some r := h
 clear h
 have H' := Aside0.mk H
 clear H
 go_enter Try.func32, Try.ntmps32
 go_wp2
 go_loopg [5] k (fun kq v5 w' => ∃ (x5_1 : Int), v5 = .int .i64 x5_1 ∧ Aside0 (lambrequinref09_In.l0 kq l0 a1 x5_1 = some r) ∧ Aside0 (kq ≤ k) ∧ Drawn0 w w')
 case atStart => exact ⟨(0), (by first | rfl | (simp; done) | (simp [*]; done)), H', ⟨Nat.le_refl _⟩, by repeat (first | exact Drawn0.refl _ | apply Drawn0.step)⟩
 case round =>
  clear H'
  try clear p2
  obtain ⟨x5_1, rfl, HA, HK1, ⟨m1, rfl⟩⟩ := hrel
  cases gk with
  | zero => exact absurd HA.out (by simp [lambrequinref09_In.l0])
  | succ k1 =>
   have H := HA.out
   clear HA
   simp only [lambrequinref09_In.l0] at H
   by_cases c3 : x5_1 < (l0.length : Int)
   ·rw [if_pos c3] at H
    have c3b0 : decide (x5_1 < (l0.length : Int)) = true := decide_eq_true c3
    clear c3
    by_cases c4 : 0 ≤ x5_1
    ·rw [if_pos c4] at H
     have c4b0 : decide (0 ≤ x5_1) = true := decide_eq_true c4
     clear c4
     by_cases c5 : (rdOf ByteArray.empty l0 x5_1).toList = a1.toList
     ·rw [if_pos c5] at H
      have c5b0 : ((rdOf ByteArray.empty l0 x5_1).toList == a1.toList) = true := beq_iff_eq.mpr c5
      have c5b1 : ((rdOf ByteArray.empty l0 x5_1).toList != a1.toList) = false := bne_eq_false_iff_eq.mpr c5
      clear c5
      obtain rfl := Option.some.inj H
      have p101 : 0 ≤ (x5_1 : Int) := of_decide_eq_true (by first | (with_reducible assumption) | assumption)
      have q101 : x5_1 < (l0.length : Int) := of_decide_eq_true (by first | (with_reducible assumption) | assumption)
      obtain ⟨ad101, e101, hx101_0⟩ := Kd.at_string HR0.out x5_1 p101 q101
      cases e101
      replace p101 := eq_true p101
      replace q101 := eq_true q101
      go_wp2
      go_ret
      exact ⟨by first | rfl | (simp; done) | (simp [*]; done), by repeat (first | exact Drawn0.refl _ | apply Drawn0.step)⟩
     ·rw [if_neg c5] at H
      have c5b0 : ((rdOf ByteArray.empty l0 x5_1).toList == a1.toList) = false := beq_eq_false_iff_ne.mpr c5
      have c5b1 : ((rdOf ByteArray.empty l0 x5_1).toList != a1.toList) = true := bne_iff_ne.mpr c5
      have H' := Aside0.mk H
      clear H
      have p101 : 0 ≤ (x5_1 : Int) := of_decide_eq_true (by first | (with_reducible assumption) | assumption)
      have q101 : x5_1 < (l0.length : Int) := of_decide_eq_true (by first | (with_reducible assumption) | assumption)
      obtain ⟨ad101, e101, hx101_0⟩ := Kd.at_string HR0.out x5_1 p101 q101
      cases e101
      replace p101 := eq_true p101
      replace q101 := eq_true q101
      go_wp2
      go_roundg k1
      case measure => have := HK1.out; omega
      case rel => exact ⟨(wrap64 (x5_1 + 1)), (by first | rfl | (simp; done) | (simp [*]; done)), H', ⟨by have := HK1.out; omega⟩, by repeat (first | exact Drawn0.refl _ | apply Drawn0.step)⟩
    ·rw [if_neg c4] at H
     exact absurd H (by simp)
   ·rw [if_neg c3] at H
    have c3b0 : decide (x5_1 < (l0.length : Int)) = false := decide_eq_false c3
    clear c3
    obtain rfl := Option.some.inj H
    go_wp2
    go_ret
    exact ⟨by first | rfl | (simp; done) | (simp [*]; done), by repeat (first | exact Drawn0.refl _ | apply Drawn0.step)⟩
end Go.Proofs.Ythpejcnldecmoaa.H
namespace Go.Proofs.Ythpejcnldecmoaa.H
open Go.RowKit Go.Proofs.YthpejcnldecmoaaW.PrintWords Go.Proofs.YthpejcnldecmoaaW.PrintLast Go.Proofs.YthpejcnldecmoaaW.PrintMore
attribute [local go_sem] max2_int min2_int max_two min_two max_three min_three max_four min_four
set_option linter.unusedVariables false
set_option linter.unusedSimpArgs false
def lambrequinref09_Vars.l0 : Nat → List ByteArray → Int → ByteArray → List (Term) → Option (List ByteArray)
 | 0, _, _, _, _ => none
 | k + 1, x3, x4, x102000, x102001 => if x4 < (x102001.length : Int) then (if 0 ≤ x4 then (if (rd_T45 x102001 x4).isVar = true then ((lambrequinref09_In.f k x3 ((rd_T45 x102001 x4).name)).bind fun t104 => (if t104 = true then (lambrequinref09_Vars.l0 k x3 (wrap64 (x4 + 1)) x102000 x102001) else (if x3.length < 8796093022208 then (lambrequinref09_Vars.l0 k (x3 ++ [(rd_T45 x102001 x4).name]) (wrap64 (x4 + 1)) x102000 x102001) else (none)))) else (lambrequinref09_Vars.l0 k x3 (wrap64 (x4 + 1)) x102000 x102001)) else (none)) else (some x3)
def lambrequinref09_Vars.f (k : Nat) (a0_0 : ByteArray) (l0_1 : List (Term)) : Option (List ByteArray) := lambrequinref09_Vars.l0 k ([] : List ByteArray) 0 a0_0 l0_1
theorem lambrequinref09_Vars.mono_l : ∀ k, (∀ y0 y1 y2 y3, LeO (lambrequinref09_Vars.l0 k y0 y1 y2 y3) (lambrequinref09_Vars.l0 (k + 1) y0 y1 y2 y3))
 | 0 => fun _ _ _ _ r h => by simp [lambrequinref09_Vars.l0] at h
 | k + 1 => by
  have ih0 := lambrequinref09_Vars.mono_l k
  ·intro y0 y1 y2 y3
   unfold lambrequinref09_Vars.l0
   repeat' first
   | (with_reducible exact ih0 _ _ _ _)
   | (with_reducible exact lambrequinref09_In.mono _ _ _)
   | (with_reducible exact LeO.refl _)
   | (with_reducible exact LeO.none _)
   | (with_reducible refine LeO.ite ?_ ?_)
   | (with_reducible refine LeO.bind ?_ (fun _ => ?_))
   | exact ih0 _ _ _ _
   | exact lambrequinref09_In.mono _ _ _
   | exact LeO.none _
   | refine LeO.ite ?_ ?_
   | refine LeO.bind ?_ (fun _ => ?_)
theorem lambrequinref09_Vars.mono : ∀ a0 a1 k, LeO (lambrequinref09_Vars.f k a0 a1) (lambrequinref09_Vars.f (k + 1) a0 a1) := by
 intro a0 a1 k
 have ih0 := lambrequinref09_Vars.mono_l k
 unfold lambrequinref09_Vars.f
 repeat' first
   | (with_reducible exact ih0 _ _ _ _)
   | (with_reducible exact lambrequinref09_In.mono _ _ _)
   | (with_reducible exact LeO.refl _)
   | (with_reducible exact LeO.none _)
   | (with_reducible refine LeO.ite ?_ ?_)
   | (with_reducible refine LeO.bind ?_ (fun _ => ?_))
   | exact ih0 _ _ _ _
   | exact lambrequinref09_In.mono _ _ _
   | exact LeO.none _
   | refine LeO.ite ?_ ?_
   | refine LeO.bind ?_ (fun _ => ?_)
set_option maxHeartbeats 8000000 in
set_option maxRecDepth 100000 in
theorem lambrequinref09_Vars.calls (k : Nat) (a0_0 : ByteArray) (A0_1 : Option Addr) (c0_1 : Nat) (l0_1 : List (Term)) (r : List ByteArray) (w : World) (hr0_1 : Kd.C k45 w A0_1 l0_1.length l0_1) (hc0_1 : l0_1.length ≤ c0_1) (h : lambrequinref09_Vars.f k a0_0 l0_1 = some r) :
  Calls Try.prog 22 #[.agg #[.string a0_0, .slice A0_1 l0_1.length c0_1]] w fun e w' => ∃ v0_ : Value, e = .returned (v0_) ∧ Kd.R Kd.string 9 w' w.heap.size (fun _ => True) v0_ r ∧ Below w.heap.size w w' := by
 have hu24 := Try.underlying24
 have hu45 := Try.underlying45
 have HR0_1 := am hr0_1
 have HC0_1 := am hc0_1
 clear hr0_1 hc0_1
 have HB := am (Below.refl w.heap.size w)
 have H : (lambrequinref09_Vars.l0 k ([] : List ByteArray) 0 a0_0 l0_1) = some r := h
 clear h
 have H' := am H
 clear H
 go_enter Try.func22, Try.ntmps22
 go_wp2_with (first | ((with_reducible refine gate_dst (N := 1) rfl ?_); refine box_event ?hg (N := 1) ?hd (cs := #[.string a0_0, .slice A0_1 l0_1.length c0_1]) (t := 24) ?hr ?_; (case hd => rfl); (case hg => rfl); (case hr => first | (go_simp; done) | (go_simp; rfl)); intro gb101 hg w2 hbox hb; have BK101 := am (hbox); have GW101 := am ((by rw [hg]; exact (below_size (by repeat (first | (with_reducible first | exact HB.out | apply lA | apply lN | apply lD) | exact HB.out))) : w.heap.size ≤ gb101)); have GE101 := am ((by rw [hg]; exact (below_size (by repeat (first | (with_reducible first | exact HB.out | apply lA | apply lN | apply lD) | exact HB.out))) : w.heap.size ≤ gb101)); replace HB := am (below_step (by repeat (first | (with_reducible first | exact HB.out | apply lA | apply lN | apply lD) | exact HB.out)) hb); clear hb hbox hg))
 go_loopg [3, 4] k (fun kq v3 v4 w' => ∃ (x3_1 : List ByteArray) (x4_1 : Int), v4 = .int .i64 x4_1 ∧ Aside0 (lambrequinref09_Vars.l0 kq x3_1 x4_1 a0_0 l0_1 = some r) ∧ Aside0 (kq ≤ k) ∧ Aside0 (Kd.R Kd.string 9 w' w.heap.size (fun _ => True) v3 x3_1) ∧ Aside0 (w'.heap[gb101]? = some (.cells #[.string a0_0, (.slice A0_1 l0_1.length c0_1)] 24 (0, 0))) ∧ Aside0 (Below w.heap.size w w'))
 case atStart => exact ⟨(([] : List ByteArray)), (0), (by first | rfl | (simp; done) | (simp [*]; done)), H', ⟨Nat.le_refl _⟩, ⟨by first | exact Kd.R_nil _ _ _ _ _ | exact Kd.N_nil _ _ _ _ _ | exact Kd.V_nil _ _ _ _ _ | exact Kd.Q_nil _ _ _ _ _ | exact Kd.S_nil _ _ _ _ _⟩, ⟨by (with_reducible repeat (first | refine bN ?_ _ | refine bD ?_ | refine bA ?_ _)); exact BK101.out⟩, ⟨by repeat (first | (with_reducible first | exact HB.out | apply lA | apply lN | apply lD | refine lS ?_ GE101.out) | exact HB.out)⟩⟩
 case round =>
  clear H'
  try clear c2
  try clear p2
  obtain ⟨x3_1, x4_1, rfl, HA, HK1, HO_3, BK101, HB⟩ := hrel
  cases gk with
  | zero => exact absurd HA.out (by simp [lambrequinref09_Vars.l0])
  | succ k1 =>
   have H := HA.out
   clear HA
   simp only [lambrequinref09_Vars.l0] at H
   by_cases c3 : x4_1 < (l0_1.length : Int)
   ·rw [if_pos c3] at H
    have c3b0 : decide (x4_1 < (l0_1.length : Int)) = true := decide_eq_true c3
    clear c3
    by_cases c4 : 0 ≤ x4_1
    ·rw [if_pos c4] at H
     have c4b0 : decide (0 ≤ x4_1) = true := decide_eq_true c4
     clear c4
     obtain ⟨bq5, hbq5⟩ : ∃ b_ : Bool, b_ = ((rd_T45 l0_1 x4_1).isVar) := ⟨_, rfl⟩
     replace H : (if bq5 = true then ((lambrequinref09_In.f k1 x3_1 ((rd_T45 l0_1 x4_1).name)).bind fun t104 => (if t104 = true then (lambrequinref09_Vars.l0 k1 x3_1 (wrap64 (x4_1 + 1)) a0_0 l0_1) else (if x3_1.length < 8796093022208 then (lambrequinref09_Vars.l0 k1 (x3_1 ++ [(rd_T45 l0_1 x4_1).name]) (wrap64 (x4_1 + 1)) a0_0 l0_1) else (none)))) else (lambrequinref09_Vars.l0 k1 x3_1 (wrap64 (x4_1 + 1)) a0_0 l0_1)) = some r := by rw [← hbq5] at H; exact H
     have Nbq5 := am hbq5
     clear hbq5
     by_cases c6 : bq5 = true
     ·subst c6
      have H1 : ((lambrequinref09_In.f k1 x3_1 ((rd_T45 l0_1 x4_1).name)).bind fun t104 => (if t104 = true then (lambrequinref09_Vars.l0 k1 x3_1 (wrap64 (x4_1 + 1)) a0_0 l0_1) else (if x3_1.length < 8796093022208 then (lambrequinref09_Vars.l0 k1 (x3_1 ++ [(rd_T45 l0_1 x4_1).name]) (wrap64 (x4_1 + 1)) a0_0 l0_1) else (none)))) = some r := by rw [if_pos rfl] at H; exact H
      clear H
      have H := H1
      clear H1
      replace H := Option.bind_eq_some_iff.mp H
      obtain ⟨t104, A70, H⟩ := H
      replace H : (if t104 = true then (lambrequinref09_Vars.l0 k1 x3_1 (wrap64 (x4_1 + 1)) a0_0 l0_1) else (if x3_1.length < 8796093022208 then (lambrequinref09_Vars.l0 k1 (x3_1 ++ [(rd_T45 l0_1 x4_1).name]) (wrap64 (x4_1 + 1)) a0_0 l0_1) else (none))) = some r := H
      have A7 := am A70
      clear A70
      by_cases c8 : t104 = true
      ·subst c8
       have H1 : (lambrequinref09_Vars.l0 k1 x3_1 (wrap64 (x4_1 + 1)) a0_0 l0_1) = some r := by rw [if_pos rfl] at H; exact H
       clear H
       have H := H1
       clear H1
       have H' := am H
       clear H
       have hcz9_0 : wr.cell? ⟨gb101, 0, none⟩ = some (.string a0_0) := (blk_cell BK101.out 0).trans rfl
       have hcz9_1 : wr.cell? ⟨gb101, 1, none⟩ = some (.slice A0_1 l0_1.length c0_1) := (blk_cell BK101.out 1).trans rfl
       have hfz9_0 := blk_frozen BK101.out 0
       have hfz9_1 := blk_frozen BK101.out 1
       have p102 : 0 ≤ (x4_1 : Int) := of_decide_eq_true (by first | (with_reducible assumption) | assumption)
       have q102 : x4_1 < (l0_1.length : Int) := of_decide_eq_true (by first | (with_reducible assumption) | assumption)
       obtain ⟨ad102, e102, hx102_0, hx102_1, hx102_2, hx102_3, hx102_4⟩ := at_T45 HR0_1.out x4_1 p102 q102
       (try rw [← Nbq5.out] at hx102_0)
       (try rw [← Nbq5.out] at hx102_2)
       cases e102
       replace hx102_0 := (HB.out.cell (blt_ hx102_0)).trans hx102_0
       replace hx102_1 := (HB.out.cell (blt_ hx102_1)).trans hx102_1
       replace hx102_2 := (HB.out.cell (blt_ hx102_2)).trans hx102_2
       replace hx102_3 := (HB.out.cell (blt_ hx102_3)).trans hx102_3
       replace hx102_4 := (HB.out.cell (blt_ hx102_4)).trans hx102_4
       replace p102 := eq_true p102
       replace q102 := eq_true q102
       go_wp2_with (first | ((with_reducible refine gate_dst (N := 5) rfl ?_); refine box_event ?hg (N := 5) ?hd (cs := #[.bool false, .string (⟨#[]⟩ : ByteArray), .bool false, .string (⟨#[]⟩ : ByteArray), .int .i64 0]) (t := 45) ?hr ?_; (case hd => rfl); (case hg => rfl); (case hr => first | (go_simp; done) | (go_simp; rfl)); intro gb103 hg w10 hbox hb; replace HO_3 := am (Kd.R_below (by (with_reducible repeat (first | apply Ra | apply Rn | apply Rd)); exact HO_3.out) hb); have BK103 := am (hbox); have GW103 := am ((by rw [hg]; exact (below_size (by repeat (first | (with_reducible first | exact HB.out | apply lA | apply lN | apply lD | refine lS ?_ GE101.out) | exact HB.out))) : w.heap.size ≤ gb103)); have GE103 := am ((by rw [hg]; exact (below_size (by repeat (first | (with_reducible first | exact HB.out | apply lA | apply lN | apply lD | refine lS ?_ GE101.out) | exact HB.out))) : w.heap.size ≤ gb103)); replace HB := am (below_step (by repeat (first | (with_reducible first | exact HB.out | apply lA | apply lN | apply lD | refine lS ?_ GE101.out) | exact HB.out)) hb); have NB101_103 := am ((by rw [hg]; exact Nat.ne_of_lt (blk_lt (g := gb101) (o := .cells #[.string a0_0, .slice (some ad102) l0_1.length c0_1] 24 (0, 0)) (by (with_reducible repeat (first | refine bN ?_ _ | refine bD ?_ | refine bA ?_ _)); exact BK101.out)) : gb101 ≠ gb103)); have NB103_101 := am ((by rw [hg]; exact Nat.ne_of_gt (blk_lt (g := gb101) (o := .cells #[.string a0_0, .slice (some ad102) l0_1.length c0_1] 24 (0, 0)) (by (with_reducible repeat (first | refine bN ?_ _ | refine bD ?_ | refine bA ?_ _)); exact BK101.out)) : gb103 ≠ gb101)); replace BK101 := am (blk_below (g := gb101) (o := .cells #[.string a0_0, .slice (some ad102) l0_1.length c0_1] 24 (0, 0)) (by (with_reducible repeat (first | refine bN ?_ _ | refine bD ?_ | refine bA ?_ _)); exact BK101.out) hb); clear hb hbox hg; have hnb11 := NB103_101.out; have hnc11 := NB101_103.out; have hcz12_0 : w10.cell? ⟨gb103, 0, none⟩ = some (.bool false) := (blk_cell BK103.out 0).trans rfl; have hcz12_1 : w10.cell? ⟨gb103, 1, none⟩ = some (.string (⟨#[]⟩ : ByteArray)) := (blk_cell BK103.out 1).trans rfl; have hcz12_2 : w10.cell? ⟨gb103, 2, none⟩ = some (.bool false) := (blk_cell BK103.out 2).trans rfl; have hcz12_3 : w10.cell? ⟨gb103, 3, none⟩ = some (.string (⟨#[]⟩ : ByteArray)) := (blk_cell BK103.out 3).trans rfl; have hcz12_4 : w10.cell? ⟨gb103, 4, none⟩ = some (.int .i64 0) := (blk_cell BK103.out 4).trans rfl; have hfz12_0 := blk_frozen BK103.out 0; have hfz12_1 := blk_frozen BK103.out 1; have hfz12_2 := blk_frozen BK103.out 2; have hfz12_3 := blk_frozen BK103.out 3; have hfz12_4 := blk_frozen BK103.out 4; obtain ⟨Ao13, co13, eo13⟩ := Kd.R_slice HO_3.out; subst eo13) | (go_at_call 32; (with_reducible refine (lambrequinref09_In.calls k1 _ _ x3_1 ((rd_T45 l0_1 x4_1).name) true _ ?side1 ?side2 A7.out).mono ?_); (case side1 => refine (Kd.R_reads' (e := 9) (base := w.heap.size) (ok := fun k_ => True) (n := x3_1.length) (c := co13) ?_).2.2; exact (by (with_reducible repeat (first | apply Ra | apply Rn | apply Rd)); exact (Kd.R_mono (Kd.R_far (p := ⟨gb103, 4, none⟩) (Kd.R_far (p := ⟨gb103, 3, none⟩) (Kd.R_far (p := ⟨gb103, 2, none⟩) (Kd.R_far (p := ⟨gb103, 1, none⟩) (Kd.R_far (p := ⟨gb103, 0, none⟩) (Kd.R_types HO_3.out BK103.out (by decide)) (fun _ hk => hk.2) _) (fun _ hk => hk.2) _) (fun _ hk => hk.2) _) (fun _ hk => hk.2) _) (fun _ hk => hk.2) _) (fun _ h_ => h_.1)))); (case side2 => exact (Kd.R_reads' HO_3.out).2.1); rintro e w' ⟨rfl, ⟨nd, rfl⟩⟩))
       go_roundg k1
       case measure => have := HK1.out; omega
       case rel => exact ⟨(x3_1), (wrap64 (x4_1 + 1)), (by first | rfl | (simp; done) | (simp [*]; done)), H', ⟨by have := HK1.out; omega⟩, ⟨by (with_reducible repeat (first | apply Ra | apply Rn | apply Rd)); exact Kd.R_mono (Kd.R_far (p := ⟨gb103, 4, none⟩) (Kd.R_far (p := ⟨gb103, 3, none⟩) (Kd.R_far (p := ⟨gb103, 2, none⟩) (Kd.R_far (p := ⟨gb103, 1, none⟩) (Kd.R_far (p := ⟨gb103, 0, none⟩) (Kd.R_types HO_3.out BK103.out (by decide)) (fun _ hk => hk.2) _) (fun _ hk => hk.2) _) (fun _ hk => hk.2) _) (fun _ hk => hk.2) _) (fun _ hk => hk.2) _) (fun _ hk => trivial)⟩, ⟨by repeat (first | (with_reducible first | exact BK101.out | refine bN ?_ _ | refine bD ?_ | refine bA ?_ _) | refine blk_far ?_ NB101_103.out _ | exact BK101.out)⟩, ⟨by repeat (first | (with_reducible first | exact HB.out | apply lA | apply lN | apply lD | refine lS ?_ GE101.out | refine lS ?_ GE103.out) | exact HB.out)⟩⟩
      ·replace c8 := Bool.eq_false_iff.mpr c8
       subst c8
       have H1 : (if x3_1.length < 8796093022208 then (lambrequinref09_Vars.l0 k1 (x3_1 ++ [(rd_T45 l0_1 x4_1).name]) (wrap64 (x4_1 + 1)) a0_0 l0_1) else (none)) = some r := by rw [if_neg (show ¬ (false = true) by decide)] at H; exact H
       clear H
       have H := H1
       clear H1
       by_cases c14 : x3_1.length < 8796093022208
       ·rw [if_pos c14] at H
        have LMc14 := am c14
        clear c14
        obtain ⟨y105, hy105⟩ : ∃ y_ : List ByteArray, y_ = (x3_1 ++ [(rd_T45 l0_1 x4_1).name]) := ⟨_, rfl⟩
        replace H : (lambrequinref09_Vars.l0 k1 y105 (wrap64 (x4_1 + 1)) a0_0 l0_1) = some r := by first | (rw [hy105]; with_reducible exact H) | (have H2_ := (Option.bind_some _ _).symm.trans H; rw [hy105]; with_reducible exact H2_) | (have H2_ := (Option.bind_some _ _).symm.trans H; with_reducible exact H2_) | with_reducible exact H | (rw [hy105]; exact H) | exact H
        have Ny105 := am hy105
        clear hy105
        have H' := am H
        clear H
        have hcz15_0 : wr.cell? ⟨gb101, 0, none⟩ = some (.string a0_0) := (blk_cell BK101.out 0).trans rfl
        have hcz15_1 : wr.cell? ⟨gb101, 1, none⟩ = some (.slice A0_1 l0_1.length c0_1) := (blk_cell BK101.out 1).trans rfl
        have hfz15_0 := blk_frozen BK101.out 0
        have hfz15_1 := blk_frozen BK101.out 1
        have p102 : 0 ≤ (x4_1 : Int) := of_decide_eq_true (by first | (with_reducible assumption) | assumption)
        have q102 : x4_1 < (l0_1.length : Int) := of_decide_eq_true (by first | (with_reducible assumption) | assumption)
        obtain ⟨ad102, e102, hx102_0, hx102_1, hx102_2, hx102_3, hx102_4⟩ := at_T45 HR0_1.out x4_1 p102 q102
        (try rw [← Nbq5.out] at hx102_0)
        (try rw [← Nbq5.out] at hx102_2)
        cases e102
        replace hx102_0 := (HB.out.cell (blt_ hx102_0)).trans hx102_0
        replace hx102_1 := (HB.out.cell (blt_ hx102_1)).trans hx102_1
        replace hx102_2 := (HB.out.cell (blt_ hx102_2)).trans hx102_2
        replace hx102_3 := (HB.out.cell (blt_ hx102_3)).trans hx102_3
        replace hx102_4 := (HB.out.cell (blt_ hx102_4)).trans hx102_4
        replace p102 := eq_true p102
        replace q102 := eq_true q102
        go_wp2_with (first | ((with_reducible refine gate_dst (N := 5) rfl ?_); refine box_event ?hg (N := 5) ?hd (cs := #[.bool false, .string (⟨#[]⟩ : ByteArray), .bool false, .string (⟨#[]⟩ : ByteArray), .int .i64 0]) (t := 45) ?hr ?_; (case hd => rfl); (case hg => rfl); (case hr => first | (go_simp; done) | (go_simp; rfl)); intro gb103 hg w16 hbox hb; replace HO_3 := am (Kd.R_below (by (with_reducible repeat (first | apply Ra | apply Rn | apply Rd)); exact HO_3.out) hb); have BK103 := am (hbox); have GW103 := am ((by rw [hg]; exact (below_size (by repeat (first | (with_reducible first | exact HB.out | apply lA | apply lN | apply lD | refine lS ?_ GE101.out) | exact HB.out))) : w.heap.size ≤ gb103)); have GE103 := am ((by rw [hg]; exact (below_size (by repeat (first | (with_reducible first | exact HB.out | apply lA | apply lN | apply lD | refine lS ?_ GE101.out) | exact HB.out))) : w.heap.size ≤ gb103)); replace HB := am (below_step (by repeat (first | (with_reducible first | exact HB.out | apply lA | apply lN | apply lD | refine lS ?_ GE101.out) | exact HB.out)) hb); have NB101_103 := am ((by rw [hg]; exact Nat.ne_of_lt (blk_lt (g := gb101) (o := .cells #[.string a0_0, .slice (some ad102) l0_1.length c0_1] 24 (0, 0)) (by (with_reducible repeat (first | refine bN ?_ _ | refine bD ?_ | refine bA ?_ _)); exact BK101.out)) : gb101 ≠ gb103)); have NB103_101 := am ((by rw [hg]; exact Nat.ne_of_gt (blk_lt (g := gb101) (o := .cells #[.string a0_0, .slice (some ad102) l0_1.length c0_1] 24 (0, 0)) (by (with_reducible repeat (first | refine bN ?_ _ | refine bD ?_ | refine bA ?_ _)); exact BK101.out)) : gb103 ≠ gb101)); replace BK101 := am (blk_below (g := gb101) (o := .cells #[.string a0_0, .slice (some ad102) l0_1.length c0_1] 24 (0, 0)) (by (with_reducible repeat (first | refine bN ?_ _ | refine bD ?_ | refine bA ?_ _)); exact BK101.out) hb); clear hb hbox hg; have hnb17 := NB103_101.out; have hnc17 := NB101_103.out; have hcz18_0 : w16.cell? ⟨gb103, 0, none⟩ = some (.bool false) := (blk_cell BK103.out 0).trans rfl; have hcz18_1 : w16.cell? ⟨gb103, 1, none⟩ = some (.string (⟨#[]⟩ : ByteArray)) := (blk_cell BK103.out 1).trans rfl; have hcz18_2 : w16.cell? ⟨gb103, 2, none⟩ = some (.bool false) := (blk_cell BK103.out 2).trans rfl; have hcz18_3 : w16.cell? ⟨gb103, 3, none⟩ = some (.string (⟨#[]⟩ : ByteArray)) := (blk_cell BK103.out 3).trans rfl; have hcz18_4 : w16.cell? ⟨gb103, 4, none⟩ = some (.int .i64 0) := (blk_cell BK103.out 4).trans rfl; have hfz18_0 := blk_frozen BK103.out 0; have hfz18_1 := blk_frozen BK103.out 1; have hfz18_2 := blk_frozen BK103.out 2; have hfz18_3 := blk_frozen BK103.out 3; have hfz18_4 := blk_frozen BK103.out 4; obtain ⟨Ao19, co19, eo19⟩ := Kd.R_slice HO_3.out; subst eo19) | (go_at_call 32; (with_reducible refine (lambrequinref09_In.calls k1 _ _ x3_1 ((rd_T45 l0_1 x4_1).name) false _ ?side1 ?side2 A7.out).mono ?_); (case side1 => refine (Kd.R_reads' (e := 9) (base := w.heap.size) (ok := fun k_ => True) (n := x3_1.length) (c := co19) ?_).2.2; exact (by (with_reducible repeat (first | apply Ra | apply Rn | apply Rd)); exact (Kd.R_mono (Kd.R_far (p := ⟨gb103, 4, none⟩) (Kd.R_far (p := ⟨gb103, 3, none⟩) (Kd.R_far (p := ⟨gb103, 2, none⟩) (Kd.R_far (p := ⟨gb103, 1, none⟩) (Kd.R_far (p := ⟨gb103, 0, none⟩) (Kd.R_types HO_3.out BK103.out (by decide)) (fun _ hk => hk.2) _) (fun _ hk => hk.2) _) (fun _ hk => hk.2) _) (fun _ hk => hk.2) _) (fun _ hk => hk.2) _) (fun _ h_ => h_.1)))); (case side2 => exact (Kd.R_reads' HO_3.out).2.1); rintro e w' ⟨rfl, ⟨nd, rfl⟩⟩) | ((with_reducible refine gate_builtin (b := .append) (xs := #[.tmp 27, .tmp 30]) rfl ?_); at_builtin; refine Kd.R_append Kd.string (w0 := w) w.heap.size rfl (.tmp 27) (.tmp 30) 28 9 (.string ⟨#[]⟩) 16 rfl Try.underlying28 info9 rfl (by decide) (by omega) (.slice Ao19 x3_1.length co19) x3_1 ((rd_T45 l0_1 x4_1).name) [.string ((rd_T45 l0_1 x4_1).name)] (fun _ => True) (fun _ => False) rfl (by first | (go_simp; done) | (go_simp; rfl)) ?aP (fun _ hk => hk.elim) ?aF ?aO ?aB ?aS ?aL ?_; (case aP => exact rfl); (case aB => exact (by repeat (first | (with_reducible first | exact HB.out | apply lA | apply lN | apply lD | refine lS ?_ GE101.out | refine lS ?_ GE103.out) | exact HB.out))); (case aF => exact (fun _ _ => trivial)); (case aO => exact (by (with_reducible repeat (first | apply Ra | apply Rn | apply Rd)); exact Kd.R_mono (Kd.R_far (p := ⟨gb103, 4, none⟩) (Kd.R_far (p := ⟨gb103, 3, none⟩) (Kd.R_far (p := ⟨gb103, 2, none⟩) (Kd.R_far (p := ⟨gb103, 1, none⟩) (Kd.R_far (p := ⟨gb103, 0, none⟩) (Kd.R_types HO_3.out BK103.out (by decide)) (fun _ hk => hk.2) _) (fun _ hk => hk.2) _) (fun _ hk => hk.2) _) (fun _ hk => hk.2) _) (fun _ hk => hk.2) _) (fun _ hk => trivial))); (case aS => exact (below_size (by repeat (first | (with_reducible first | exact HB.out | apply lA | apply lN | apply lD | refine lS ?_ GE101.out | refine lS ?_ GE103.out) | exact HB.out)))); (case aL => have := LMc14.out; omega); intro v106 w20 ho hb hg hat; rw [← Ny105.out] at ho; replace BK101 := am (blk_grown (g := gb101) (o := .cells #[.string a0_0, .slice (some ad102) l0_1.length c0_1] 24 (0, 0)) (by repeat (first | (with_reducible first | exact BK101.out | refine bN ?_ _ | refine bD ?_ | refine bA ?_ _) | refine blk_far ?_ NB101_103.out _ | exact BK101.out)) hg (Kd.R_ne HO_3.out BK101.out (by decide))); replace BK103 := am (blk_grown (g := gb103) (o := .cells #[.bool true, .string ((rd_T45 l0_1 x4_1).name), .bool ((rd_T45 l0_1 x4_1).val.isSym), .string ((rd_T45 l0_1 x4_1).val.sym), .int .i64 ((rd_T45 l0_1 x4_1).val.n)] 45 (0, 0)) (by (with_reducible repeat (first | refine bN ?_ _ | refine bD ?_ | refine bA ?_ _)); refine blk_put (cs := #[.bool true, .string ((rd_T45 l0_1 x4_1).name), .bool ((rd_T45 l0_1 x4_1).val.isSym), .string ((rd_T45 l0_1 x4_1).val.sym), .int .i64 0]) ?_ 4 _ rfl; (with_reducible repeat (first | refine bN ?_ _ | refine bD ?_ | refine bA ?_ _)); refine blk_put (cs := #[.bool true, .string ((rd_T45 l0_1 x4_1).name), .bool ((rd_T45 l0_1 x4_1).val.isSym), .string (⟨#[]⟩ : ByteArray), .int .i64 0]) ?_ 3 _ rfl; (with_reducible repeat (first | refine bN ?_ _ | refine bD ?_ | refine bA ?_ _)); refine blk_put (cs := #[.bool true, .string ((rd_T45 l0_1 x4_1).name), .bool false, .string (⟨#[]⟩ : ByteArray), .int .i64 0]) ?_ 2 _ rfl; (with_reducible repeat (first | refine bN ?_ _ | refine bD ?_ | refine bA ?_ _)); refine blk_put (cs := #[.bool true, .string (⟨#[]⟩ : ByteArray), .bool false, .string (⟨#[]⟩ : ByteArray), .int .i64 0]) ?_ 1 _ rfl; (with_reducible repeat (first | refine bN ?_ _ | refine bD ?_ | refine bA ?_ _)); refine blk_put (cs := #[.bool false, .string (⟨#[]⟩ : ByteArray), .bool false, .string (⟨#[]⟩ : ByteArray), .int .i64 0]) ?_ 0 _ rfl; (with_reducible repeat (first | refine bN ?_ _ | refine bD ?_ | refine bA ?_ _)); exact BK103.out) hg (Kd.R_ne HO_3.out BK103.out (by decide))); replace HB := am (hb); have HO107 := am (ho); clear HO_3; clear ho hb hg hat))
        go_roundg k1
        case measure => have := HK1.out; omega
        case rel => exact ⟨(y105), (wrap64 (x4_1 + 1)), (by first | rfl | (simp; done) | (simp [*]; done)), H', ⟨by have := HK1.out; omega⟩, ⟨by (with_reducible repeat (first | apply Ra | apply Rn | apply Rd)); exact HO107.out⟩, ⟨by (with_reducible repeat (first | refine bN ?_ _ | refine bD ?_ | refine bA ?_ _)); exact BK101.out⟩, ⟨by repeat (first | (with_reducible first | exact HB.out | apply lA | apply lN | apply lD | refine lS ?_ GE101.out | refine lS ?_ GE103.out) | exact HB.out)⟩⟩
       ·rw [if_neg c14] at H
        exact absurd H (by simp)
     ·replace c6 := Bool.eq_false_iff.mpr c6
      subst c6
      have H1 : (lambrequinref09_Vars.l0 k1 x3_1 (wrap64 (x4_1 + 1)) a0_0 l0_1) = some r := by rw [if_neg (show ¬ (false = true) by decide)] at H; exact H
      clear H
      have H := H1
      clear H1
      have H' := am H
      clear H
      have hcz21_0 : wr.cell? ⟨gb101, 0, none⟩ = some (.string a0_0) := (blk_cell BK101.out 0).trans rfl
      have hcz21_1 : wr.cell? ⟨gb101, 1, none⟩ = some (.slice A0_1 l0_1.length c0_1) := (blk_cell BK101.out 1).trans rfl
      have hfz21_0 := blk_frozen BK101.out 0
      have hfz21_1 := blk_frozen BK101.out 1
      have p102 : 0 ≤ (x4_1 : Int) := of_decide_eq_true (by first | (with_reducible assumption) | assumption)
      have q102 : x4_1 < (l0_1.length : Int) := of_decide_eq_true (by first | (with_reducible assumption) | assumption)
      obtain ⟨ad102, e102, hx102_0, hx102_1, hx102_2, hx102_3, hx102_4⟩ := at_T45 HR0_1.out x4_1 p102 q102
      (try rw [← Nbq5.out] at hx102_0)
      (try rw [← Nbq5.out] at hx102_2)
      cases e102
      replace hx102_0 := (HB.out.cell (blt_ hx102_0)).trans hx102_0
      replace hx102_1 := (HB.out.cell (blt_ hx102_1)).trans hx102_1
      replace hx102_2 := (HB.out.cell (blt_ hx102_2)).trans hx102_2
      replace hx102_3 := (HB.out.cell (blt_ hx102_3)).trans hx102_3
      replace hx102_4 := (HB.out.cell (blt_ hx102_4)).trans hx102_4
      replace p102 := eq_true p102
      replace q102 := eq_true q102
      go_wp2_with (first | ((with_reducible refine gate_dst (N := 5) rfl ?_); refine box_event ?hg (N := 5) ?hd (cs := #[.bool false, .string (⟨#[]⟩ : ByteArray), .bool false, .string (⟨#[]⟩ : ByteArray), .int .i64 0]) (t := 45) ?hr ?_; (case hd => rfl); (case hg => rfl); (case hr => first | (go_simp; done) | (go_simp; rfl)); intro gb103 hg w22 hbox hb; replace HO_3 := am (Kd.R_below (by (with_reducible repeat (first | apply Ra | apply Rn | apply Rd)); exact HO_3.out) hb); have BK103 := am (hbox); have GW103 := am ((by rw [hg]; exact (below_size (by repeat (first | (with_reducible first | exact HB.out | apply lA | apply lN | apply lD | refine lS ?_ GE101.out) | exact HB.out))) : w.heap.size ≤ gb103)); have GE103 := am ((by rw [hg]; exact (below_size (by repeat (first | (with_reducible first | exact HB.out | apply lA | apply lN | apply lD | refine lS ?_ GE101.out) | exact HB.out))) : w.heap.size ≤ gb103)); replace HB := am (below_step (by repeat (first | (with_reducible first | exact HB.out | apply lA | apply lN | apply lD | refine lS ?_ GE101.out) | exact HB.out)) hb); have NB101_103 := am ((by rw [hg]; exact Nat.ne_of_lt (blk_lt (g := gb101) (o := .cells #[.string a0_0, .slice (some ad102) l0_1.length c0_1] 24 (0, 0)) (by (with_reducible repeat (first | refine bN ?_ _ | refine bD ?_ | refine bA ?_ _)); exact BK101.out)) : gb101 ≠ gb103)); have NB103_101 := am ((by rw [hg]; exact Nat.ne_of_gt (blk_lt (g := gb101) (o := .cells #[.string a0_0, .slice (some ad102) l0_1.length c0_1] 24 (0, 0)) (by (with_reducible repeat (first | refine bN ?_ _ | refine bD ?_ | refine bA ?_ _)); exact BK101.out)) : gb103 ≠ gb101)); replace BK101 := am (blk_below (g := gb101) (o := .cells #[.string a0_0, .slice (some ad102) l0_1.length c0_1] 24 (0, 0)) (by (with_reducible repeat (first | refine bN ?_ _ | refine bD ?_ | refine bA ?_ _)); exact BK101.out) hb); clear hb hbox hg; have hnb23 := NB103_101.out; have hnc23 := NB101_103.out; have hcz24_0 : w22.cell? ⟨gb103, 0, none⟩ = some (.bool false) := (blk_cell BK103.out 0).trans rfl; have hcz24_1 : w22.cell? ⟨gb103, 1, none⟩ = some (.string (⟨#[]⟩ : ByteArray)) := (blk_cell BK103.out 1).trans rfl; have hcz24_2 : w22.cell? ⟨gb103, 2, none⟩ = some (.bool false) := (blk_cell BK103.out 2).trans rfl; have hcz24_3 : w22.cell? ⟨gb103, 3, none⟩ = some (.string (⟨#[]⟩ : ByteArray)) := (blk_cell BK103.out 3).trans rfl; have hcz24_4 : w22.cell? ⟨gb103, 4, none⟩ = some (.int .i64 0) := (blk_cell BK103.out 4).trans rfl; have hfz24_0 := blk_frozen BK103.out 0; have hfz24_1 := blk_frozen BK103.out 1; have hfz24_2 := blk_frozen BK103.out 2; have hfz24_3 := blk_frozen BK103.out 3; have hfz24_4 := blk_frozen BK103.out 4))
      go_roundg k1
      case measure => have := HK1.out; omega
      case rel => exact ⟨(x3_1), (wrap64 (x4_1 + 1)), (by first | rfl | (simp; done) | (simp [*]; done)), H', ⟨by have := HK1.out; omega⟩, ⟨by (with_reducible repeat (first | apply Ra | apply Rn | apply Rd)); exact Kd.R_mono (Kd.R_far (p := ⟨gb103, 4, none⟩) (Kd.R_far (p := ⟨gb103, 3, none⟩) (Kd.R_far (p := ⟨gb103, 2, none⟩) (Kd.R_far (p := ⟨gb103, 1, none⟩) (Kd.R_far (p := ⟨gb103, 0, none⟩) (Kd.R_types HO_3.out BK103.out (by decide)) (fun _ hk => hk.2) _) (fun _ hk => hk.2) _) (fun _ hk => hk.2) _) (fun _ hk => hk.2) _) (fun _ hk => hk.2) _) (fun _ hk => trivial)⟩, ⟨by repeat (first | (with_reducible first | exact BK101.out | refine bN ?_ _ | refine bD ?_ | refine bA ?_ _) | refine blk_far ?_ NB101_103.out _ | exact BK101.out)⟩, ⟨by repeat (first | (with_reducible first | exact HB.out | apply lA | apply lN | apply lD | refine lS ?_ GE101.out | refine lS ?_ GE103.out) | exact HB.out)⟩⟩
    ·rw [if_neg c4] at H
     exact absurd H (by simp)
   ·rw [if_neg c3] at H
    have c3b0 : decide (x4_1 < (l0_1.length : Int)) = false := decide_eq_false c3
    clear c3
    obtain rfl := Option.some.inj H
    have hcz25_0 : wr.cell? ⟨gb101, 0, none⟩ = some (.string a0_0) := (blk_cell BK101.out 0).trans rfl
    have hcz25_1 : wr.cell? ⟨gb101, 1, none⟩ = some (.slice A0_1 l0_1.length c0_1) := (blk_cell BK101.out 1).trans rfl
    have hfz25_0 := blk_frozen BK101.out 0
    have hfz25_1 := blk_frozen BK101.out 1
    go_wp2
    go_ret
    exact ⟨_, by first | rfl | (simp [errW_none, errW_some] <;> rfl) | (simp [*, errW_none, errW_some] <;> rfl), by (with_reducible repeat (first | apply Ra | apply Rn | apply Rd)); exact HO_3.out, by repeat (first | (with_reducible first | exact HB.out | apply lA | apply lN | apply lD | refine lS ?_ GE101.out) | exact HB.out)⟩
end Go.Proofs.Ythpejcnldecmoaa.H
namespace Go.Proofs.Ythpejcnldecmoaa.H
open Go.RowKit Go.Proofs.YthpejcnldecmoaaW.PrintWords
set_option linter.unusedVariables false
theorem In_l0 (l : List ByteArray) (s : ByteArray) (hl : l.length ≤ 9223372036854775807) : ∀ (r : List ByteArray) (n : Nat), l.drop n = r → Ev (fun k => lambrequinref09_In.l0 k l s n) (mem s r)
  | [], n, h => by
    refine Ev.step (fun k => by rw [lambrequinref09_In.l0]) ?_
    exact Ev.neg (drop_end h) (Ev.some (by simp [mem]))
  | y :: r, n, h => by
    obtain ⟨h1, h2, h3, h4, h5⟩ := drop_more h hl
    refine Ev.step (fun k => by rw [lambrequinref09_In.l0]) ?_
    refine Ev.pos h1 (Ev.pos h2 ?_)
    rw [show rdOf ByteArray.empty l n = y from h3 _, h5]
    refine Ev.iff (Ev.cases (fun _ => Ev.now true) (fun _ => In_l0 l s hl r (n + 1) h4)) ?_
    simp only [lib_ba_eq, mem, List.any_cons]
    by_cases e : y = s
    · subst e; simp
    · have e' : ¬ s = y := fun h => e h.symm
      simp [e, e']
theorem In_ev (l : List ByteArray) (s : ByteArray) (hl : l.length ≤ 9223372036854775807) : Ev (fun k => lambrequinref09_In.f k l s) (mem s l) := In_l0 l s hl l 0 rfl
theorem Vars_l0 (p : ByteArray) (l : List Term) (hl : l.length ≤ 1000000) : ∀ (r : List Term) (n : Nat) (acc : List ByteArray), l.drop n = r → acc.length ≤ n → Ev (fun k => lambrequinref09_Vars.l0 k acc n p l) (namesGo acc r)
  | [], n, acc, h, ha => by
    refine Ev.step (fun k => by rw [lambrequinref09_Vars.l0]) ?_
    exact Ev.neg (drop_end h) (Ev.some (by simp [namesGo]))
  | y :: r, n, acc, h, ha => by
    obtain ⟨h1, h2, h3, h4, h5⟩ := drop_more h (by omega)
    refine Ev.step (fun k => by rw [lambrequinref09_Vars.l0]) ?_
    refine Ev.pos h1 (Ev.pos h2 ?_)
    rw [show rd_T45 l n = y from h3 _, h5]
    unfold namesGo
    by_cases hv : y.isVar = true
    · refine Ev.pos hv (Ev.bind (In_ev acc y.name (by omega)) ?_)
      cases hm : mem y.name acc with
      | true => exact Ev.pos rfl (Ev.iff (Vars_l0 p l hl r (n + 1) acc h4 (by omega)) (by simp [hv]))
      | false => exact Ev.neg (by simp) (Ev.pos (by omega) (Ev.iff (Vars_l0 p l hl r (n + 1) (acc ++ [y.name]) h4 (by simp; omega)) (by simp [hv])))
    · exact Ev.neg hv (Ev.iff (Vars_l0 p l hl r (n + 1) acc h4 (by omega)) (by simp [hv]))
theorem Vars_ev (p : ByteArray) (l : List Term) (hl : l.length ≤ 1000000) : Ev (fun k => lambrequinref09_Vars.f k p l) (names l) := Vars_l0 p l hl l 0 [] rfl (by simp)
end Go.Proofs.Ythpejcnldecmoaa.H
namespace Go.Proofs.Ythpejcnldecmoaa.H
open Go.RowKit Go.Proofs.YthpejcnldecmoaaW.PrintWords
theorem bytesLess_swap (a b : List UInt8) : (!(Op.bytesLess a b || a == b)) = Op.bytesLess b a := by
  induction a generalizing b with
  | nil => cases b <;> simp [Op.bytesLess]
  | cons x a ih =>
    cases b with
    | nil => simp [Op.bytesLess]
    | cons y b =>
      by_cases h : x = y
      · subst h
        have := ih b
        simp [Op.bytesLess] at this ⊢
        exact this
      · have h2 : ¬ y = x := fun e => h e.symm
        rw [Bool.eq_iff_iff]
        simp [Op.bytesLess, h, h2]
        have hn : x.toNat ≠ y.toNat := fun e => h (UInt8.toNat_inj.1 e)
        rw [UInt8.le_iff_toNat_le, UInt8.lt_iff_toNat_lt]
        omega
theorem bytesLeq_swap (a b : List UInt8) : (Op.bytesLess a b || a == b) = !Op.bytesLess b a := by rw [← bytesLess_swap a b, Bool.not_not]
@[go_sem high] theorem binOp_string_gtr_sw (t : TypeId) (a b : ByteArray) : binOp .gtr t (.string a) (.string b) = pure (.bool (Op.bytesLess b.toList a.toList)) := by
  rw [← bytesLess_swap]; simp [binOp, Op.stringOp]
@[go_sem high] theorem binOp_string_leq_sw (t : TypeId) (a b : ByteArray) : binOp .leq t (.string a) (.string b) = pure (.bool !(Op.bytesLess b.toList a.toList)) := by
  rw [← bytesLeq_swap]; simp [binOp, Op.stringOp]
@[go_sem] theorem binOp_string_geq_sw (t : TypeId) (a b : ByteArray) : binOp .geq t (.string a) (.string b) = pure (.bool !(Op.bytesLess a.toList b.toList)) := by simp [binOp, Op.stringOp]
end Go.Proofs.Ythpejcnldecmoaa.H
namespace Go.Proofs.Ythpejcnldecmoaa.H
open Go.RowKit Go.Proofs.YthpejcnldecmoaaW.PrintWords Go.Proofs.YthpejcnldecmoaaW.PrintLast Go.Proofs.YthpejcnldecmoaaW.PrintMore
attribute [local go_sem] max2_int min2_int max_two min_two max_three min_three max_four min_four
set_option linter.unusedVariables false
set_option linter.unusedSimpArgs false
mutual
def lambrequinref09_Sorted.l0 : Nat → List ByteArray → List ByteArray → Int → Option (List ByteArray)
 | 0, _, _, _ => none
 | k + 1, x0, x3, x4 => if x4 < (x0.length : Int) then (if 0 ≤ x4 then ((lambrequinref09_In.f k x3 (rdOf ByteArray.empty x0 x4)).bind fun t102 => (if t102 = true then (lambrequinref09_Sorted.l0 k x0 x3 (wrap64 (x4 + 1))) else (lambrequinref09_Sorted.l1 k x0 x3 x4 (x3.length : Int)))) else (none)) else (some x3)
def lambrequinref09_Sorted.l1 : Nat → List ByteArray → List ByteArray → Int → Int → Option (List ByteArray)
 | 0, _, _, _, _ => none
 | k + 1, x0, x3, x4, x5 => if x5 > 0 then (if 0 ≤ (wrap64 (x5 - 1)) then (if (wrap64 (x5 - 1)) < (x3.length : Int) then (if 0 ≤ x4 then (if x4 < (x0.length : Int) then (if (Op.bytesLess ((rdOf ByteArray.empty x0 x4).toList) ((rdOf ByteArray.empty x3 (wrap64 (x5 - 1))).toList)) = true then (lambrequinref09_Sorted.l1 k x0 x3 x4 (wrap64 (x5 - 1))) else ((some (([] : List ByteArray) : List ByteArray)).bind fun y105 => (if 0 ≤ x5 then (if x5 ≤ (x3.length : Int) then ((some (x3.take (x5 : Int).toNat : List ByteArray)).bind fun y108 => (if y105.length + y108.length < 8796093022208 then ((some (y105 ++ y108 : List ByteArray)).bind fun y112 => (if y112.length < 8796093022208 then ((some (y112 ++ [rdOf ByteArray.empty x0 x4] : List ByteArray)).bind fun y116 => ((some (x3.drop (x5 : Int).toNat : List ByteArray)).bind fun y119 => (if y116.length + y119.length < 8796093022208 then (lambrequinref09_Sorted.l0 k x0 (y116 ++ y119) (wrap64 (x4 + 1))) else (none)))) else (none))) else (none))) else (none)) else (none)))) else (none)) else (none)) else (none)) else (none)) else ((some (([] : List ByteArray) : List ByteArray)).bind fun y126 => (if 0 ≤ x5 then (if x5 ≤ (x3.length : Int) then ((some (x3.take (x5 : Int).toNat : List ByteArray)).bind fun y129 => (if y126.length + y129.length < 8796093022208 then ((some (y126 ++ y129 : List ByteArray)).bind fun y133 => (if 0 ≤ x4 then (if x4 < (x0.length : Int) then (if y133.length < 8796093022208 then ((some (y133 ++ [rdOf ByteArray.empty x0 x4] : List ByteArray)).bind fun y137 => ((some (x3.drop (x5 : Int).toNat : List ByteArray)).bind fun y140 => (if y137.length + y140.length < 8796093022208 then (lambrequinref09_Sorted.l0 k x0 (y137 ++ y140) (wrap64 (x4 + 1))) else (none)))) else (none)) else (none)) else (none))) else (none))) else (none)) else (none)))
end
def lambrequinref09_Sorted.f (k : Nat) (l0 : List ByteArray) : Option (List ByteArray) := lambrequinref09_Sorted.l0 k l0 ([] : List ByteArray) 0
theorem lambrequinref09_Sorted.mono_l : ∀ k, (∀ y0 y1 y2, LeO (lambrequinref09_Sorted.l0 k y0 y1 y2) (lambrequinref09_Sorted.l0 (k + 1) y0 y1 y2)) ∧ (∀ y0 y1 y2 y3, LeO (lambrequinref09_Sorted.l1 k y0 y1 y2 y3) (lambrequinref09_Sorted.l1 (k + 1) y0 y1 y2 y3))
 | 0 => ⟨fun _ _ _ r h => by simp [lambrequinref09_Sorted.l0] at h, fun _ _ _ _ r h => by simp [lambrequinref09_Sorted.l1] at h⟩
 | k + 1 => by
  obtain ⟨ih0, ih1⟩ := lambrequinref09_Sorted.mono_l k
  refine ⟨?_, ?_⟩
  ·intro y0 y1 y2
   unfold lambrequinref09_Sorted.l0
   repeat' first
   | (with_reducible exact ih0 _ _ _)
   | (with_reducible exact ih1 _ _ _ _)
   | (with_reducible exact lambrequinref09_In.mono _ _ _)
   | (with_reducible exact LeO.refl _)
   | (with_reducible exact LeO.none _)
   | (with_reducible refine LeO.ite ?_ ?_)
   | (with_reducible refine LeO.bind ?_ (fun _ => ?_))
   | exact ih0 _ _ _
   | exact ih1 _ _ _ _
   | exact lambrequinref09_In.mono _ _ _
   | exact LeO.none _
   | refine LeO.ite ?_ ?_
   | refine LeO.bind ?_ (fun _ => ?_)
  ·intro y0 y1 y2 y3
   unfold lambrequinref09_Sorted.l1
   repeat' first
   | (with_reducible exact ih0 _ _ _)
   | (with_reducible exact ih1 _ _ _ _)
   | (with_reducible exact lambrequinref09_In.mono _ _ _)
   | (with_reducible exact LeO.refl _)
   | (with_reducible exact LeO.none _)
   | (with_reducible refine LeO.ite ?_ ?_)
   | (with_reducible refine LeO.bind ?_ (fun _ => ?_))
   | exact ih0 _ _ _
   | exact ih1 _ _ _ _
   | exact lambrequinref09_In.mono _ _ _
   | exact LeO.none _
   | refine LeO.ite ?_ ?_
   | refine LeO.bind ?_ (fun _ => ?_)
theorem lambrequinref09_Sorted.mono : ∀ a0 k, LeO (lambrequinref09_Sorted.f k a0) (lambrequinref09_Sorted.f (k + 1) a0) := by
 intro a0 k
 obtain ⟨ih0, ih1⟩ := lambrequinref09_Sorted.mono_l k
 unfold lambrequinref09_Sorted.f
 repeat' first
   | (with_reducible exact ih0 _ _ _)
   | (with_reducible exact ih1 _ _ _ _)
   | (with_reducible exact lambrequinref09_In.mono _ _ _)
   | (with_reducible exact LeO.refl _)
   | (with_reducible exact LeO.none _)
   | (with_reducible refine LeO.ite ?_ ?_)
   | (with_reducible refine LeO.bind ?_ (fun _ => ?_))
   | exact ih0 _ _ _
   | exact ih1 _ _ _ _
   | exact lambrequinref09_In.mono _ _ _
   | exact LeO.none _
   | refine LeO.ite ?_ ?_
   | refine LeO.bind ?_ (fun _ => ?_)
set_option maxHeartbeats 8000000 in
set_option maxRecDepth 100000 in
theorem lambrequinref09_Sorted.calls (k : Nat) (A0 : Option Addr) (c0 : Nat) (l0 : List ByteArray) (r : List ByteArray) (w : World) (hr0 : Kd.C Kd.string w A0 l0.length l0) (hc0 : l0.length ≤ c0) (h : lambrequinref09_Sorted.f k l0 = some r) :
  Calls Try.prog 53 #[.slice A0 l0.length c0] w fun e w' => ∃ v0_ : Value, e = .returned (v0_) ∧ Kd.R Kd.string 9 w' w.heap.size (fun _ => True) v0_ r ∧ Below w.heap.size w w' := by
 have HR0 := am hr0
 have HC0 := am hc0
 clear hr0 hc0
 have HB := am (Below.refl w.heap.size w)
 have H : (lambrequinref09_Sorted.l0 k l0 ([] : List ByteArray) 0) = some r := h
 clear h
 have H' := am H
 clear H
 go_enter Try.func53, Try.ntmps53
 go_wp2
 repeat (go_quiet (fail); try go_wp2)
 go_loopg [3, 4] k (fun kq v3 v4 w' => ∃ (x3_1 : List ByteArray) (x4_1 : Int), v4 = .int .i64 x4_1 ∧ Aside0 (lambrequinref09_Sorted.l0 kq l0 x3_1 x4_1 = some r) ∧ Aside0 (kq ≤ k) ∧ Aside0 (Kd.R Kd.string 9 w' w.heap.size (fun _ => True) v3 x3_1) ∧ Aside0 (Below w.heap.size w w'))
 case atStart => exact ⟨(([] : List ByteArray)), (0), (by first | rfl | (simp; done) | (simp [*]; done)), H', ⟨Nat.le_refl _⟩, ⟨by first | exact Kd.R_nil _ _ _ _ _ | exact Kd.N_nil _ _ _ _ _ | exact Kd.V_nil _ _ _ _ _ | exact Kd.Q_nil _ _ _ _ _ | exact Kd.S_nil _ _ _ _ _⟩, ⟨by repeat (first | (with_reducible first | exact HB.out | apply lA | apply lN | apply lD) | exact HB.out)⟩⟩
 case round =>
  clear H'
  obtain ⟨x3_1, x4_1, rfl, HA, HK1, HO_3, HB⟩ := hrel
  cases gk with
  | zero => exact absurd HA.out (by simp [lambrequinref09_Sorted.l0])
  | succ k1 =>
   have H := HA.out
   clear HA
   simp only [lambrequinref09_Sorted.l0] at H
   by_cases c2 : x4_1 < (l0.length : Int)
   ·rw [if_pos c2] at H
    have c2b0 : decide (x4_1 < (l0.length : Int)) = true := decide_eq_true c2
    clear c2
    by_cases c3 : 0 ≤ x4_1
    ·rw [if_pos c3] at H
     have c3b0 : decide (0 ≤ x4_1) = true := decide_eq_true c3
     clear c3
     replace H := Option.bind_eq_some_iff.mp H
     obtain ⟨t102, A40, H⟩ := H
     replace H : (if t102 = true then (lambrequinref09_Sorted.l0 k1 l0 x3_1 (wrap64 (x4_1 + 1))) else (lambrequinref09_Sorted.l1 k1 l0 x3_1 x4_1 (x3_1.length : Int))) = some r := H
     have A4 := am A40
     clear A40
     by_cases c5 : t102 = true
     ·subst c5
      have H1 : (lambrequinref09_Sorted.l0 k1 l0 x3_1 (wrap64 (x4_1 + 1))) = some r := by rw [if_pos rfl] at H; exact H
      clear H
      have H := H1
      clear H1
      have H' := am H
      clear H
      have p101 : 0 ≤ (x4_1 : Int) := of_decide_eq_true (by first | (with_reducible assumption) | assumption)
      have q101 : x4_1 < (l0.length : Int) := of_decide_eq_true (by first | (with_reducible assumption) | assumption)
      obtain ⟨ad101, e101, hx101_0⟩ := Kd.at_string HR0.out x4_1 p101 q101
      cases e101
      replace hx101_0 := (HB.out.cell (blt_ hx101_0)).trans hx101_0
      replace p101 := eq_true p101
      replace q101 := eq_true q101
      obtain ⟨Ao6, co6, eo6⟩ := Kd.R_slice HO_3.out
      subst eo6
      go_wp2_with (first | (go_at_call 32; (with_reducible refine (lambrequinref09_In.calls k1 _ _ x3_1 (rdOf ByteArray.empty l0 x4_1) true _ ?side1 ?side2 A4.out).mono ?_); (case side1 => repeat (first | exact (Kd.R_reads' HO_3.out).2.2 | (with_reducible refine Kd.C_alloc ?_ _) | (with_reducible refine Kd.C_drewN ?_ _) | (with_reducible refine Kd.C_drew ?_))); (case side2 => exact (Kd.R_reads' HO_3.out).2.1); rintro e w' ⟨rfl, ⟨nd, rfl⟩⟩; (try first | exact ⟨rfl, _, World.drewN_drewN _ _ _⟩ | exact ⟨rfl, _, Eq.trans (World.drewN_drewN _ _ _) (congrArg (World.drewN _) (Nat.add_assoc _ _ _))⟩)))
      repeat (go_quiet (first | (go_at_call 32; (with_reducible refine (lambrequinref09_In.calls k1 _ _ x3_1 (rdOf ByteArray.empty l0 x4_1) true _ ?side1 ?side2 A4.out).mono ?_); (case side1 => repeat (first | exact (Kd.R_reads' HO_3.out).2.2 | (with_reducible refine Kd.C_alloc ?_ _) | (with_reducible refine Kd.C_drewN ?_ _) | (with_reducible refine Kd.C_drew ?_))); (case side2 => exact (Kd.R_reads' HO_3.out).2.1); rintro e w' ⟨rfl, ⟨nd, rfl⟩⟩; (try first | exact ⟨rfl, _, World.drewN_drewN _ _ _⟩ | exact ⟨rfl, _, Eq.trans (World.drewN_drewN _ _ _) (congrArg (World.drewN _) (Nat.add_assoc _ _ _))⟩))); try go_wp2_with (first | (go_at_call 32; (with_reducible refine (lambrequinref09_In.calls k1 _ _ x3_1 (rdOf ByteArray.empty l0 x4_1) true _ ?side1 ?side2 A4.out).mono ?_); (case side1 => repeat (first | exact (Kd.R_reads' HO_3.out).2.2 | (with_reducible refine Kd.C_alloc ?_ _) | (with_reducible refine Kd.C_drewN ?_ _) | (with_reducible refine Kd.C_drew ?_))); (case side2 => exact (Kd.R_reads' HO_3.out).2.1); rintro e w' ⟨rfl, ⟨nd, rfl⟩⟩; (try first | exact ⟨rfl, _, World.drewN_drewN _ _ _⟩ | exact ⟨rfl, _, Eq.trans (World.drewN_drewN _ _ _) (congrArg (World.drewN _) (Nat.add_assoc _ _ _))⟩))))
      go_roundg k1
      case measure => have := HK1.out; omega
      case rel => exact ⟨(x3_1), (wrap64 (x4_1 + 1)), (by first | rfl | (simp; done) | (simp [*]; done)), H', ⟨by have := HK1.out; omega⟩, ⟨by (with_reducible repeat (first | apply Ra | apply Rn | apply Rd)); exact HO_3.out⟩, ⟨by repeat (first | (with_reducible first | exact HB.out | apply lA | apply lN | apply lD) | exact HB.out)⟩⟩
     ·replace c5 := Bool.eq_false_iff.mpr c5
      subst c5
      have H1 : (lambrequinref09_Sorted.l1 k1 l0 x3_1 x4_1 (x3_1.length : Int)) = some r := by rw [if_neg (show ¬ (false = true) by decide)] at H; exact H
      clear H
      have H := H1
      clear H1
      have H' := am H
      clear H
      have p101 : 0 ≤ (x4_1 : Int) := of_decide_eq_true (by first | (with_reducible assumption) | assumption)
      have q101 : x4_1 < (l0.length : Int) := of_decide_eq_true (by first | (with_reducible assumption) | assumption)
      obtain ⟨ad101, e101, hx101_0⟩ := Kd.at_string HR0.out x4_1 p101 q101
      cases e101
      replace hx101_0 := (HB.out.cell (blt_ hx101_0)).trans hx101_0
      replace p101 := eq_true p101
      replace q101 := eq_true q101
      obtain ⟨Ao7, co7, eo7⟩ := Kd.R_slice HO_3.out
      subst eo7
      go_wp2_with (first | (go_at_call 32; (with_reducible refine (lambrequinref09_In.calls k1 _ _ x3_1 (rdOf ByteArray.empty l0 x4_1) false _ ?side1 ?side2 A4.out).mono ?_); (case side1 => repeat (first | exact (Kd.R_reads' HO_3.out).2.2 | (with_reducible refine Kd.C_alloc ?_ _) | (with_reducible refine Kd.C_drewN ?_ _) | (with_reducible refine Kd.C_drew ?_))); (case side2 => exact (Kd.R_reads' HO_3.out).2.1); rintro e w' ⟨rfl, ⟨nd, rfl⟩⟩; (try first | exact ⟨rfl, _, World.drewN_drewN _ _ _⟩ | exact ⟨rfl, _, Eq.trans (World.drewN_drewN _ _ _) (congrArg (World.drewN _) (Nat.add_assoc _ _ _))⟩)))
      repeat (go_quiet (first | (go_at_call 32; (with_reducible refine (lambrequinref09_In.calls k1 _ _ x3_1 (rdOf ByteArray.empty l0 x4_1) false _ ?side1 ?side2 A4.out).mono ?_); (case side1 => repeat (first | exact (Kd.R_reads' HO_3.out).2.2 | (with_reducible refine Kd.C_alloc ?_ _) | (with_reducible refine Kd.C_drewN ?_ _) | (with_reducible refine Kd.C_drew ?_))); (case side2 => exact (Kd.R_reads' HO_3.out).2.1); rintro e w' ⟨rfl, ⟨nd, rfl⟩⟩; (try first | exact ⟨rfl, _, World.drewN_drewN _ _ _⟩ | exact ⟨rfl, _, Eq.trans (World.drewN_drewN _ _ _) (congrArg (World.drewN _) (Nat.add_assoc _ _ _))⟩))); try go_wp2_with (first | (go_at_call 32; (with_reducible refine (lambrequinref09_In.calls k1 _ _ x3_1 (rdOf ByteArray.empty l0 x4_1) false _ ?side1 ?side2 A4.out).mono ?_); (case side1 => repeat (first | exact (Kd.R_reads' HO_3.out).2.2 | (with_reducible refine Kd.C_alloc ?_ _) | (with_reducible refine Kd.C_drewN ?_ _) | (with_reducible refine Kd.C_drew ?_))); (case side2 => exact (Kd.R_reads' HO_3.out).2.1); rintro e w' ⟨rfl, ⟨nd, rfl⟩⟩; (try first | exact ⟨rfl, _, World.drewN_drewN _ _ _⟩ | exact ⟨rfl, _, Eq.trans (World.drewN_drewN _ _ _) (congrArg (World.drewN _) (Nat.add_assoc _ _ _))⟩))))
      go_loopg [5] k1 (fun kq v5 w' => ∃ (x5_2 : Int), v5 = .int .i64 x5_2 ∧ Aside0 (lambrequinref09_Sorted.l1 kq l0 x3_1 x4_1 x5_2 = some r) ∧ Aside0 (kq ≤ k1) ∧ Aside0 (Kd.R Kd.string 9 w' w.heap.size (fun _ => True) (.slice Ao7 x3_1.length co7) x3_1) ∧ Aside0 (Below w.heap.size w w'))
      case atStart => exact ⟨((x3_1.length : Int)), (by first | rfl | (simp; done) | (simp [*]; done)), H', ⟨Nat.le_refl _⟩, ⟨by (with_reducible repeat (first | apply Ra | apply Rn | apply Rd)); exact HO_3.out⟩, ⟨by repeat (first | (with_reducible first | exact HB.out | apply lA | apply lN | apply lD) | exact HB.out)⟩⟩
      case round =>
       clear H'
       try clear p1
       try clear q1
       try clear hx1
       try clear c2
       try clear c2b0
       try clear p2
       try clear c3
       try clear c3b0
       try clear c5
       try clear p6
       try clear hx101_0
       try clear p101
       try clear q101
       obtain ⟨x5_2, rfl, HA, HK2, HO_3, HB⟩ := hrel
       cases gk with
       | zero => exact absurd HA.out (by simp [lambrequinref09_Sorted.l1])
       | succ k2 =>
        have H := HA.out
        clear HA
        simp only [lambrequinref09_Sorted.l1] at H
        by_cases c8 : x5_2 > 0
        ·rw [if_pos c8] at H
         have c8b0 : decide (0 < x5_2) = true := decide_eq_true c8
         clear c8
         obtain ⟨ji9, hji9⟩ : ∃ j_ : Int, (wrap64 (x5_2 - 1)) = j_ := ⟨_, rfl⟩
         replace H : (if 0 ≤ (ji9) then (if (ji9) < (x3_1.length : Int) then (if 0 ≤ x4_1 then (if x4_1 < (l0.length : Int) then (if (Op.bytesLess ((rdOf ByteArray.empty l0 x4_1).toList) ((rdOf ByteArray.empty x3_1 (ji9)).toList)) = true then (lambrequinref09_Sorted.l1 k2 l0 x3_1 x4_1 ji9) else ((some (([] : List ByteArray) : List ByteArray)).bind fun y105 => (if 0 ≤ x5_2 then (if x5_2 ≤ (x3_1.length : Int) then ((some (x3_1.take (x5_2 : Int).toNat : List ByteArray)).bind fun y108 => (if y105.length + y108.length < 8796093022208 then ((some (y105 ++ y108 : List ByteArray)).bind fun y112 => (if y112.length < 8796093022208 then ((some (y112 ++ [rdOf ByteArray.empty l0 x4_1] : List ByteArray)).bind fun y116 => ((some (x3_1.drop (x5_2 : Int).toNat : List ByteArray)).bind fun y119 => (if y116.length + y119.length < 8796093022208 then (lambrequinref09_Sorted.l0 k2 l0 (y116 ++ y119) (wrap64 (x4_1 + 1))) else (none)))) else (none))) else (none))) else (none)) else (none)))) else (none)) else (none)) else (none)) else (none)) = some r := by first | (rw [hji9] at H; exact H) | (simp only [hji9] at H ⊢; exact H)
         have hji9w : (IntKind.i64.wrap (x5_2 - 1)) = ji9 := (i64_w _).trans hji9
         by_cases c10 : 0 ≤ (ji9)
         ·rw [if_pos c10] at H
          have c10b0 : decide (0 ≤ (ji9)) = true := decide_eq_true c10
          clear c10
          by_cases c11 : (ji9) < (x3_1.length : Int)
          ·rw [if_pos c11] at H
           have c11b0 : decide ((ji9) < (x3_1.length : Int)) = true := decide_eq_true c11
           clear c11
           by_cases c12 : 0 ≤ x4_1
           ·rw [if_pos c12] at H
            have c12b0 : decide (0 ≤ x4_1) = true := decide_eq_true c12
            clear c12
            by_cases c13 : x4_1 < (l0.length : Int)
            ·rw [if_pos c13] at H
             have c13b0 : decide (x4_1 < (l0.length : Int)) = true := decide_eq_true c13
             clear c13
             by_cases c14 : (Op.bytesLess ((rdOf ByteArray.empty l0 x4_1).toList) ((rdOf ByteArray.empty x3_1 (ji9)).toList)) = true
             ·rw [if_pos c14] at H
              have c14b0 : (Op.bytesLess ((rdOf ByteArray.empty l0 x4_1).toList) ((rdOf ByteArray.empty x3_1 (ji9)).toList)) = true := c14
              clear c14
              have H' := am H
              clear H
              have p103 : 0 ≤ ((ji9) : Int) := of_decide_eq_true (by first | (with_reducible assumption) | assumption)
              have q103 : (ji9) < (x3_1.length : Int) := of_decide_eq_true (by first | (with_reducible assumption) | assumption)
              obtain ⟨ad103, e103, hx103_0⟩ := Kd.at_string (Kd.R_reads' HO_3.out).2.2 (ji9) p103 q103
              cases e103
              replace p103 := eq_true p103
              replace q103 := eq_true q103
              have p104 : 0 ≤ (x4_1 : Int) := of_decide_eq_true (by first | (with_reducible assumption) | assumption)
              have q104 : x4_1 < (l0.length : Int) := of_decide_eq_true (by first | (with_reducible assumption) | assumption)
              obtain ⟨ad104, e104, hx104_0⟩ := Kd.at_string HR0.out x4_1 p104 q104
              obtain rfl : ad101 = ad104 := (by injection e104)
              replace hx104_0 := (HB.out.cell (blt_ hx104_0)).trans hx104_0
              replace p104 := eq_true p104
              replace q104 := eq_true q104
              go_wp2
              repeat (go_quiet (fail); try go_wp2)
              go_roundg k2
              case measure => have := HK1.out; have := HK2.out; omega
              case rel => exact ⟨(ji9), (by first | rfl | (simp; done) | (simp only [← hji9] <;> (first | rfl | simp)) | (simp [*]; done)), H', ⟨by have := HK1.out; have := HK2.out; omega⟩, ⟨by (with_reducible repeat (first | apply Ra | apply Rn | apply Rd)); exact HO_3.out⟩, ⟨by repeat (first | (with_reducible first | exact HB.out | apply lA | apply lN | apply lD) | exact HB.out)⟩⟩
             ·rw [if_neg c14] at H
              have c14b0 : (Op.bytesLess ((rdOf ByteArray.empty l0 x4_1).toList) ((rdOf ByteArray.empty x3_1 (ji9)).toList)) = false := by simpa using c14
              clear c14
              obtain ⟨y105, hy105⟩ : ∃ y_ : List ByteArray, y_ = (([] : List ByteArray)) := ⟨_, rfl⟩
              replace H : (if 0 ≤ x5_2 then (if x5_2 ≤ (x3_1.length : Int) then ((some (x3_1.take (x5_2 : Int).toNat : List ByteArray)).bind fun y108 => (if y105.length + y108.length < 8796093022208 then ((some (y105 ++ y108 : List ByteArray)).bind fun y112 => (if y112.length < 8796093022208 then ((some (y112 ++ [rdOf ByteArray.empty l0 x4_1] : List ByteArray)).bind fun y116 => ((some (x3_1.drop (x5_2 : Int).toNat : List ByteArray)).bind fun y119 => (if y116.length + y119.length < 8796093022208 then (lambrequinref09_Sorted.l0 k2 l0 (y116 ++ y119) (wrap64 (x4_1 + 1))) else (none)))) else (none))) else (none))) else (none)) else (none)) = some r := by first | (rw [hy105]; with_reducible exact H) | (have H2_ := (Option.bind_some _ _).symm.trans H; rw [hy105]; with_reducible exact H2_) | (have H2_ := (Option.bind_some _ _).symm.trans H; with_reducible exact H2_) | with_reducible exact H | (rw [hy105]; exact H) | exact H
              have Ny105 := am hy105
              clear hy105
              by_cases c15 : 0 ≤ x5_2
              ·rw [if_pos c15] at H
               have c15b0 := eq_true c15
               have c15b1 : decide (0 ≤ x5_2) = true := decide_eq_true c15
               clear c15
               by_cases c16 : x5_2 ≤ (x3_1.length : Int)
               ·rw [if_pos c16] at H
                have c16b0 := eq_true c16
                have c16b1 : decide (x5_2 ≤ (x3_1.length : Int)) = true := decide_eq_true c16
                clear c16
                obtain ⟨y108, hy108⟩ : ∃ y_ : List ByteArray, y_ = (x3_1.take (x5_2 : Int).toNat) := ⟨_, rfl⟩
                replace H : (if y105.length + y108.length < 8796093022208 then ((some (y105 ++ y108 : List ByteArray)).bind fun y112 => (if y112.length < 8796093022208 then ((some (y112 ++ [rdOf ByteArray.empty l0 x4_1] : List ByteArray)).bind fun y116 => ((some (x3_1.drop (x5_2 : Int).toNat : List ByteArray)).bind fun y119 => (if y116.length + y119.length < 8796093022208 then (lambrequinref09_Sorted.l0 k2 l0 (y116 ++ y119) (wrap64 (x4_1 + 1))) else (none)))) else (none))) else (none)) = some r := by first | (rw [hy108]; with_reducible exact H) | (have H2_ := (Option.bind_some _ _).symm.trans H; rw [hy108]; with_reducible exact H2_) | (have H2_ := (Option.bind_some _ _).symm.trans H; with_reducible exact H2_) | with_reducible exact H | (rw [hy108]; exact H) | exact H
                have Ny108 := am hy108
                clear hy108
                by_cases c17 : y105.length + y108.length < 8796093022208
                ·rw [if_pos c17] at H
                 have LMc17 := am c17
                 clear c17
                 obtain ⟨y112, hy112⟩ : ∃ y_ : List ByteArray, y_ = (y105 ++ y108) := ⟨_, rfl⟩
                 replace H : (if y112.length < 8796093022208 then ((some (y112 ++ [rdOf ByteArray.empty l0 x4_1] : List ByteArray)).bind fun y116 => ((some (x3_1.drop (x5_2 : Int).toNat : List ByteArray)).bind fun y119 => (if y116.length + y119.length < 8796093022208 then (lambrequinref09_Sorted.l0 k2 l0 (y116 ++ y119) (wrap64 (x4_1 + 1))) else (none)))) else (none)) = some r := by first | (rw [hy112]; with_reducible exact H) | (have H2_ := (Option.bind_some _ _).symm.trans H; rw [hy112]; with_reducible exact H2_) | (have H2_ := (Option.bind_some _ _).symm.trans H; with_reducible exact H2_) | with_reducible exact H | (rw [hy112]; exact H) | exact H
                 have Ny112 := am hy112
                 clear hy112
                 by_cases c18 : y112.length < 8796093022208
                 ·rw [if_pos c18] at H
                  have LMc18 := am c18
                  clear c18
                  obtain ⟨y116, hy116⟩ : ∃ y_ : List ByteArray, y_ = (y112 ++ [rdOf ByteArray.empty l0 x4_1]) := ⟨_, rfl⟩
                  replace H : ((some (x3_1.drop (x5_2 : Int).toNat : List ByteArray)).bind fun y119 => (if y116.length + y119.length < 8796093022208 then (lambrequinref09_Sorted.l0 k2 l0 (y116 ++ y119) (wrap64 (x4_1 + 1))) else (none))) = some r := by first | (rw [hy116]; with_reducible exact H) | (have H2_ := (Option.bind_some _ _).symm.trans H; rw [hy116]; with_reducible exact H2_) | (have H2_ := (Option.bind_some _ _).symm.trans H; with_reducible exact H2_) | with_reducible exact H | (rw [hy116]; exact H) | exact H
                  have Ny116 := am hy116
                  clear hy116
                  have c19b0 := eq_true (of_decide_eq_true (by first | (with_reducible assumption) | assumption) : 0 ≤ x5_2)
                  have c20b0 := eq_true (of_decide_eq_true (by first | (with_reducible assumption) | assumption) : x5_2 ≤ (x3_1.length : Int))
                  obtain ⟨y119, hy119⟩ : ∃ y_ : List ByteArray, y_ = (x3_1.drop (x5_2 : Int).toNat) := ⟨_, rfl⟩
                  replace H : (if y116.length + y119.length < 8796093022208 then (lambrequinref09_Sorted.l0 k2 l0 (y116 ++ y119) (wrap64 (x4_1 + 1))) else (none)) = some r := by first | (rw [hy119]; with_reducible exact H) | (have H2_ := (Option.bind_some _ _).symm.trans H; rw [hy119]; with_reducible exact H2_) | (have H2_ := (Option.bind_some _ _).symm.trans H; with_reducible exact H2_) | with_reducible exact H | (rw [hy119]; exact H) | exact H
                  have Ny119 := am hy119
                  clear hy119
                  by_cases c21 : y116.length + y119.length < 8796093022208
                  ·rw [if_pos c21] at H
                   have LMc21 := am c21
                   clear c21
                   obtain ⟨y123, hy123⟩ : ∃ y_ : List ByteArray, y_ = (y116 ++ y119) := ⟨_, rfl⟩
                   replace H : (lambrequinref09_Sorted.l0 k2 l0 y123 (wrap64 (x4_1 + 1))) = some r := by first | (rw [hy123]; with_reducible exact H) | (have H2_ := (Option.bind_some _ _).symm.trans H; rw [hy123]; with_reducible exact H2_) | (have H2_ := (Option.bind_some _ _).symm.trans H; with_reducible exact H2_) | with_reducible exact H | (rw [hy123]; exact H) | exact H
                   have Ny123 := am hy123
                   clear hy123
                   have H' := am H
                   clear H
                   have p103 : 0 ≤ ((ji9) : Int) := of_decide_eq_true (by first | (with_reducible assumption) | assumption)
                   have q103 : (ji9) < (x3_1.length : Int) := of_decide_eq_true (by first | (with_reducible assumption) | assumption)
                   obtain ⟨ad103, e103, hx103_0⟩ := Kd.at_string (Kd.R_reads' HO_3.out).2.2 (ji9) p103 q103
                   cases e103
                   replace p103 := eq_true p103
                   replace q103 := eq_true q103
                   have p104 : 0 ≤ (x4_1 : Int) := of_decide_eq_true (by first | (with_reducible assumption) | assumption)
                   have q104 : x4_1 < (l0.length : Int) := of_decide_eq_true (by first | (with_reducible assumption) | assumption)
                   obtain ⟨ad104, e104, hx104_0⟩ := Kd.at_string HR0.out x4_1 p104 q104
                   obtain rfl : ad101 = ad104 := (by injection e104)
                   replace hx104_0 := (HB.out.cell (blt_ hx104_0)).trans hx104_0
                   replace p104 := eq_true p104
                   replace q104 := eq_true q104
                   go_wp2_with (first | ((with_reducible refine gate_dst (N := 37) rfl ?_); refine Kd.R_lit Kd.string _ 9 ?hg (N := 37) ?hd (xs := ([] : List ByteArray)) (inner := []) (ok := fun _ => True) (okp := fun _ => True) ?hr ?hp (fun _ hk => hk) trivial (Below.refl _ _) (Nat.le_refl _) (by simp) ?_; (case hd => rfl); (case hg => rfl); (case hr => first | (go_simp; done) | (go_simp; rfl)); (case hp => exact (Reps.none _ _)); intro v106 w22 ho23 hb hg_ hnew_; clear hg_ hnew_; (first | rw [← Ny105.out] at ho23 | (simp only [Int.reduceToNat] at ho23; rw [← Ny105.out] at ho23)); have HO107 := am (Kd.R_lower (Kd.R_new' ho23 (Kd.R_lt (by (with_reducible repeat (first | apply Ra | apply Rn | apply Rd)); exact HO_3.out))) (below_size (by repeat (first | (with_reducible first | exact HB.out | apply lA | apply lN | apply lD) | exact HB.out)))); replace HO_3 := am (Kd.R_elder' (by (with_reducible repeat (first | apply Ra | apply Rn | apply Rd)); exact HO_3.out) (Kd.R_base ho23) hb); replace HB := am (below_step (by repeat (first | (with_reducible first | exact HB.out | apply lA | apply lN | apply lD) | exact HB.out)) hb); clear hb ho23; have q24 : (x5_2 : Int) ≤ ((x3_1.length : Int) : Int) := of_decide_eq_true (by first | (with_reducible assumption) | assumption); obtain ⟨i024, hi024, _, hsz24, _⟩ := info_parts info9; have hroom24 : x3_1.length ≤ co7 := (Kd.R_reads' HO_3.out).2.1; have hC24 : Kd.C Kd.string _ (some ad103) x3_1.length x3_1 := (Kd.R_reads' HO_3.out).2.2; have hcut24 := cut_to (P := Try.prog) 28 9 .i64 Try.underlying28 hi024 (some ad103) x3_1.length co7 x5_2 (of_decide_eq_true (by first | (with_reducible assumption) | assumption)) q24 hroom24; have hr24 := Kd.C_take (m := (x5_2 : Int).toNat) hC24 (by omega); have hy24 : y108.length = (x5_2 : Int).toNat := (by rw [Ny108.out, List.length_take]; omega); rw [← Ny108.out] at hr24; rw [← hy24] at hcut24; have HR111 := am hr24; have HC111 := am (show y108.length ≤ co7 from by omega); clear hr24 hC24 hroom24 hi024 hsz24; have KY24 := am hy24; clear hy24; have KL24 := am (show (x5_2 : Int).toNat ≤ x3_1.length from by omega); replace q24 := eq_true q24) | ((with_reducible refine gate_builtin (b := .append) (xs := #[.tmp 37, .tmp 40]) rfl ?_); at_builtin; refine Kd.R_append_rows Kd.string (w0 := w) w.heap.size rfl (.tmp 37) (.tmp 40) 28 9 (.string ⟨#[]⟩) 16 rfl Try.underlying28 info9 rfl (by decide) (by omega) v106 y105 y108 _ _ _ (fun k_ => some k_ ≠ (.slice (some ad103) x3_1.length co7 : Value).ownBlock) (fun _ => False) rfl rfl ?aO ?aR (fun _ _ h => h) (fun _ h => h.elim) ?aF ?aB ?aS ?aL ?_; (case aR => repeat (first | exact (by repeat (first | (with_reducible exact HR111.out) | (with_reducible refine Kd.C_alloc ?_ _) | (with_reducible refine Kd.C_drewN ?_ _) | (with_reducible refine Kd.C_drew ?_) | exact HR111.out)) | (with_reducible refine Kd.C_alloc ?_ _) | (with_reducible refine Kd.C_drewN ?_ _) | (with_reducible refine Kd.C_drew ?_))); (case aB => exact (by repeat (first | (with_reducible first | exact HB.out | apply lA | apply lN | apply lD) | exact HB.out))); (case aF => exact (fun k_ hk => Kd.fresh' (Kd.R_lt (by (with_reducible repeat (first | apply Ra | apply Rn | apply Rd)); exact HO_3.out)) k_ hk)); (case aO => exact (by (with_reducible repeat (first | apply Ra | apply Rn | apply Rd)); exact Kd.R_mono HO107.out (fun _ hk => hk.2))); (case aS => exact (below_size (by repeat (first | (with_reducible first | exact HB.out | apply lA | apply lN | apply lD) | exact HB.out)))); (case aL => have := LMc17.out; omega); intro v113 w25 ho hb hg hat; rw [← Ny112.out] at ho; replace HB := am (hb); replace HR111 := am ((show Kd.C Kd.string w25 (some ad103) y108.length y108 from by rw [Ny108.out]; exact Kd.C_take (m := (x5_2 : Int).toNat) ((Kd.R_reads' (Kd.R_after (ok := (fun _ => True)) (by (with_reducible repeat (first | apply Ra | apply Rn | apply Rd)); exact HO_3.out) hg hat)).2.2) KL24.out)); replace HO_3 := am (Kd.R_after (ok := (fun _ => True)) (by (with_reducible repeat (first | apply Ra | apply Rn | apply Rd)); exact HO_3.out) hg hat); have HO114 := am (ho); clear HO107; clear ho hb hg hat; have p115 : 0 ≤ (x4_1 : Int) := of_decide_eq_true (by first | (with_reducible assumption) | assumption); have q115 : x4_1 < (l0.length : Int) := of_decide_eq_true (by first | (with_reducible assumption) | assumption); obtain ⟨ad115, e115, hx115_0⟩ := Kd.at_string HR0.out x4_1 p115 q115; obtain rfl : ad101 = ad115 := (by injection e115); replace hx115_0 := (HB.out.cell (blt_ hx115_0)).trans hx115_0; replace p115 := eq_true p115; replace q115 := eq_true q115) | ((with_reducible refine gate_builtin (b := .append) (xs := #[.tmp 42, .tmp 47]) rfl ?_); at_builtin; refine Kd.R_append Kd.string (w0 := w) w.heap.size rfl (.tmp 42) (.tmp 47) 28 9 (.string ⟨#[]⟩) 16 rfl Try.underlying28 info9 rfl (by decide) (by omega) v113 y112 (rdOf ByteArray.empty l0 x4_1) [.string (rdOf ByteArray.empty l0 x4_1)] (fun k_ => some k_ ≠ (.slice (some ad103) x3_1.length co7 : Value).ownBlock) (fun _ => False) rfl rfl ?aP (fun _ hk => hk.elim) ?aF ?aO ?aB ?aS ?aL ?_; (case aP => exact rfl); (case aB => exact (by repeat (first | (with_reducible first | exact HB.out | apply lA | apply lN | apply lD) | exact HB.out))); (case aF => exact (fun k_ hk => Kd.fresh' (Kd.R_lt (by (with_reducible repeat (first | apply Ra | apply Rn | apply Rd)); exact HO_3.out)) k_ hk)); (case aO => exact (by (with_reducible repeat (first | apply Ra | apply Rn | apply Rd)); exact HO114.out)); (case aS => exact (below_size (by repeat (first | (with_reducible first | exact HB.out | apply lA | apply lN | apply lD) | exact HB.out)))); (case aL => have := LMc18.out; omega); intro v117 w26 ho hb hg hat; rw [← Ny116.out] at ho; replace HB := am (hb); replace HR111 := am ((show Kd.C Kd.string w26 (some ad103) y108.length y108 from by rw [Ny108.out]; exact Kd.C_take (m := (x5_2 : Int).toNat) ((Kd.R_reads' (Kd.R_after (ok := (fun _ => True)) (by (with_reducible repeat (first | apply Ra | apply Rn | apply Rd)); exact HO_3.out) hg hat)).2.2) KL24.out)); replace HO_3 := am (Kd.R_after (ok := (fun _ => True)) (by (with_reducible repeat (first | apply Ra | apply Rn | apply Rd)); exact HO_3.out) hg hat); have HO118 := am (ho); clear HO114; clear ho hb hg hat; have q27 : (x5_2 : Int) ≤ ((x3_1.length : Int) : Int) := of_decide_eq_true (by first | (with_reducible assumption) | assumption); obtain ⟨i027, hi027, _, hsz27, _⟩ := info_parts info9; have hroom27 : x3_1.length ≤ co7 := (Kd.R_reads' HO_3.out).2.1; have hC27 : Kd.C Kd.string _ (some ad103) x3_1.length x3_1 := (Kd.R_reads' HO_3.out).2.2; have q027 : (0 : Int) ≤ (x5_2 : Int) := of_decide_eq_true (by first | (with_reducible assumption) | assumption); have hcut27 := cut_from (P := Try.prog) 28 9 .i64 Try.underlying28 hi027 1 hsz27 (some ad103) x3_1.length co7 x5_2 q027 q27; have hr27 := Kd.C_drop (m := (x5_2 : Int).toNat) (c := co7) hC27 (by omega) hroom27; obtain ⟨A27, hA27⟩ : ∃ A1, A1 = (if co7 = (x5_2 : Int).toNat then (some ad103) else ((some ad103) : Option Addr).map (·.add ((x5_2 : Int).toNat * 1))) := ⟨_, rfl⟩; obtain ⟨c27, hc27⟩ : ∃ c1, c1 = co7 - (x5_2 : Int).toNat := ⟨_, rfl⟩; have hy27 : y119.length = x3_1.length - (x5_2 : Int).toNat := (by rw [Ny119.out, List.length_drop] <;> omega); rw [show (x3_1).drop (x5_2 : Int).toNat = y119 from Ny119.out.symm] at hr27; replace hr27 : Kd.C Kd.string _ A27 y119.length y119 := (by rw [hA27]; exact hr27); rw [← hy27, ← hA27, ← hc27] at hcut27; have HR122 := am hr27; have HC122 := am (show y119.length ≤ c27 from by rw [hy27, hc27]; exact Nat.sub_le_sub_right hroom27 _); clear hr27 hC27 hroom27 hi027 hsz27 hc27; have KY27 := am hy27; have KA27 := am hA27; clear hy27 hA27; have KL27 := am (show (x5_2 : Int).toNat ≤ x3_1.length from by omega); replace q27 := eq_true q27) | ((with_reducible refine gate_builtin (b := .append) (xs := #[.tmp 49, .tmp 52]) rfl ?_); at_builtin; refine Kd.R_append_rows Kd.string (w0 := w) w.heap.size rfl (.tmp 49) (.tmp 52) 28 9 (.string ⟨#[]⟩) 16 rfl Try.underlying28 info9 rfl (by decide) (by omega) v117 y116 y119 _ _ _ (fun k_ => some k_ ≠ (.slice (some ad103) x3_1.length co7 : Value).ownBlock) (fun _ => False) rfl rfl ?aO ?aR (fun _ _ h => h) (fun _ h => h.elim) ?aF ?aB ?aS ?aL ?_; (case aR => repeat (first | exact (by repeat (first | (with_reducible exact HR122.out) | (with_reducible refine Kd.C_alloc ?_ _) | (with_reducible refine Kd.C_drewN ?_ _) | (with_reducible refine Kd.C_drew ?_) | exact HR122.out)) | (with_reducible refine Kd.C_alloc ?_ _) | (with_reducible refine Kd.C_drewN ?_ _) | (with_reducible refine Kd.C_drew ?_))); (case aB => exact (by repeat (first | (with_reducible first | exact HB.out | apply lA | apply lN | apply lD) | exact HB.out))); (case aF => exact (fun k_ hk => Kd.fresh' (Kd.R_lt (by (with_reducible repeat (first | apply Ra | apply Rn | apply Rd)); exact HO_3.out)) k_ hk)); (case aO => exact (by (with_reducible repeat (first | apply Ra | apply Rn | apply Rd)); exact HO118.out)); (case aS => exact (below_size (by repeat (first | (with_reducible first | exact HB.out | apply lA | apply lN | apply lD) | exact HB.out)))); (case aL => have := LMc21.out; omega); intro v124 w28 ho hb hg hat; rw [← Ny123.out] at ho; replace HB := am (hb); replace HR111 := am ((show Kd.C Kd.string w28 (some ad103) y108.length y108 from by rw [Ny108.out]; exact Kd.C_take (m := (x5_2 : Int).toNat) ((Kd.R_reads' (Kd.R_after (ok := (fun _ => True)) (by (with_reducible repeat (first | apply Ra | apply Rn | apply Rd)); exact HO_3.out) hg hat)).2.2) KL24.out)); replace HR122 := am ((show Kd.C Kd.string w28 A27 y119.length y119 from by rw [Ny119.out, KA27.out]; exact Kd.C_drop (m := (x5_2 : Int).toNat) (c := co7) ((Kd.R_reads' (Kd.R_after (ok := (fun _ => True)) (by (with_reducible repeat (first | apply Ra | apply Rn | apply Rd)); exact HO_3.out) hg hat)).2.2) KL27.out ((Kd.R_reads' (Kd.R_after (ok := (fun _ => True)) (by (with_reducible repeat (first | apply Ra | apply Rn | apply Rd)); exact HO_3.out) hg hat)).2.1))); replace HO_3 := am (Kd.R_after (ok := (fun _ => True)) (by (with_reducible repeat (first | apply Ra | apply Rn | apply Rd)); exact HO_3.out) hg hat); have HO125 := am (ho); clear HO118; clear ho hb hg hat))
                   repeat (go_quiet (first | ((with_reducible refine gate_dst (N := 37) rfl ?_); refine Kd.R_lit Kd.string _ 9 ?hg (N := 37) ?hd (xs := ([] : List ByteArray)) (inner := []) (ok := fun _ => True) (okp := fun _ => True) ?hr ?hp (fun _ hk => hk) trivial (Below.refl _ _) (Nat.le_refl _) (by simp) ?_; (case hd => rfl); (case hg => rfl); (case hr => first | (go_simp; done) | (go_simp; rfl)); (case hp => exact (Reps.none _ _)); intro v106 w22 ho23 hb hg_ hnew_; clear hg_ hnew_; (first | rw [← Ny105.out] at ho23 | (simp only [Int.reduceToNat] at ho23; rw [← Ny105.out] at ho23)); have HO107 := am (Kd.R_lower (Kd.R_new' ho23 (Kd.R_lt (by (with_reducible repeat (first | apply Ra | apply Rn | apply Rd)); exact HO_3.out))) (below_size (by repeat (first | (with_reducible first | exact HB.out | apply lA | apply lN | apply lD) | exact HB.out)))); replace HO_3 := am (Kd.R_elder' (by (with_reducible repeat (first | apply Ra | apply Rn | apply Rd)); exact HO_3.out) (Kd.R_base ho23) hb); replace HB := am (below_step (by repeat (first | (with_reducible first | exact HB.out | apply lA | apply lN | apply lD) | exact HB.out)) hb); clear hb ho23; have q24 : (x5_2 : Int) ≤ ((x3_1.length : Int) : Int) := of_decide_eq_true (by first | (with_reducible assumption) | assumption); obtain ⟨i024, hi024, _, hsz24, _⟩ := info_parts info9; have hroom24 : x3_1.length ≤ co7 := (Kd.R_reads' HO_3.out).2.1; have hC24 : Kd.C Kd.string _ (some ad103) x3_1.length x3_1 := (Kd.R_reads' HO_3.out).2.2; have hcut24 := cut_to (P := Try.prog) 28 9 .i64 Try.underlying28 hi024 (some ad103) x3_1.length co7 x5_2 (of_decide_eq_true (by first | (with_reducible assumption) | assumption)) q24 hroom24; have hr24 := Kd.C_take (m := (x5_2 : Int).toNat) hC24 (by omega); have hy24 : y108.length = (x5_2 : Int).toNat := (by rw [Ny108.out, List.length_take]; omega); rw [← Ny108.out] at hr24; rw [← hy24] at hcut24; have HR111 := am hr24; have HC111 := am (show y108.length ≤ co7 from by omega); clear hr24 hC24 hroom24 hi024 hsz24; have KY24 := am hy24; clear hy24; have KL24 := am (show (x5_2 : Int).toNat ≤ x3_1.length from by omega); replace q24 := eq_true q24) | ((with_reducible refine gate_builtin (b := .append) (xs := #[.tmp 37, .tmp 40]) rfl ?_); at_builtin; refine Kd.R_append_rows Kd.string (w0 := w) w.heap.size rfl (.tmp 37) (.tmp 40) 28 9 (.string ⟨#[]⟩) 16 rfl Try.underlying28 info9 rfl (by decide) (by omega) v106 y105 y108 _ _ _ (fun k_ => some k_ ≠ (.slice (some ad103) x3_1.length co7 : Value).ownBlock) (fun _ => False) rfl rfl ?aO ?aR (fun _ _ h => h) (fun _ h => h.elim) ?aF ?aB ?aS ?aL ?_; (case aR => repeat (first | exact (by repeat (first | (with_reducible exact HR111.out) | (with_reducible refine Kd.C_alloc ?_ _) | (with_reducible refine Kd.C_drewN ?_ _) | (with_reducible refine Kd.C_drew ?_) | exact HR111.out)) | (with_reducible refine Kd.C_alloc ?_ _) | (with_reducible refine Kd.C_drewN ?_ _) | (with_reducible refine Kd.C_drew ?_))); (case aB => exact (by repeat (first | (with_reducible first | exact HB.out | apply lA | apply lN | apply lD) | exact HB.out))); (case aF => exact (fun k_ hk => Kd.fresh' (Kd.R_lt (by (with_reducible repeat (first | apply Ra | apply Rn | apply Rd)); exact HO_3.out)) k_ hk)); (case aO => exact (by (with_reducible repeat (first | apply Ra | apply Rn | apply Rd)); exact Kd.R_mono HO107.out (fun _ hk => hk.2))); (case aS => exact (below_size (by repeat (first | (with_reducible first | exact HB.out | apply lA | apply lN | apply lD) | exact HB.out)))); (case aL => have := LMc17.out; omega); intro v113 w25 ho hb hg hat; rw [← Ny112.out] at ho; replace HB := am (hb); replace HR111 := am ((show Kd.C Kd.string w25 (some ad103) y108.length y108 from by rw [Ny108.out]; exact Kd.C_take (m := (x5_2 : Int).toNat) ((Kd.R_reads' (Kd.R_after (ok := (fun _ => True)) (by (with_reducible repeat (first | apply Ra | apply Rn | apply Rd)); exact HO_3.out) hg hat)).2.2) KL24.out)); replace HO_3 := am (Kd.R_after (ok := (fun _ => True)) (by (with_reducible repeat (first | apply Ra | apply Rn | apply Rd)); exact HO_3.out) hg hat); have HO114 := am (ho); clear HO107; clear ho hb hg hat; have p115 : 0 ≤ (x4_1 : Int) := of_decide_eq_true (by first | (with_reducible assumption) | assumption); have q115 : x4_1 < (l0.length : Int) := of_decide_eq_true (by first | (with_reducible assumption) | assumption); obtain ⟨ad115, e115, hx115_0⟩ := Kd.at_string HR0.out x4_1 p115 q115; obtain rfl : ad101 = ad115 := (by injection e115); replace hx115_0 := (HB.out.cell (blt_ hx115_0)).trans hx115_0; replace p115 := eq_true p115; replace q115 := eq_true q115) | ((with_reducible refine gate_builtin (b := .append) (xs := #[.tmp 42, .tmp 47]) rfl ?_); at_builtin; refine Kd.R_append Kd.string (w0 := w) w.heap.size rfl (.tmp 42) (.tmp 47) 28 9 (.string ⟨#[]⟩) 16 rfl Try.underlying28 info9 rfl (by decide) (by omega) v113 y112 (rdOf ByteArray.empty l0 x4_1) [.string (rdOf ByteArray.empty l0 x4_1)] (fun k_ => some k_ ≠ (.slice (some ad103) x3_1.length co7 : Value).ownBlock) (fun _ => False) rfl rfl ?aP (fun _ hk => hk.elim) ?aF ?aO ?aB ?aS ?aL ?_; (case aP => exact rfl); (case aB => exact (by repeat (first | (with_reducible first | exact HB.out | apply lA | apply lN | apply lD) | exact HB.out))); (case aF => exact (fun k_ hk => Kd.fresh' (Kd.R_lt (by (with_reducible repeat (first | apply Ra | apply Rn | apply Rd)); exact HO_3.out)) k_ hk)); (case aO => exact (by (with_reducible repeat (first | apply Ra | apply Rn | apply Rd)); exact HO114.out)); (case aS => exact (below_size (by repeat (first | (with_reducible first | exact HB.out | apply lA | apply lN | apply lD) | exact HB.out)))); (case aL => have := LMc18.out; omega); intro v117 w26 ho hb hg hat; rw [← Ny116.out] at ho; replace HB := am (hb); replace HR111 := am ((show Kd.C Kd.string w26 (some ad103) y108.length y108 from by rw [Ny108.out]; exact Kd.C_take (m := (x5_2 : Int).toNat) ((Kd.R_reads' (Kd.R_after (ok := (fun _ => True)) (by (with_reducible repeat (first | apply Ra | apply Rn | apply Rd)); exact HO_3.out) hg hat)).2.2) KL24.out)); replace HO_3 := am (Kd.R_after (ok := (fun _ => True)) (by (with_reducible repeat (first | apply Ra | apply Rn | apply Rd)); exact HO_3.out) hg hat); have HO118 := am (ho); clear HO114; clear ho hb hg hat; have q27 : (x5_2 : Int) ≤ ((x3_1.length : Int) : Int) := of_decide_eq_true (by first | (with_reducible assumption) | assumption); obtain ⟨i027, hi027, _, hsz27, _⟩ := info_parts info9; have hroom27 : x3_1.length ≤ co7 := (Kd.R_reads' HO_3.out).2.1; have hC27 : Kd.C Kd.string _ (some ad103) x3_1.length x3_1 := (Kd.R_reads' HO_3.out).2.2; have q027 : (0 : Int) ≤ (x5_2 : Int) := of_decide_eq_true (by first | (with_reducible assumption) | assumption); have hcut27 := cut_from (P := Try.prog) 28 9 .i64 Try.underlying28 hi027 1 hsz27 (some ad103) x3_1.length co7 x5_2 q027 q27; have hr27 := Kd.C_drop (m := (x5_2 : Int).toNat) (c := co7) hC27 (by omega) hroom27; obtain ⟨A27, hA27⟩ : ∃ A1, A1 = (if co7 = (x5_2 : Int).toNat then (some ad103) else ((some ad103) : Option Addr).map (·.add ((x5_2 : Int).toNat * 1))) := ⟨_, rfl⟩; obtain ⟨c27, hc27⟩ : ∃ c1, c1 = co7 - (x5_2 : Int).toNat := ⟨_, rfl⟩; have hy27 : y119.length = x3_1.length - (x5_2 : Int).toNat := (by rw [Ny119.out, List.length_drop] <;> omega); rw [show (x3_1).drop (x5_2 : Int).toNat = y119 from Ny119.out.symm] at hr27; replace hr27 : Kd.C Kd.string _ A27 y119.length y119 := (by rw [hA27]; exact hr27); rw [← hy27, ← hA27, ← hc27] at hcut27; have HR122 := am hr27; have HC122 := am (show y119.length ≤ c27 from by rw [hy27, hc27]; exact Nat.sub_le_sub_right hroom27 _); clear hr27 hC27 hroom27 hi027 hsz27 hc27; have KY27 := am hy27; have KA27 := am hA27; clear hy27 hA27; have KL27 := am (show (x5_2 : Int).toNat ≤ x3_1.length from by omega); replace q27 := eq_true q27) | ((with_reducible refine gate_builtin (b := .append) (xs := #[.tmp 49, .tmp 52]) rfl ?_); at_builtin; refine Kd.R_append_rows Kd.string (w0 := w) w.heap.size rfl (.tmp 49) (.tmp 52) 28 9 (.string ⟨#[]⟩) 16 rfl Try.underlying28 info9 rfl (by decide) (by omega) v117 y116 y119 _ _ _ (fun k_ => some k_ ≠ (.slice (some ad103) x3_1.length co7 : Value).ownBlock) (fun _ => False) rfl rfl ?aO ?aR (fun _ _ h => h) (fun _ h => h.elim) ?aF ?aB ?aS ?aL ?_; (case aR => repeat (first | exact (by repeat (first | (with_reducible exact HR122.out) | (with_reducible refine Kd.C_alloc ?_ _) | (with_reducible refine Kd.C_drewN ?_ _) | (with_reducible refine Kd.C_drew ?_) | exact HR122.out)) | (with_reducible refine Kd.C_alloc ?_ _) | (with_reducible refine Kd.C_drewN ?_ _) | (with_reducible refine Kd.C_drew ?_))); (case aB => exact (by repeat (first | (with_reducible first | exact HB.out | apply lA | apply lN | apply lD) | exact HB.out))); (case aF => exact (fun k_ hk => Kd.fresh' (Kd.R_lt (by (with_reducible repeat (first | apply Ra | apply Rn | apply Rd)); exact HO_3.out)) k_ hk)); (case aO => exact (by (with_reducible repeat (first | apply Ra | apply Rn | apply Rd)); exact HO118.out)); (case aS => exact (below_size (by repeat (first | (with_reducible first | exact HB.out | apply lA | apply lN | apply lD) | exact HB.out)))); (case aL => have := LMc21.out; omega); intro v124 w28 ho hb hg hat; rw [← Ny123.out] at ho; replace HB := am (hb); replace HR111 := am ((show Kd.C Kd.string w28 (some ad103) y108.length y108 from by rw [Ny108.out]; exact Kd.C_take (m := (x5_2 : Int).toNat) ((Kd.R_reads' (Kd.R_after (ok := (fun _ => True)) (by (with_reducible repeat (first | apply Ra | apply Rn | apply Rd)); exact HO_3.out) hg hat)).2.2) KL24.out)); replace HR122 := am ((show Kd.C Kd.string w28 A27 y119.length y119 from by rw [Ny119.out, KA27.out]; exact Kd.C_drop (m := (x5_2 : Int).toNat) (c := co7) ((Kd.R_reads' (Kd.R_after (ok := (fun _ => True)) (by (with_reducible repeat (first | apply Ra | apply Rn | apply Rd)); exact HO_3.out) hg hat)).2.2) KL27.out ((Kd.R_reads' (Kd.R_after (ok := (fun _ => True)) (by (with_reducible repeat (first | apply Ra | apply Rn | apply Rd)); exact HO_3.out) hg hat)).2.1))); replace HO_3 := am (Kd.R_after (ok := (fun _ => True)) (by (with_reducible repeat (first | apply Ra | apply Rn | apply Rd)); exact HO_3.out) hg hat); have HO125 := am (ho); clear HO118; clear ho hb hg hat)); try go_wp2_with (first | ((with_reducible refine gate_dst (N := 37) rfl ?_); refine Kd.R_lit Kd.string _ 9 ?hg (N := 37) ?hd (xs := ([] : List ByteArray)) (inner := []) (ok := fun _ => True) (okp := fun _ => True) ?hr ?hp (fun _ hk => hk) trivial (Below.refl _ _) (Nat.le_refl _) (by simp) ?_; (case hd => rfl); (case hg => rfl); (case hr => first | (go_simp; done) | (go_simp; rfl)); (case hp => exact (Reps.none _ _)); intro v106 w22 ho23 hb hg_ hnew_; clear hg_ hnew_; (first | rw [← Ny105.out] at ho23 | (simp only [Int.reduceToNat] at ho23; rw [← Ny105.out] at ho23)); have HO107 := am (Kd.R_lower (Kd.R_new' ho23 (Kd.R_lt (by (with_reducible repeat (first | apply Ra | apply Rn | apply Rd)); exact HO_3.out))) (below_size (by repeat (first | (with_reducible first | exact HB.out | apply lA | apply lN | apply lD) | exact HB.out)))); replace HO_3 := am (Kd.R_elder' (by (with_reducible repeat (first | apply Ra | apply Rn | apply Rd)); exact HO_3.out) (Kd.R_base ho23) hb); replace HB := am (below_step (by repeat (first | (with_reducible first | exact HB.out | apply lA | apply lN | apply lD) | exact HB.out)) hb); clear hb ho23; have q24 : (x5_2 : Int) ≤ ((x3_1.length : Int) : Int) := of_decide_eq_true (by first | (with_reducible assumption) | assumption); obtain ⟨i024, hi024, _, hsz24, _⟩ := info_parts info9; have hroom24 : x3_1.length ≤ co7 := (Kd.R_reads' HO_3.out).2.1; have hC24 : Kd.C Kd.string _ (some ad103) x3_1.length x3_1 := (Kd.R_reads' HO_3.out).2.2; have hcut24 := cut_to (P := Try.prog) 28 9 .i64 Try.underlying28 hi024 (some ad103) x3_1.length co7 x5_2 (of_decide_eq_true (by first | (with_reducible assumption) | assumption)) q24 hroom24; have hr24 := Kd.C_take (m := (x5_2 : Int).toNat) hC24 (by omega); have hy24 : y108.length = (x5_2 : Int).toNat := (by rw [Ny108.out, List.length_take]; omega); rw [← Ny108.out] at hr24; rw [← hy24] at hcut24; have HR111 := am hr24; have HC111 := am (show y108.length ≤ co7 from by omega); clear hr24 hC24 hroom24 hi024 hsz24; have KY24 := am hy24; clear hy24; have KL24 := am (show (x5_2 : Int).toNat ≤ x3_1.length from by omega); replace q24 := eq_true q24) | ((with_reducible refine gate_builtin (b := .append) (xs := #[.tmp 37, .tmp 40]) rfl ?_); at_builtin; refine Kd.R_append_rows Kd.string (w0 := w) w.heap.size rfl (.tmp 37) (.tmp 40) 28 9 (.string ⟨#[]⟩) 16 rfl Try.underlying28 info9 rfl (by decide) (by omega) v106 y105 y108 _ _ _ (fun k_ => some k_ ≠ (.slice (some ad103) x3_1.length co7 : Value).ownBlock) (fun _ => False) rfl rfl ?aO ?aR (fun _ _ h => h) (fun _ h => h.elim) ?aF ?aB ?aS ?aL ?_; (case aR => repeat (first | exact (by repeat (first | (with_reducible exact HR111.out) | (with_reducible refine Kd.C_alloc ?_ _) | (with_reducible refine Kd.C_drewN ?_ _) | (with_reducible refine Kd.C_drew ?_) | exact HR111.out)) | (with_reducible refine Kd.C_alloc ?_ _) | (with_reducible refine Kd.C_drewN ?_ _) | (with_reducible refine Kd.C_drew ?_))); (case aB => exact (by repeat (first | (with_reducible first | exact HB.out | apply lA | apply lN | apply lD) | exact HB.out))); (case aF => exact (fun k_ hk => Kd.fresh' (Kd.R_lt (by (with_reducible repeat (first | apply Ra | apply Rn | apply Rd)); exact HO_3.out)) k_ hk)); (case aO => exact (by (with_reducible repeat (first | apply Ra | apply Rn | apply Rd)); exact Kd.R_mono HO107.out (fun _ hk => hk.2))); (case aS => exact (below_size (by repeat (first | (with_reducible first | exact HB.out | apply lA | apply lN | apply lD) | exact HB.out)))); (case aL => have := LMc17.out; omega); intro v113 w25 ho hb hg hat; rw [← Ny112.out] at ho; replace HB := am (hb); replace HR111 := am ((show Kd.C Kd.string w25 (some ad103) y108.length y108 from by rw [Ny108.out]; exact Kd.C_take (m := (x5_2 : Int).toNat) ((Kd.R_reads' (Kd.R_after (ok := (fun _ => True)) (by (with_reducible repeat (first | apply Ra | apply Rn | apply Rd)); exact HO_3.out) hg hat)).2.2) KL24.out)); replace HO_3 := am (Kd.R_after (ok := (fun _ => True)) (by (with_reducible repeat (first | apply Ra | apply Rn | apply Rd)); exact HO_3.out) hg hat); have HO114 := am (ho); clear HO107; clear ho hb hg hat; have p115 : 0 ≤ (x4_1 : Int) := of_decide_eq_true (by first | (with_reducible assumption) | assumption); have q115 : x4_1 < (l0.length : Int) := of_decide_eq_true (by first | (with_reducible assumption) | assumption); obtain ⟨ad115, e115, hx115_0⟩ := Kd.at_string HR0.out x4_1 p115 q115; obtain rfl : ad101 = ad115 := (by injection e115); replace hx115_0 := (HB.out.cell (blt_ hx115_0)).trans hx115_0; replace p115 := eq_true p115; replace q115 := eq_true q115) | ((with_reducible refine gate_builtin (b := .append) (xs := #[.tmp 42, .tmp 47]) rfl ?_); at_builtin; refine Kd.R_append Kd.string (w0 := w) w.heap.size rfl (.tmp 42) (.tmp 47) 28 9 (.string ⟨#[]⟩) 16 rfl Try.underlying28 info9 rfl (by decide) (by omega) v113 y112 (rdOf ByteArray.empty l0 x4_1) [.string (rdOf ByteArray.empty l0 x4_1)] (fun k_ => some k_ ≠ (.slice (some ad103) x3_1.length co7 : Value).ownBlock) (fun _ => False) rfl rfl ?aP (fun _ hk => hk.elim) ?aF ?aO ?aB ?aS ?aL ?_; (case aP => exact rfl); (case aB => exact (by repeat (first | (with_reducible first | exact HB.out | apply lA | apply lN | apply lD) | exact HB.out))); (case aF => exact (fun k_ hk => Kd.fresh' (Kd.R_lt (by (with_reducible repeat (first | apply Ra | apply Rn | apply Rd)); exact HO_3.out)) k_ hk)); (case aO => exact (by (with_reducible repeat (first | apply Ra | apply Rn | apply Rd)); exact HO114.out)); (case aS => exact (below_size (by repeat (first | (with_reducible first | exact HB.out | apply lA | apply lN | apply lD) | exact HB.out)))); (case aL => have := LMc18.out; omega); intro v117 w26 ho hb hg hat; rw [← Ny116.out] at ho; replace HB := am (hb); replace HR111 := am ((show Kd.C Kd.string w26 (some ad103) y108.length y108 from by rw [Ny108.out]; exact Kd.C_take (m := (x5_2 : Int).toNat) ((Kd.R_reads' (Kd.R_after (ok := (fun _ => True)) (by (with_reducible repeat (first | apply Ra | apply Rn | apply Rd)); exact HO_3.out) hg hat)).2.2) KL24.out)); replace HO_3 := am (Kd.R_after (ok := (fun _ => True)) (by (with_reducible repeat (first | apply Ra | apply Rn | apply Rd)); exact HO_3.out) hg hat); have HO118 := am (ho); clear HO114; clear ho hb hg hat; have q27 : (x5_2 : Int) ≤ ((x3_1.length : Int) : Int) := of_decide_eq_true (by first | (with_reducible assumption) | assumption); obtain ⟨i027, hi027, _, hsz27, _⟩ := info_parts info9; have hroom27 : x3_1.length ≤ co7 := (Kd.R_reads' HO_3.out).2.1; have hC27 : Kd.C Kd.string _ (some ad103) x3_1.length x3_1 := (Kd.R_reads' HO_3.out).2.2; have q027 : (0 : Int) ≤ (x5_2 : Int) := of_decide_eq_true (by first | (with_reducible assumption) | assumption); have hcut27 := cut_from (P := Try.prog) 28 9 .i64 Try.underlying28 hi027 1 hsz27 (some ad103) x3_1.length co7 x5_2 q027 q27; have hr27 := Kd.C_drop (m := (x5_2 : Int).toNat) (c := co7) hC27 (by omega) hroom27; obtain ⟨A27, hA27⟩ : ∃ A1, A1 = (if co7 = (x5_2 : Int).toNat then (some ad103) else ((some ad103) : Option Addr).map (·.add ((x5_2 : Int).toNat * 1))) := ⟨_, rfl⟩; obtain ⟨c27, hc27⟩ : ∃ c1, c1 = co7 - (x5_2 : Int).toNat := ⟨_, rfl⟩; have hy27 : y119.length = x3_1.length - (x5_2 : Int).toNat := (by rw [Ny119.out, List.length_drop] <;> omega); rw [show (x3_1).drop (x5_2 : Int).toNat = y119 from Ny119.out.symm] at hr27; replace hr27 : Kd.C Kd.string _ A27 y119.length y119 := (by rw [hA27]; exact hr27); rw [← hy27, ← hA27, ← hc27] at hcut27; have HR122 := am hr27; have HC122 := am (show y119.length ≤ c27 from by rw [hy27, hc27]; exact Nat.sub_le_sub_right hroom27 _); clear hr27 hC27 hroom27 hi027 hsz27 hc27; have KY27 := am hy27; have KA27 := am hA27; clear hy27 hA27; have KL27 := am (show (x5_2 : Int).toNat ≤ x3_1.length from by omega); replace q27 := eq_true q27) | ((with_reducible refine gate_builtin (b := .append) (xs := #[.tmp 49, .tmp 52]) rfl ?_); at_builtin; refine Kd.R_append_rows Kd.string (w0 := w) w.heap.size rfl (.tmp 49) (.tmp 52) 28 9 (.string ⟨#[]⟩) 16 rfl Try.underlying28 info9 rfl (by decide) (by omega) v117 y116 y119 _ _ _ (fun k_ => some k_ ≠ (.slice (some ad103) x3_1.length co7 : Value).ownBlock) (fun _ => False) rfl rfl ?aO ?aR (fun _ _ h => h) (fun _ h => h.elim) ?aF ?aB ?aS ?aL ?_; (case aR => repeat (first | exact (by repeat (first | (with_reducible exact HR122.out) | (with_reducible refine Kd.C_alloc ?_ _) | (with_reducible refine Kd.C_drewN ?_ _) | (with_reducible refine Kd.C_drew ?_) | exact HR122.out)) | (with_reducible refine Kd.C_alloc ?_ _) | (with_reducible refine Kd.C_drewN ?_ _) | (with_reducible refine Kd.C_drew ?_))); (case aB => exact (by repeat (first | (with_reducible first | exact HB.out | apply lA | apply lN | apply lD) | exact HB.out))); (case aF => exact (fun k_ hk => Kd.fresh' (Kd.R_lt (by (with_reducible repeat (first | apply Ra | apply Rn | apply Rd)); exact HO_3.out)) k_ hk)); (case aO => exact (by (with_reducible repeat (first | apply Ra | apply Rn | apply Rd)); exact HO118.out)); (case aS => exact (below_size (by repeat (first | (with_reducible first | exact HB.out | apply lA | apply lN | apply lD) | exact HB.out)))); (case aL => have := LMc21.out; omega); intro v124 w28 ho hb hg hat; rw [← Ny123.out] at ho; replace HB := am (hb); replace HR111 := am ((show Kd.C Kd.string w28 (some ad103) y108.length y108 from by rw [Ny108.out]; exact Kd.C_take (m := (x5_2 : Int).toNat) ((Kd.R_reads' (Kd.R_after (ok := (fun _ => True)) (by (with_reducible repeat (first | apply Ra | apply Rn | apply Rd)); exact HO_3.out) hg hat)).2.2) KL24.out)); replace HR122 := am ((show Kd.C Kd.string w28 A27 y119.length y119 from by rw [Ny119.out, KA27.out]; exact Kd.C_drop (m := (x5_2 : Int).toNat) (c := co7) ((Kd.R_reads' (Kd.R_after (ok := (fun _ => True)) (by (with_reducible repeat (first | apply Ra | apply Rn | apply Rd)); exact HO_3.out) hg hat)).2.2) KL27.out ((Kd.R_reads' (Kd.R_after (ok := (fun _ => True)) (by (with_reducible repeat (first | apply Ra | apply Rn | apply Rd)); exact HO_3.out) hg hat)).2.1))); replace HO_3 := am (Kd.R_after (ok := (fun _ => True)) (by (with_reducible repeat (first | apply Ra | apply Rn | apply Rd)); exact HO_3.out) hg hat); have HO125 := am (ho); clear HO118; clear ho hb hg hat)))
                   go_roundg k2
                   case measure => have := HK1.out; have := HK2.out; omega
                   case rel => exact ⟨(y123), (wrap64 (x4_1 + 1)), (by first | rfl | (simp; done) | (simp [*]; done)), H', ⟨by have := HK1.out; have := HK2.out; omega⟩, ⟨by (with_reducible repeat (first | apply Ra | apply Rn | apply Rd)); exact Kd.R_mono HO125.out (fun _ hk => trivial)⟩, ⟨by repeat (first | (with_reducible first | exact HB.out | apply lA | apply lN | apply lD) | exact HB.out)⟩⟩
                  ·rw [if_neg c21] at H
                   exact absurd H (by simp)
                 ·rw [if_neg c18] at H
                  exact absurd H (by simp)
                ·rw [if_neg c17] at H
                 exact absurd H (by simp)
               ·rw [if_neg c16] at H
                exact absurd H (by simp)
              ·rw [if_neg c15] at H
               exact absurd H (by simp)
            ·rw [if_neg c13] at H
             exact absurd H (by simp)
           ·rw [if_neg c12] at H
            exact absurd H (by simp)
          ·rw [if_neg c11] at H
           exact absurd H (by simp)
         ·rw [if_neg c10] at H
          exact absurd H (by simp)
        ·rw [if_neg c8] at H
         have c8b0 : decide (0 < x5_2) = false := decide_eq_false c8
         clear c8
         obtain ⟨y126, hy126⟩ : ∃ y_ : List ByteArray, y_ = (([] : List ByteArray)) := ⟨_, rfl⟩
         replace H : (if 0 ≤ x5_2 then (if x5_2 ≤ (x3_1.length : Int) then ((some (x3_1.take (x5_2 : Int).toNat : List ByteArray)).bind fun y129 => (if y126.length + y129.length < 8796093022208 then ((some (y126 ++ y129 : List ByteArray)).bind fun y133 => (if 0 ≤ x4_1 then (if x4_1 < (l0.length : Int) then (if y133.length < 8796093022208 then ((some (y133 ++ [rdOf ByteArray.empty l0 x4_1] : List ByteArray)).bind fun y137 => ((some (x3_1.drop (x5_2 : Int).toNat : List ByteArray)).bind fun y140 => (if y137.length + y140.length < 8796093022208 then (lambrequinref09_Sorted.l0 k2 l0 (y137 ++ y140) (wrap64 (x4_1 + 1))) else (none)))) else (none)) else (none)) else (none))) else (none))) else (none)) else (none)) = some r := by first | (rw [hy126]; with_reducible exact H) | (have H2_ := (Option.bind_some _ _).symm.trans H; rw [hy126]; with_reducible exact H2_) | (have H2_ := (Option.bind_some _ _).symm.trans H; with_reducible exact H2_) | with_reducible exact H | (rw [hy126]; exact H) | exact H
         have Ny126 := am hy126
         clear hy126
         by_cases c29 : 0 ≤ x5_2
         ·rw [if_pos c29] at H
          have c29b0 := eq_true c29
          have c29b1 : decide (0 ≤ x5_2) = true := decide_eq_true c29
          clear c29
          by_cases c30 : x5_2 ≤ (x3_1.length : Int)
          ·rw [if_pos c30] at H
           have c30b0 := eq_true c30
           have c30b1 : decide (x5_2 ≤ (x3_1.length : Int)) = true := decide_eq_true c30
           clear c30
           obtain ⟨y129, hy129⟩ : ∃ y_ : List ByteArray, y_ = (x3_1.take (x5_2 : Int).toNat) := ⟨_, rfl⟩
           replace H : (if y126.length + y129.length < 8796093022208 then ((some (y126 ++ y129 : List ByteArray)).bind fun y133 => (if 0 ≤ x4_1 then (if x4_1 < (l0.length : Int) then (if y133.length < 8796093022208 then ((some (y133 ++ [rdOf ByteArray.empty l0 x4_1] : List ByteArray)).bind fun y137 => ((some (x3_1.drop (x5_2 : Int).toNat : List ByteArray)).bind fun y140 => (if y137.length + y140.length < 8796093022208 then (lambrequinref09_Sorted.l0 k2 l0 (y137 ++ y140) (wrap64 (x4_1 + 1))) else (none)))) else (none)) else (none)) else (none))) else (none)) = some r := by first | (rw [hy129]; with_reducible exact H) | (have H2_ := (Option.bind_some _ _).symm.trans H; rw [hy129]; with_reducible exact H2_) | (have H2_ := (Option.bind_some _ _).symm.trans H; with_reducible exact H2_) | with_reducible exact H | (rw [hy129]; exact H) | exact H
           have Ny129 := am hy129
           clear hy129
           by_cases c31 : y126.length + y129.length < 8796093022208
           ·rw [if_pos c31] at H
            have LMc31 := am c31
            clear c31
            obtain ⟨y133, hy133⟩ : ∃ y_ : List ByteArray, y_ = (y126 ++ y129) := ⟨_, rfl⟩
            replace H : (if 0 ≤ x4_1 then (if x4_1 < (l0.length : Int) then (if y133.length < 8796093022208 then ((some (y133 ++ [rdOf ByteArray.empty l0 x4_1] : List ByteArray)).bind fun y137 => ((some (x3_1.drop (x5_2 : Int).toNat : List ByteArray)).bind fun y140 => (if y137.length + y140.length < 8796093022208 then (lambrequinref09_Sorted.l0 k2 l0 (y137 ++ y140) (wrap64 (x4_1 + 1))) else (none)))) else (none)) else (none)) else (none)) = some r := by first | (rw [hy133]; with_reducible exact H) | (have H2_ := (Option.bind_some _ _).symm.trans H; rw [hy133]; with_reducible exact H2_) | (have H2_ := (Option.bind_some _ _).symm.trans H; with_reducible exact H2_) | with_reducible exact H | (rw [hy133]; exact H) | exact H
            have Ny133 := am hy133
            clear hy133
            by_cases c32 : 0 ≤ x4_1
            ·rw [if_pos c32] at H
             have c32b0 : decide (0 ≤ x4_1) = true := decide_eq_true c32
             clear c32
             by_cases c33 : x4_1 < (l0.length : Int)
             ·rw [if_pos c33] at H
              have c33b0 : decide (x4_1 < (l0.length : Int)) = true := decide_eq_true c33
              clear c33
              by_cases c34 : y133.length < 8796093022208
              ·rw [if_pos c34] at H
               have LMc34 := am c34
               clear c34
               obtain ⟨y137, hy137⟩ : ∃ y_ : List ByteArray, y_ = (y133 ++ [rdOf ByteArray.empty l0 x4_1]) := ⟨_, rfl⟩
               replace H : ((some (x3_1.drop (x5_2 : Int).toNat : List ByteArray)).bind fun y140 => (if y137.length + y140.length < 8796093022208 then (lambrequinref09_Sorted.l0 k2 l0 (y137 ++ y140) (wrap64 (x4_1 + 1))) else (none))) = some r := by first | (rw [hy137]; with_reducible exact H) | (have H2_ := (Option.bind_some _ _).symm.trans H; rw [hy137]; with_reducible exact H2_) | (have H2_ := (Option.bind_some _ _).symm.trans H; with_reducible exact H2_) | with_reducible exact H | (rw [hy137]; exact H) | exact H
               have Ny137 := am hy137
               clear hy137
               have c35b0 := eq_true (of_decide_eq_true (by first | (with_reducible assumption) | assumption) : 0 ≤ x5_2)
               have c36b0 := eq_true (of_decide_eq_true (by first | (with_reducible assumption) | assumption) : x5_2 ≤ (x3_1.length : Int))
               obtain ⟨y140, hy140⟩ : ∃ y_ : List ByteArray, y_ = (x3_1.drop (x5_2 : Int).toNat) := ⟨_, rfl⟩
               replace H : (if y137.length + y140.length < 8796093022208 then (lambrequinref09_Sorted.l0 k2 l0 (y137 ++ y140) (wrap64 (x4_1 + 1))) else (none)) = some r := by first | (rw [hy140]; with_reducible exact H) | (have H2_ := (Option.bind_some _ _).symm.trans H; rw [hy140]; with_reducible exact H2_) | (have H2_ := (Option.bind_some _ _).symm.trans H; with_reducible exact H2_) | with_reducible exact H | (rw [hy140]; exact H) | exact H
               have Ny140 := am hy140
               clear hy140
               by_cases c37 : y137.length + y140.length < 8796093022208
               ·rw [if_pos c37] at H
                have LMc37 := am c37
                clear c37
                obtain ⟨y144, hy144⟩ : ∃ y_ : List ByteArray, y_ = (y137 ++ y140) := ⟨_, rfl⟩
                replace H : (lambrequinref09_Sorted.l0 k2 l0 y144 (wrap64 (x4_1 + 1))) = some r := by first | (rw [hy144]; with_reducible exact H) | (have H2_ := (Option.bind_some _ _).symm.trans H; rw [hy144]; with_reducible exact H2_) | (have H2_ := (Option.bind_some _ _).symm.trans H; with_reducible exact H2_) | with_reducible exact H | (rw [hy144]; exact H) | exact H
                have Ny144 := am hy144
                clear hy144
                have H' := am H
                clear H
                go_wp2_with (first | ((with_reducible refine gate_dst (N := 37) rfl ?_); refine Kd.R_lit Kd.string _ 9 ?hg (N := 37) ?hd (xs := ([] : List ByteArray)) (inner := []) (ok := fun _ => True) (okp := fun _ => True) ?hr ?hp (fun _ hk => hk) trivial (Below.refl _ _) (Nat.le_refl _) (by simp) ?_; (case hd => rfl); (case hg => rfl); (case hr => first | (go_simp; done) | (go_simp; rfl)); (case hp => exact (Reps.none _ _)); intro v127 w38 ho39 hb hg_ hnew_; clear hg_ hnew_; (first | rw [← Ny126.out] at ho39 | (simp only [Int.reduceToNat] at ho39; rw [← Ny126.out] at ho39)); have HO128 := am (Kd.R_lower (Kd.R_new' ho39 (Kd.R_lt (by (with_reducible repeat (first | apply Ra | apply Rn | apply Rd)); exact HO_3.out))) (below_size (by repeat (first | (with_reducible first | exact HB.out | apply lA | apply lN | apply lD) | exact HB.out)))); replace HO_3 := am (Kd.R_elder' (by (with_reducible repeat (first | apply Ra | apply Rn | apply Rd)); exact HO_3.out) (Kd.R_base ho39) hb); replace HB := am (below_step (by repeat (first | (with_reducible first | exact HB.out | apply lA | apply lN | apply lD) | exact HB.out)) hb); clear hb ho39; have q40 : (x5_2 : Int) ≤ ((x3_1.length : Int) : Int) := of_decide_eq_true (by first | (with_reducible assumption) | assumption); obtain ⟨i040, hi040, _, hsz40, _⟩ := info_parts info9; have hroom40 : x3_1.length ≤ co7 := (Kd.R_reads' HO_3.out).2.1; have hC40 : Kd.C Kd.string _ Ao7 x3_1.length x3_1 := (Kd.R_reads' HO_3.out).2.2; have hcut40 := cut_to (P := Try.prog) 28 9 .i64 Try.underlying28 hi040 Ao7 x3_1.length co7 x5_2 (of_decide_eq_true (by first | (with_reducible assumption) | assumption)) q40 hroom40; have hr40 := Kd.C_take (m := (x5_2 : Int).toNat) hC40 (by omega); have hy40 : y129.length = (x5_2 : Int).toNat := (by rw [Ny129.out, List.length_take]; omega); rw [← Ny129.out] at hr40; rw [← hy40] at hcut40; have HR132 := am hr40; have HC132 := am (show y129.length ≤ co7 from by omega); clear hr40 hC40 hroom40 hi040 hsz40; have KY40 := am hy40; clear hy40; have KL40 := am (show (x5_2 : Int).toNat ≤ x3_1.length from by omega); replace q40 := eq_true q40) | ((with_reducible refine gate_builtin (b := .append) (xs := #[.tmp 37, .tmp 40]) rfl ?_); at_builtin; refine Kd.R_append_rows Kd.string (w0 := w) w.heap.size rfl (.tmp 37) (.tmp 40) 28 9 (.string ⟨#[]⟩) 16 rfl Try.underlying28 info9 rfl (by decide) (by omega) v127 y126 y129 _ _ _ (fun k_ => some k_ ≠ (.slice Ao7 x3_1.length co7 : Value).ownBlock) (fun _ => False) rfl rfl ?aO ?aR (fun _ _ h => h) (fun _ h => h.elim) ?aF ?aB ?aS ?aL ?_; (case aR => repeat (first | exact (by repeat (first | (with_reducible exact HR132.out) | (with_reducible refine Kd.C_alloc ?_ _) | (with_reducible refine Kd.C_drewN ?_ _) | (with_reducible refine Kd.C_drew ?_) | exact HR132.out)) | (with_reducible refine Kd.C_alloc ?_ _) | (with_reducible refine Kd.C_drewN ?_ _) | (with_reducible refine Kd.C_drew ?_))); (case aB => exact (by repeat (first | (with_reducible first | exact HB.out | apply lA | apply lN | apply lD) | exact HB.out))); (case aF => exact (fun k_ hk => Kd.fresh' (Kd.R_lt (by (with_reducible repeat (first | apply Ra | apply Rn | apply Rd)); exact HO_3.out)) k_ hk)); (case aO => exact (by (with_reducible repeat (first | apply Ra | apply Rn | apply Rd)); exact Kd.R_mono HO128.out (fun _ hk => hk.2))); (case aS => exact (below_size (by repeat (first | (with_reducible first | exact HB.out | apply lA | apply lN | apply lD) | exact HB.out)))); (case aL => have := LMc31.out; omega); intro v134 w41 ho hb hg hat; rw [← Ny133.out] at ho; replace HB := am (hb); replace HR132 := am ((show Kd.C Kd.string w41 Ao7 y129.length y129 from by rw [Ny129.out]; exact Kd.C_take (m := (x5_2 : Int).toNat) ((Kd.R_reads' (Kd.R_after (ok := (fun _ => True)) (by (with_reducible repeat (first | apply Ra | apply Rn | apply Rd)); exact HO_3.out) hg hat)).2.2) KL40.out)); replace HO_3 := am (Kd.R_after (ok := (fun _ => True)) (by (with_reducible repeat (first | apply Ra | apply Rn | apply Rd)); exact HO_3.out) hg hat); have HO135 := am (ho); clear HO128; clear ho hb hg hat; have p136 : 0 ≤ (x4_1 : Int) := of_decide_eq_true (by first | (with_reducible assumption) | assumption); have q136 : x4_1 < (l0.length : Int) := of_decide_eq_true (by first | (with_reducible assumption) | assumption); obtain ⟨ad136, e136, hx136_0⟩ := Kd.at_string HR0.out x4_1 p136 q136; obtain rfl : ad101 = ad136 := (by injection e136); replace hx136_0 := (HB.out.cell (blt_ hx136_0)).trans hx136_0; replace p136 := eq_true p136; replace q136 := eq_true q136) | ((with_reducible refine gate_builtin (b := .append) (xs := #[.tmp 42, .tmp 47]) rfl ?_); at_builtin; refine Kd.R_append Kd.string (w0 := w) w.heap.size rfl (.tmp 42) (.tmp 47) 28 9 (.string ⟨#[]⟩) 16 rfl Try.underlying28 info9 rfl (by decide) (by omega) v134 y133 (rdOf ByteArray.empty l0 x4_1) [.string (rdOf ByteArray.empty l0 x4_1)] (fun k_ => some k_ ≠ (.slice Ao7 x3_1.length co7 : Value).ownBlock) (fun _ => False) rfl rfl ?aP (fun _ hk => hk.elim) ?aF ?aO ?aB ?aS ?aL ?_; (case aP => exact rfl); (case aB => exact (by repeat (first | (with_reducible first | exact HB.out | apply lA | apply lN | apply lD) | exact HB.out))); (case aF => exact (fun k_ hk => Kd.fresh' (Kd.R_lt (by (with_reducible repeat (first | apply Ra | apply Rn | apply Rd)); exact HO_3.out)) k_ hk)); (case aO => exact (by (with_reducible repeat (first | apply Ra | apply Rn | apply Rd)); exact HO135.out)); (case aS => exact (below_size (by repeat (first | (with_reducible first | exact HB.out | apply lA | apply lN | apply lD) | exact HB.out)))); (case aL => have := LMc34.out; omega); intro v138 w42 ho hb hg hat; rw [← Ny137.out] at ho; replace HB := am (hb); replace HR132 := am ((show Kd.C Kd.string w42 Ao7 y129.length y129 from by rw [Ny129.out]; exact Kd.C_take (m := (x5_2 : Int).toNat) ((Kd.R_reads' (Kd.R_after (ok := (fun _ => True)) (by (with_reducible repeat (first | apply Ra | apply Rn | apply Rd)); exact HO_3.out) hg hat)).2.2) KL40.out)); replace HO_3 := am (Kd.R_after (ok := (fun _ => True)) (by (with_reducible repeat (first | apply Ra | apply Rn | apply Rd)); exact HO_3.out) hg hat); have HO139 := am (ho); clear HO135; clear ho hb hg hat; have q43 : (x5_2 : Int) ≤ ((x3_1.length : Int) : Int) := of_decide_eq_true (by first | (with_reducible assumption) | assumption); obtain ⟨i043, hi043, _, hsz43, _⟩ := info_parts info9; have hroom43 : x3_1.length ≤ co7 := (Kd.R_reads' HO_3.out).2.1; have hC43 : Kd.C Kd.string _ Ao7 x3_1.length x3_1 := (Kd.R_reads' HO_3.out).2.2; have q043 : (0 : Int) ≤ (x5_2 : Int) := of_decide_eq_true (by first | (with_reducible assumption) | assumption); have hcut43 := cut_from (P := Try.prog) 28 9 .i64 Try.underlying28 hi043 1 hsz43 Ao7 x3_1.length co7 x5_2 q043 q43; have hr43 := Kd.C_drop (m := (x5_2 : Int).toNat) (c := co7) hC43 (by omega) hroom43; obtain ⟨A43, hA43⟩ : ∃ A1, A1 = (if co7 = (x5_2 : Int).toNat then Ao7 else (Ao7 : Option Addr).map (·.add ((x5_2 : Int).toNat * 1))) := ⟨_, rfl⟩; obtain ⟨c43, hc43⟩ : ∃ c1, c1 = co7 - (x5_2 : Int).toNat := ⟨_, rfl⟩; have hy43 : y140.length = x3_1.length - (x5_2 : Int).toNat := (by rw [Ny140.out, List.length_drop] <;> omega); rw [show (x3_1).drop (x5_2 : Int).toNat = y140 from Ny140.out.symm] at hr43; replace hr43 : Kd.C Kd.string _ A43 y140.length y140 := (by rw [hA43]; exact hr43); rw [← hy43, ← hA43, ← hc43] at hcut43; have HR143 := am hr43; have HC143 := am (show y140.length ≤ c43 from by rw [hy43, hc43]; exact Nat.sub_le_sub_right hroom43 _); clear hr43 hC43 hroom43 hi043 hsz43 hc43; have KY43 := am hy43; have KA43 := am hA43; clear hy43 hA43; have KL43 := am (show (x5_2 : Int).toNat ≤ x3_1.length from by omega); replace q43 := eq_true q43) | ((with_reducible refine gate_builtin (b := .append) (xs := #[.tmp 49, .tmp 52]) rfl ?_); at_builtin; refine Kd.R_append_rows Kd.string (w0 := w) w.heap.size rfl (.tmp 49) (.tmp 52) 28 9 (.string ⟨#[]⟩) 16 rfl Try.underlying28 info9 rfl (by decide) (by omega) v138 y137 y140 _ _ _ (fun k_ => some k_ ≠ (.slice Ao7 x3_1.length co7 : Value).ownBlock) (fun _ => False) rfl rfl ?aO ?aR (fun _ _ h => h) (fun _ h => h.elim) ?aF ?aB ?aS ?aL ?_; (case aR => repeat (first | exact (by repeat (first | (with_reducible exact HR143.out) | (with_reducible refine Kd.C_alloc ?_ _) | (with_reducible refine Kd.C_drewN ?_ _) | (with_reducible refine Kd.C_drew ?_) | exact HR143.out)) | (with_reducible refine Kd.C_alloc ?_ _) | (with_reducible refine Kd.C_drewN ?_ _) | (with_reducible refine Kd.C_drew ?_))); (case aB => exact (by repeat (first | (with_reducible first | exact HB.out | apply lA | apply lN | apply lD) | exact HB.out))); (case aF => exact (fun k_ hk => Kd.fresh' (Kd.R_lt (by (with_reducible repeat (first | apply Ra | apply Rn | apply Rd)); exact HO_3.out)) k_ hk)); (case aO => exact (by (with_reducible repeat (first | apply Ra | apply Rn | apply Rd)); exact HO139.out)); (case aS => exact (below_size (by repeat (first | (with_reducible first | exact HB.out | apply lA | apply lN | apply lD) | exact HB.out)))); (case aL => have := LMc37.out; omega); intro v145 w44 ho hb hg hat; rw [← Ny144.out] at ho; replace HB := am (hb); replace HR132 := am ((show Kd.C Kd.string w44 Ao7 y129.length y129 from by rw [Ny129.out]; exact Kd.C_take (m := (x5_2 : Int).toNat) ((Kd.R_reads' (Kd.R_after (ok := (fun _ => True)) (by (with_reducible repeat (first | apply Ra | apply Rn | apply Rd)); exact HO_3.out) hg hat)).2.2) KL40.out)); replace HR143 := am ((show Kd.C Kd.string w44 A43 y140.length y140 from by rw [Ny140.out, KA43.out]; exact Kd.C_drop (m := (x5_2 : Int).toNat) (c := co7) ((Kd.R_reads' (Kd.R_after (ok := (fun _ => True)) (by (with_reducible repeat (first | apply Ra | apply Rn | apply Rd)); exact HO_3.out) hg hat)).2.2) KL43.out ((Kd.R_reads' (Kd.R_after (ok := (fun _ => True)) (by (with_reducible repeat (first | apply Ra | apply Rn | apply Rd)); exact HO_3.out) hg hat)).2.1))); replace HO_3 := am (Kd.R_after (ok := (fun _ => True)) (by (with_reducible repeat (first | apply Ra | apply Rn | apply Rd)); exact HO_3.out) hg hat); have HO146 := am (ho); clear HO139; clear ho hb hg hat))
                repeat (go_quiet (first | ((with_reducible refine gate_dst (N := 37) rfl ?_); refine Kd.R_lit Kd.string _ 9 ?hg (N := 37) ?hd (xs := ([] : List ByteArray)) (inner := []) (ok := fun _ => True) (okp := fun _ => True) ?hr ?hp (fun _ hk => hk) trivial (Below.refl _ _) (Nat.le_refl _) (by simp) ?_; (case hd => rfl); (case hg => rfl); (case hr => first | (go_simp; done) | (go_simp; rfl)); (case hp => exact (Reps.none _ _)); intro v127 w38 ho39 hb hg_ hnew_; clear hg_ hnew_; (first | rw [← Ny126.out] at ho39 | (simp only [Int.reduceToNat] at ho39; rw [← Ny126.out] at ho39)); have HO128 := am (Kd.R_lower (Kd.R_new' ho39 (Kd.R_lt (by (with_reducible repeat (first | apply Ra | apply Rn | apply Rd)); exact HO_3.out))) (below_size (by repeat (first | (with_reducible first | exact HB.out | apply lA | apply lN | apply lD) | exact HB.out)))); replace HO_3 := am (Kd.R_elder' (by (with_reducible repeat (first | apply Ra | apply Rn | apply Rd)); exact HO_3.out) (Kd.R_base ho39) hb); replace HB := am (below_step (by repeat (first | (with_reducible first | exact HB.out | apply lA | apply lN | apply lD) | exact HB.out)) hb); clear hb ho39; have q40 : (x5_2 : Int) ≤ ((x3_1.length : Int) : Int) := of_decide_eq_true (by first | (with_reducible assumption) | assumption); obtain ⟨i040, hi040, _, hsz40, _⟩ := info_parts info9; have hroom40 : x3_1.length ≤ co7 := (Kd.R_reads' HO_3.out).2.1; have hC40 : Kd.C Kd.string _ Ao7 x3_1.length x3_1 := (Kd.R_reads' HO_3.out).2.2; have hcut40 := cut_to (P := Try.prog) 28 9 .i64 Try.underlying28 hi040 Ao7 x3_1.length co7 x5_2 (of_decide_eq_true (by first | (with_reducible assumption) | assumption)) q40 hroom40; have hr40 := Kd.C_take (m := (x5_2 : Int).toNat) hC40 (by omega); have hy40 : y129.length = (x5_2 : Int).toNat := (by rw [Ny129.out, List.length_take]; omega); rw [← Ny129.out] at hr40; rw [← hy40] at hcut40; have HR132 := am hr40; have HC132 := am (show y129.length ≤ co7 from by omega); clear hr40 hC40 hroom40 hi040 hsz40; have KY40 := am hy40; clear hy40; have KL40 := am (show (x5_2 : Int).toNat ≤ x3_1.length from by omega); replace q40 := eq_true q40) | ((with_reducible refine gate_builtin (b := .append) (xs := #[.tmp 37, .tmp 40]) rfl ?_); at_builtin; refine Kd.R_append_rows Kd.string (w0 := w) w.heap.size rfl (.tmp 37) (.tmp 40) 28 9 (.string ⟨#[]⟩) 16 rfl Try.underlying28 info9 rfl (by decide) (by omega) v127 y126 y129 _ _ _ (fun k_ => some k_ ≠ (.slice Ao7 x3_1.length co7 : Value).ownBlock) (fun _ => False) rfl rfl ?aO ?aR (fun _ _ h => h) (fun _ h => h.elim) ?aF ?aB ?aS ?aL ?_; (case aR => repeat (first | exact (by repeat (first | (with_reducible exact HR132.out) | (with_reducible refine Kd.C_alloc ?_ _) | (with_reducible refine Kd.C_drewN ?_ _) | (with_reducible refine Kd.C_drew ?_) | exact HR132.out)) | (with_reducible refine Kd.C_alloc ?_ _) | (with_reducible refine Kd.C_drewN ?_ _) | (with_reducible refine Kd.C_drew ?_))); (case aB => exact (by repeat (first | (with_reducible first | exact HB.out | apply lA | apply lN | apply lD) | exact HB.out))); (case aF => exact (fun k_ hk => Kd.fresh' (Kd.R_lt (by (with_reducible repeat (first | apply Ra | apply Rn | apply Rd)); exact HO_3.out)) k_ hk)); (case aO => exact (by (with_reducible repeat (first | apply Ra | apply Rn | apply Rd)); exact Kd.R_mono HO128.out (fun _ hk => hk.2))); (case aS => exact (below_size (by repeat (first | (with_reducible first | exact HB.out | apply lA | apply lN | apply lD) | exact HB.out)))); (case aL => have := LMc31.out; omega); intro v134 w41 ho hb hg hat; rw [← Ny133.out] at ho; replace HB := am (hb); replace HR132 := am ((show Kd.C Kd.string w41 Ao7 y129.length y129 from by rw [Ny129.out]; exact Kd.C_take (m := (x5_2 : Int).toNat) ((Kd.R_reads' (Kd.R_after (ok := (fun _ => True)) (by (with_reducible repeat (first | apply Ra | apply Rn | apply Rd)); exact HO_3.out) hg hat)).2.2) KL40.out)); replace HO_3 := am (Kd.R_after (ok := (fun _ => True)) (by (with_reducible repeat (first | apply Ra | apply Rn | apply Rd)); exact HO_3.out) hg hat); have HO135 := am (ho); clear HO128; clear ho hb hg hat; have p136 : 0 ≤ (x4_1 : Int) := of_decide_eq_true (by first | (with_reducible assumption) | assumption); have q136 : x4_1 < (l0.length : Int) := of_decide_eq_true (by first | (with_reducible assumption) | assumption); obtain ⟨ad136, e136, hx136_0⟩ := Kd.at_string HR0.out x4_1 p136 q136; obtain rfl : ad101 = ad136 := (by injection e136); replace hx136_0 := (HB.out.cell (blt_ hx136_0)).trans hx136_0; replace p136 := eq_true p136; replace q136 := eq_true q136) | ((with_reducible refine gate_builtin (b := .append) (xs := #[.tmp 42, .tmp 47]) rfl ?_); at_builtin; refine Kd.R_append Kd.string (w0 := w) w.heap.size rfl (.tmp 42) (.tmp 47) 28 9 (.string ⟨#[]⟩) 16 rfl Try.underlying28 info9 rfl (by decide) (by omega) v134 y133 (rdOf ByteArray.empty l0 x4_1) [.string (rdOf ByteArray.empty l0 x4_1)] (fun k_ => some k_ ≠ (.slice Ao7 x3_1.length co7 : Value).ownBlock) (fun _ => False) rfl rfl ?aP (fun _ hk => hk.elim) ?aF ?aO ?aB ?aS ?aL ?_; (case aP => exact rfl); (case aB => exact (by repeat (first | (with_reducible first | exact HB.out | apply lA | apply lN | apply lD) | exact HB.out))); (case aF => exact (fun k_ hk => Kd.fresh' (Kd.R_lt (by (with_reducible repeat (first | apply Ra | apply Rn | apply Rd)); exact HO_3.out)) k_ hk)); (case aO => exact (by (with_reducible repeat (first | apply Ra | apply Rn | apply Rd)); exact HO135.out)); (case aS => exact (below_size (by repeat (first | (with_reducible first | exact HB.out | apply lA | apply lN | apply lD) | exact HB.out)))); (case aL => have := LMc34.out; omega); intro v138 w42 ho hb hg hat; rw [← Ny137.out] at ho; replace HB := am (hb); replace HR132 := am ((show Kd.C Kd.string w42 Ao7 y129.length y129 from by rw [Ny129.out]; exact Kd.C_take (m := (x5_2 : Int).toNat) ((Kd.R_reads' (Kd.R_after (ok := (fun _ => True)) (by (with_reducible repeat (first | apply Ra | apply Rn | apply Rd)); exact HO_3.out) hg hat)).2.2) KL40.out)); replace HO_3 := am (Kd.R_after (ok := (fun _ => True)) (by (with_reducible repeat (first | apply Ra | apply Rn | apply Rd)); exact HO_3.out) hg hat); have HO139 := am (ho); clear HO135; clear ho hb hg hat; have q43 : (x5_2 : Int) ≤ ((x3_1.length : Int) : Int) := of_decide_eq_true (by first | (with_reducible assumption) | assumption); obtain ⟨i043, hi043, _, hsz43, _⟩ := info_parts info9; have hroom43 : x3_1.length ≤ co7 := (Kd.R_reads' HO_3.out).2.1; have hC43 : Kd.C Kd.string _ Ao7 x3_1.length x3_1 := (Kd.R_reads' HO_3.out).2.2; have q043 : (0 : Int) ≤ (x5_2 : Int) := of_decide_eq_true (by first | (with_reducible assumption) | assumption); have hcut43 := cut_from (P := Try.prog) 28 9 .i64 Try.underlying28 hi043 1 hsz43 Ao7 x3_1.length co7 x5_2 q043 q43; have hr43 := Kd.C_drop (m := (x5_2 : Int).toNat) (c := co7) hC43 (by omega) hroom43; obtain ⟨A43, hA43⟩ : ∃ A1, A1 = (if co7 = (x5_2 : Int).toNat then Ao7 else (Ao7 : Option Addr).map (·.add ((x5_2 : Int).toNat * 1))) := ⟨_, rfl⟩; obtain ⟨c43, hc43⟩ : ∃ c1, c1 = co7 - (x5_2 : Int).toNat := ⟨_, rfl⟩; have hy43 : y140.length = x3_1.length - (x5_2 : Int).toNat := (by rw [Ny140.out, List.length_drop] <;> omega); rw [show (x3_1).drop (x5_2 : Int).toNat = y140 from Ny140.out.symm] at hr43; replace hr43 : Kd.C Kd.string _ A43 y140.length y140 := (by rw [hA43]; exact hr43); rw [← hy43, ← hA43, ← hc43] at hcut43; have HR143 := am hr43; have HC143 := am (show y140.length ≤ c43 from by rw [hy43, hc43]; exact Nat.sub_le_sub_right hroom43 _); clear hr43 hC43 hroom43 hi043 hsz43 hc43; have KY43 := am hy43; have KA43 := am hA43; clear hy43 hA43; have KL43 := am (show (x5_2 : Int).toNat ≤ x3_1.length from by omega); replace q43 := eq_true q43) | ((with_reducible refine gate_builtin (b := .append) (xs := #[.tmp 49, .tmp 52]) rfl ?_); at_builtin; refine Kd.R_append_rows Kd.string (w0 := w) w.heap.size rfl (.tmp 49) (.tmp 52) 28 9 (.string ⟨#[]⟩) 16 rfl Try.underlying28 info9 rfl (by decide) (by omega) v138 y137 y140 _ _ _ (fun k_ => some k_ ≠ (.slice Ao7 x3_1.length co7 : Value).ownBlock) (fun _ => False) rfl rfl ?aO ?aR (fun _ _ h => h) (fun _ h => h.elim) ?aF ?aB ?aS ?aL ?_; (case aR => repeat (first | exact (by repeat (first | (with_reducible exact HR143.out) | (with_reducible refine Kd.C_alloc ?_ _) | (with_reducible refine Kd.C_drewN ?_ _) | (with_reducible refine Kd.C_drew ?_) | exact HR143.out)) | (with_reducible refine Kd.C_alloc ?_ _) | (with_reducible refine Kd.C_drewN ?_ _) | (with_reducible refine Kd.C_drew ?_))); (case aB => exact (by repeat (first | (with_reducible first | exact HB.out | apply lA | apply lN | apply lD) | exact HB.out))); (case aF => exact (fun k_ hk => Kd.fresh' (Kd.R_lt (by (with_reducible repeat (first | apply Ra | apply Rn | apply Rd)); exact HO_3.out)) k_ hk)); (case aO => exact (by (with_reducible repeat (first | apply Ra | apply Rn | apply Rd)); exact HO139.out)); (case aS => exact (below_size (by repeat (first | (with_reducible first | exact HB.out | apply lA | apply lN | apply lD) | exact HB.out)))); (case aL => have := LMc37.out; omega); intro v145 w44 ho hb hg hat; rw [← Ny144.out] at ho; replace HB := am (hb); replace HR132 := am ((show Kd.C Kd.string w44 Ao7 y129.length y129 from by rw [Ny129.out]; exact Kd.C_take (m := (x5_2 : Int).toNat) ((Kd.R_reads' (Kd.R_after (ok := (fun _ => True)) (by (with_reducible repeat (first | apply Ra | apply Rn | apply Rd)); exact HO_3.out) hg hat)).2.2) KL40.out)); replace HR143 := am ((show Kd.C Kd.string w44 A43 y140.length y140 from by rw [Ny140.out, KA43.out]; exact Kd.C_drop (m := (x5_2 : Int).toNat) (c := co7) ((Kd.R_reads' (Kd.R_after (ok := (fun _ => True)) (by (with_reducible repeat (first | apply Ra | apply Rn | apply Rd)); exact HO_3.out) hg hat)).2.2) KL43.out ((Kd.R_reads' (Kd.R_after (ok := (fun _ => True)) (by (with_reducible repeat (first | apply Ra | apply Rn | apply Rd)); exact HO_3.out) hg hat)).2.1))); replace HO_3 := am (Kd.R_after (ok := (fun _ => True)) (by (with_reducible repeat (first | apply Ra | apply Rn | apply Rd)); exact HO_3.out) hg hat); have HO146 := am (ho); clear HO139; clear ho hb hg hat)); try go_wp2_with (first | ((with_reducible refine gate_dst (N := 37) rfl ?_); refine Kd.R_lit Kd.string _ 9 ?hg (N := 37) ?hd (xs := ([] : List ByteArray)) (inner := []) (ok := fun _ => True) (okp := fun _ => True) ?hr ?hp (fun _ hk => hk) trivial (Below.refl _ _) (Nat.le_refl _) (by simp) ?_; (case hd => rfl); (case hg => rfl); (case hr => first | (go_simp; done) | (go_simp; rfl)); (case hp => exact (Reps.none _ _)); intro v127 w38 ho39 hb hg_ hnew_; clear hg_ hnew_; (first | rw [← Ny126.out] at ho39 | (simp only [Int.reduceToNat] at ho39; rw [← Ny126.out] at ho39)); have HO128 := am (Kd.R_lower (Kd.R_new' ho39 (Kd.R_lt (by (with_reducible repeat (first | apply Ra | apply Rn | apply Rd)); exact HO_3.out))) (below_size (by repeat (first | (with_reducible first | exact HB.out | apply lA | apply lN | apply lD) | exact HB.out)))); replace HO_3 := am (Kd.R_elder' (by (with_reducible repeat (first | apply Ra | apply Rn | apply Rd)); exact HO_3.out) (Kd.R_base ho39) hb); replace HB := am (below_step (by repeat (first | (with_reducible first | exact HB.out | apply lA | apply lN | apply lD) | exact HB.out)) hb); clear hb ho39; have q40 : (x5_2 : Int) ≤ ((x3_1.length : Int) : Int) := of_decide_eq_true (by first | (with_reducible assumption) | assumption); obtain ⟨i040, hi040, _, hsz40, _⟩ := info_parts info9; have hroom40 : x3_1.length ≤ co7 := (Kd.R_reads' HO_3.out).2.1; have hC40 : Kd.C Kd.string _ Ao7 x3_1.length x3_1 := (Kd.R_reads' HO_3.out).2.2; have hcut40 := cut_to (P := Try.prog) 28 9 .i64 Try.underlying28 hi040 Ao7 x3_1.length co7 x5_2 (of_decide_eq_true (by first | (with_reducible assumption) | assumption)) q40 hroom40; have hr40 := Kd.C_take (m := (x5_2 : Int).toNat) hC40 (by omega); have hy40 : y129.length = (x5_2 : Int).toNat := (by rw [Ny129.out, List.length_take]; omega); rw [← Ny129.out] at hr40; rw [← hy40] at hcut40; have HR132 := am hr40; have HC132 := am (show y129.length ≤ co7 from by omega); clear hr40 hC40 hroom40 hi040 hsz40; have KY40 := am hy40; clear hy40; have KL40 := am (show (x5_2 : Int).toNat ≤ x3_1.length from by omega); replace q40 := eq_true q40) | ((with_reducible refine gate_builtin (b := .append) (xs := #[.tmp 37, .tmp 40]) rfl ?_); at_builtin; refine Kd.R_append_rows Kd.string (w0 := w) w.heap.size rfl (.tmp 37) (.tmp 40) 28 9 (.string ⟨#[]⟩) 16 rfl Try.underlying28 info9 rfl (by decide) (by omega) v127 y126 y129 _ _ _ (fun k_ => some k_ ≠ (.slice Ao7 x3_1.length co7 : Value).ownBlock) (fun _ => False) rfl rfl ?aO ?aR (fun _ _ h => h) (fun _ h => h.elim) ?aF ?aB ?aS ?aL ?_; (case aR => repeat (first | exact (by repeat (first | (with_reducible exact HR132.out) | (with_reducible refine Kd.C_alloc ?_ _) | (with_reducible refine Kd.C_drewN ?_ _) | (with_reducible refine Kd.C_drew ?_) | exact HR132.out)) | (with_reducible refine Kd.C_alloc ?_ _) | (with_reducible refine Kd.C_drewN ?_ _) | (with_reducible refine Kd.C_drew ?_))); (case aB => exact (by repeat (first | (with_reducible first | exact HB.out | apply lA | apply lN | apply lD) | exact HB.out))); (case aF => exact (fun k_ hk => Kd.fresh' (Kd.R_lt (by (with_reducible repeat (first | apply Ra | apply Rn | apply Rd)); exact HO_3.out)) k_ hk)); (case aO => exact (by (with_reducible repeat (first | apply Ra | apply Rn | apply Rd)); exact Kd.R_mono HO128.out (fun _ hk => hk.2))); (case aS => exact (below_size (by repeat (first | (with_reducible first | exact HB.out | apply lA | apply lN | apply lD) | exact HB.out)))); (case aL => have := LMc31.out; omega); intro v134 w41 ho hb hg hat; rw [← Ny133.out] at ho; replace HB := am (hb); replace HR132 := am ((show Kd.C Kd.string w41 Ao7 y129.length y129 from by rw [Ny129.out]; exact Kd.C_take (m := (x5_2 : Int).toNat) ((Kd.R_reads' (Kd.R_after (ok := (fun _ => True)) (by (with_reducible repeat (first | apply Ra | apply Rn | apply Rd)); exact HO_3.out) hg hat)).2.2) KL40.out)); replace HO_3 := am (Kd.R_after (ok := (fun _ => True)) (by (with_reducible repeat (first | apply Ra | apply Rn | apply Rd)); exact HO_3.out) hg hat); have HO135 := am (ho); clear HO128; clear ho hb hg hat; have p136 : 0 ≤ (x4_1 : Int) := of_decide_eq_true (by first | (with_reducible assumption) | assumption); have q136 : x4_1 < (l0.length : Int) := of_decide_eq_true (by first | (with_reducible assumption) | assumption); obtain ⟨ad136, e136, hx136_0⟩ := Kd.at_string HR0.out x4_1 p136 q136; obtain rfl : ad101 = ad136 := (by injection e136); replace hx136_0 := (HB.out.cell (blt_ hx136_0)).trans hx136_0; replace p136 := eq_true p136; replace q136 := eq_true q136) | ((with_reducible refine gate_builtin (b := .append) (xs := #[.tmp 42, .tmp 47]) rfl ?_); at_builtin; refine Kd.R_append Kd.string (w0 := w) w.heap.size rfl (.tmp 42) (.tmp 47) 28 9 (.string ⟨#[]⟩) 16 rfl Try.underlying28 info9 rfl (by decide) (by omega) v134 y133 (rdOf ByteArray.empty l0 x4_1) [.string (rdOf ByteArray.empty l0 x4_1)] (fun k_ => some k_ ≠ (.slice Ao7 x3_1.length co7 : Value).ownBlock) (fun _ => False) rfl rfl ?aP (fun _ hk => hk.elim) ?aF ?aO ?aB ?aS ?aL ?_; (case aP => exact rfl); (case aB => exact (by repeat (first | (with_reducible first | exact HB.out | apply lA | apply lN | apply lD) | exact HB.out))); (case aF => exact (fun k_ hk => Kd.fresh' (Kd.R_lt (by (with_reducible repeat (first | apply Ra | apply Rn | apply Rd)); exact HO_3.out)) k_ hk)); (case aO => exact (by (with_reducible repeat (first | apply Ra | apply Rn | apply Rd)); exact HO135.out)); (case aS => exact (below_size (by repeat (first | (with_reducible first | exact HB.out | apply lA | apply lN | apply lD) | exact HB.out)))); (case aL => have := LMc34.out; omega); intro v138 w42 ho hb hg hat; rw [← Ny137.out] at ho; replace HB := am (hb); replace HR132 := am ((show Kd.C Kd.string w42 Ao7 y129.length y129 from by rw [Ny129.out]; exact Kd.C_take (m := (x5_2 : Int).toNat) ((Kd.R_reads' (Kd.R_after (ok := (fun _ => True)) (by (with_reducible repeat (first | apply Ra | apply Rn | apply Rd)); exact HO_3.out) hg hat)).2.2) KL40.out)); replace HO_3 := am (Kd.R_after (ok := (fun _ => True)) (by (with_reducible repeat (first | apply Ra | apply Rn | apply Rd)); exact HO_3.out) hg hat); have HO139 := am (ho); clear HO135; clear ho hb hg hat; have q43 : (x5_2 : Int) ≤ ((x3_1.length : Int) : Int) := of_decide_eq_true (by first | (with_reducible assumption) | assumption); obtain ⟨i043, hi043, _, hsz43, _⟩ := info_parts info9; have hroom43 : x3_1.length ≤ co7 := (Kd.R_reads' HO_3.out).2.1; have hC43 : Kd.C Kd.string _ Ao7 x3_1.length x3_1 := (Kd.R_reads' HO_3.out).2.2; have q043 : (0 : Int) ≤ (x5_2 : Int) := of_decide_eq_true (by first | (with_reducible assumption) | assumption); have hcut43 := cut_from (P := Try.prog) 28 9 .i64 Try.underlying28 hi043 1 hsz43 Ao7 x3_1.length co7 x5_2 q043 q43; have hr43 := Kd.C_drop (m := (x5_2 : Int).toNat) (c := co7) hC43 (by omega) hroom43; obtain ⟨A43, hA43⟩ : ∃ A1, A1 = (if co7 = (x5_2 : Int).toNat then Ao7 else (Ao7 : Option Addr).map (·.add ((x5_2 : Int).toNat * 1))) := ⟨_, rfl⟩; obtain ⟨c43, hc43⟩ : ∃ c1, c1 = co7 - (x5_2 : Int).toNat := ⟨_, rfl⟩; have hy43 : y140.length = x3_1.length - (x5_2 : Int).toNat := (by rw [Ny140.out, List.length_drop] <;> omega); rw [show (x3_1).drop (x5_2 : Int).toNat = y140 from Ny140.out.symm] at hr43; replace hr43 : Kd.C Kd.string _ A43 y140.length y140 := (by rw [hA43]; exact hr43); rw [← hy43, ← hA43, ← hc43] at hcut43; have HR143 := am hr43; have HC143 := am (show y140.length ≤ c43 from by rw [hy43, hc43]; exact Nat.sub_le_sub_right hroom43 _); clear hr43 hC43 hroom43 hi043 hsz43 hc43; have KY43 := am hy43; have KA43 := am hA43; clear hy43 hA43; have KL43 := am (show (x5_2 : Int).toNat ≤ x3_1.length from by omega); replace q43 := eq_true q43) | ((with_reducible refine gate_builtin (b := .append) (xs := #[.tmp 49, .tmp 52]) rfl ?_); at_builtin; refine Kd.R_append_rows Kd.string (w0 := w) w.heap.size rfl (.tmp 49) (.tmp 52) 28 9 (.string ⟨#[]⟩) 16 rfl Try.underlying28 info9 rfl (by decide) (by omega) v138 y137 y140 _ _ _ (fun k_ => some k_ ≠ (.slice Ao7 x3_1.length co7 : Value).ownBlock) (fun _ => False) rfl rfl ?aO ?aR (fun _ _ h => h) (fun _ h => h.elim) ?aF ?aB ?aS ?aL ?_; (case aR => repeat (first | exact (by repeat (first | (with_reducible exact HR143.out) | (with_reducible refine Kd.C_alloc ?_ _) | (with_reducible refine Kd.C_drewN ?_ _) | (with_reducible refine Kd.C_drew ?_) | exact HR143.out)) | (with_reducible refine Kd.C_alloc ?_ _) | (with_reducible refine Kd.C_drewN ?_ _) | (with_reducible refine Kd.C_drew ?_))); (case aB => exact (by repeat (first | (with_reducible first | exact HB.out | apply lA | apply lN | apply lD) | exact HB.out))); (case aF => exact (fun k_ hk => Kd.fresh' (Kd.R_lt (by (with_reducible repeat (first | apply Ra | apply Rn | apply Rd)); exact HO_3.out)) k_ hk)); (case aO => exact (by (with_reducible repeat (first | apply Ra | apply Rn | apply Rd)); exact HO139.out)); (case aS => exact (below_size (by repeat (first | (with_reducible first | exact HB.out | apply lA | apply lN | apply lD) | exact HB.out)))); (case aL => have := LMc37.out; omega); intro v145 w44 ho hb hg hat; rw [← Ny144.out] at ho; replace HB := am (hb); replace HR132 := am ((show Kd.C Kd.string w44 Ao7 y129.length y129 from by rw [Ny129.out]; exact Kd.C_take (m := (x5_2 : Int).toNat) ((Kd.R_reads' (Kd.R_after (ok := (fun _ => True)) (by (with_reducible repeat (first | apply Ra | apply Rn | apply Rd)); exact HO_3.out) hg hat)).2.2) KL40.out)); replace HR143 := am ((show Kd.C Kd.string w44 A43 y140.length y140 from by rw [Ny140.out, KA43.out]; exact Kd.C_drop (m := (x5_2 : Int).toNat) (c := co7) ((Kd.R_reads' (Kd.R_after (ok := (fun _ => True)) (by (with_reducible repeat (first | apply Ra | apply Rn | apply Rd)); exact HO_3.out) hg hat)).2.2) KL43.out ((Kd.R_reads' (Kd.R_after (ok := (fun _ => True)) (by (with_reducible repeat (first | apply Ra | apply Rn | apply Rd)); exact HO_3.out) hg hat)).2.1))); replace HO_3 := am (Kd.R_after (ok := (fun _ => True)) (by (with_reducible repeat (first | apply Ra | apply Rn | apply Rd)); exact HO_3.out) hg hat); have HO146 := am (ho); clear HO139; clear ho hb hg hat)))
                go_roundg k2
                case measure => have := HK1.out; have := HK2.out; omega
                case rel => exact ⟨(y144), (wrap64 (x4_1 + 1)), (by first | rfl | (simp; done) | (simp [*]; done)), H', ⟨by have := HK1.out; have := HK2.out; omega⟩, ⟨by (with_reducible repeat (first | apply Ra | apply Rn | apply Rd)); exact Kd.R_mono HO146.out (fun _ hk => trivial)⟩, ⟨by repeat (first | (with_reducible first | exact HB.out | apply lA | apply lN | apply lD) | exact HB.out)⟩⟩
               ·rw [if_neg c37] at H
                exact absurd H (by simp)
              ·rw [if_neg c34] at H
               exact absurd H (by simp)
             ·rw [if_neg c33] at H
              exact absurd H (by simp)
            ·rw [if_neg c32] at H
             exact absurd H (by simp)
           ·rw [if_neg c31] at H
            exact absurd H (by simp)
          ·rw [if_neg c30] at H
           exact absurd H (by simp)
         ·rw [if_neg c29] at H
          exact absurd H (by simp)
    ·rw [if_neg c3] at H
     exact absurd H (by simp)
   ·rw [if_neg c2] at H
    have c2b0 : decide (x4_1 < (l0.length : Int)) = false := decide_eq_false c2
    clear c2
    obtain rfl := Option.some.inj H
    go_wp2
    repeat (go_quiet (fail); try go_wp2)
    go_ret
    exact ⟨_, by first | rfl | (simp [errW_none, errW_some] <;> rfl) | (simp [*, errW_none, errW_some] <;> rfl), by (with_reducible repeat (first | apply Ra | apply Rn | apply Rd)); exact HO_3.out, by repeat (first | (with_reducible first | exact HB.out | apply lA | apply lN | apply lD) | exact HB.out)⟩
end Go.Proofs.Ythpejcnldecmoaa.H
namespace Go.Proofs.Ythpejcnldecmoaa.H
open Go.RowKit Go.Proofs.YthpejcnldecmoaaW.PrintWords
set_option linter.unusedVariables false
set_option linter.unusedSimpArgs false
set_option linter.unusedSectionVars false
def SS (l : List ByteArray) : Prop := (l.map toL).Pairwise (· < ·)
theorem SS_nodup {l : List ByteArray} (h : SS l) : (l.map toL).Nodup := List.Pairwise.imp (R := (· < ·)) (fun {a b} h => by rintro rfl; exact List.lt_irrefl a h) h
theorem SS_ext {a b : List ByteArray} (ha : SS a) (hb : SS b) (h : ∀ x, x ∈ a ↔ x ∈ b) : a = b := by
  have e : a.map toL = b.map toL := by
    refine List.Perm.eq_of_pairwise (le := (· < ·)) ?_ ha hb ((List.perm_ext_iff_of_nodup (SS_nodup ha) (SS_nodup hb)).2 fun x => ?_)
    · intro a b _ _ h1 h2
      exact absurd (List.lt_trans h1 h2) (List.lt_irrefl a)
    · rw [List.mem_map, List.mem_map]
      exact ⟨fun ⟨y, hy, e⟩ => ⟨y, (h y).1 hy, e⟩, fun ⟨y, hy, e⟩ => ⟨y, (h y).2 hy, e⟩⟩
  have := congrArg (List.map ofL) e
  rw [List.map_map, List.map_map] at this
  have e2 : (ofL ∘ toL) = (id : ByteArray → ByteArray) := by funext x; simp [ofL_toL]
  simpa [e2] using this
theorem less_iff (a b : ByteArray) : Op.bytesLess a.toList b.toList = true ↔ toL a < toL b := by
  rw [Proofs.bytesLess_eq, ByteArray.toList_eq, ByteArray.toList_eq, decide_eq_true_iff]
  rfl
theorem SS_insert {x3 : List ByteArray} {y : ByteArray} {n : Nat} (hs : SS x3) (h1 : ∀ z ∈ x3.drop n, toL y < toL z) (h2 : ∀ z ∈ x3.take n, toL z < toL y) : SS (x3.take n ++ [y] ++ x3.drop n) := by
  unfold SS at hs ⊢
  rw [← List.take_append_drop n x3, List.map_append, List.pairwise_append] at hs
  simp only [List.map_append, List.map_cons, List.map_nil, List.append_assoc, List.singleton_append]
  rw [List.pairwise_append]
  refine ⟨hs.1, List.pairwise_cons.2 ⟨fun z hz => ?_, hs.2.1⟩, fun a ha b hb => ?_⟩
  · obtain ⟨q, hq, rfl⟩ := List.mem_map.1 hz; exact h1 q hq
  · rcases List.mem_cons.1 hb with rfl | hb
    · obtain ⟨q, hq, rfl⟩ := List.mem_map.1 ha; exact h2 q hq
    · exact hs.2.2 a ha b hb
theorem Sorted_l1 (l : List ByteArray) (x3 : List ByteArray) (i : Nat) (y : ByteArray) (hl : l.length ≤ 1000000) (hx : x3.length ≤ 1000000) (hy : l[i]? = some y) (hs : SS x3) (hno : ¬ y ∈ x3) (R : List ByteArray)
    (go : ∀ x', SS x' → (∀ x, x ∈ x' ↔ x = y ∨ x ∈ x3) → x'.length = x3.length + 1 → Ev (fun k => lambrequinref09_Sorted.l0 k l x' ((i + 1 : Nat) : Int)) R) : ∀ (n : Nat), n ≤ x3.length → (∀ z ∈ x3.drop n, toL y < toL z) →
    Ev (fun k => lambrequinref09_Sorted.l1 k l x3 i n) R := by
  have hil : i < l.length := (List.getElem?_eq_some_iff.1 hy).1
  have put : ∀ n : Nat, n ≤ x3.length → (∀ z ∈ x3.drop n, toL y < toL z) → (∀ z ∈ x3.take n, toL z < toL y) → Ev (fun k => lambrequinref09_Sorted.l0 k l ([] ++ x3.take n ++ [y] ++ x3.drop n) ((i + 1 : Nat) : Int)) R := by
    intro n hn h1 h2
    rw [List.nil_append]
    refine go _ (SS_insert hs h1 h2) (fun x => ?_) (by simp; omega)
    rw [List.mem_append, List.mem_append, List.mem_singleton]
    constructor
    · rintro ((h | h) | h)
      · exact .inr (List.mem_of_mem_take h)
      · exact .inl h
      · exact .inr (List.mem_of_mem_drop h)
    · rintro (h | h)
      · exact .inl (.inr h)
      · rw [← List.take_append_drop n x3, List.mem_append] at h
        rcases h with h | h
        · exact .inl (.inl h)
        · exact .inr h
  intro n
  induction n with
  | zero =>
    intro hn h1
    refine Ev.step (fun k => by rw [lambrequinref09_Sorted.l1]) ?_
    refine Ev.neg (by omega) (Ev.pure (a := []) rfl (Ev.pos (by omega) (Ev.pos (by omega) (Ev.pure (a := x3.take 0) rfl (Ev.pos (by simp) (Ev.pure (a := [] ++ x3.take 0) rfl ?_))))))
    refine Ev.pos (by omega) (Ev.pos (by omega) (Ev.pos (by simp) (Ev.pure (a := [] ++ x3.take 0 ++ [y]) ?_ (Ev.pure (a := x3.drop 0) rfl (Ev.pos (by simp; omega) ?_)))))
    · rw [show rdOf ByteArray.empty l i = y from getD_at hy _]
    · rw [wrap_up (by omega)]
      exact put 0 hn h1 (by simp)
  | succ n ih =>
    intro hn h1
    have hw : wrap64 (((n + 1 : Nat) : Int) - 1) = (n : Int) := by unfold wrap64; omega
    have hp : x3[n]? = some (x3[n]'(by omega)) := List.getElem?_eq_getElem (by omega)
    have hpm : x3[n]'(by omega) ∈ x3 := List.getElem_mem _
    refine Ev.step (fun k => by rw [lambrequinref09_Sorted.l1, hw]) ?_
    refine Ev.pos (by omega) (Ev.pos (by omega) (Ev.pos (by omega) (Ev.pos (by omega) (Ev.pos (by omega) ?_))))
    rw [show rdOf ByteArray.empty l i = y from getD_at hy _, show rdOf ByteArray.empty x3 n = x3[n]'(by omega) from getD_at hp _]
    have hdrop : x3.drop n = x3[n]'(by omega) :: x3.drop (n + 1) := List.drop_eq_getElem_cons (by omega)
    by_cases c : toL y < toL (x3[n]'(by omega))
    · refine Ev.pos ((less_iff _ _).2 c) (ih (by omega) fun z hz => ?_)
      rw [hdrop] at hz
      rcases List.mem_cons.1 hz with rfl | hz
      · exact c
      · exact h1 z hz
    · refine Ev.neg (by rw [less_iff]; exact c) ?_
      have hlt : toL (x3[n]'(by omega)) < toL y := by
        rcases List.le_iff_lt_or_eq.1 (List.not_lt.1 c) with h | h
        · exact h
        · exact absurd (toL_inj h ▸ hpm) hno
      have h2 : ∀ z ∈ x3.take (n + 1), toL z < toL y := by
        intro z hz
        rw [List.take_add_one, hp] at hz
        rcases List.mem_append.1 hz with hz | hz
        · unfold SS at hs
          rw [← List.take_append_drop n x3, List.map_append, List.pairwise_append] at hs
          refine List.lt_trans (hs.2.2 (toL z) (List.mem_map.2 ⟨z, hz, rfl⟩) (toL (x3[n]'(by omega))) (List.mem_map.2 ⟨x3[n]'(by omega), by rw [hdrop]; exact List.mem_cons_self, rfl⟩)) hlt
        · simp at hz
          rw [hz]; exact hlt
      refine Ev.pure (a := []) rfl (Ev.pos (by omega) (Ev.pos (by omega) (Ev.pure (a := x3.take (n + 1)) rfl (Ev.pos (by simp; omega) (Ev.pure (a := [] ++ x3.take (n + 1)) rfl ?_)))))
      refine Ev.pos (by simp; omega) (Ev.pure (a := [] ++ x3.take (n + 1) ++ [y]) rfl (Ev.pure (a := x3.drop (n + 1)) rfl (Ev.pos (by simp; omega) ?_)))
      rw [wrap_up (by omega)]
      exact put (n + 1) hn h1 h2
theorem Sorted_l0 (l : List ByteArray) (hl : l.length ≤ 1000000) : ∀ (r : List ByteArray) (n : Nat) (x3 : List ByteArray), l.drop n = r → n ≤ l.length → SS x3 → (∀ x, x ∈ x3 ↔ x ∈ l.take n) → x3.length ≤ n → Ev (fun k => lambrequinref09_Sorted.l0 k l x3 n) (setS l)
  | [], n, x3, h, hn, hs, hm, hc => by
    have hz : l.length ≤ n := by
      have := congrArg List.length h
      simp at this
      omega
    refine Ev.step (fun k => by rw [lambrequinref09_Sorted.l0]) ?_
    refine Ev.neg (drop_end h) (Ev.some (SS_ext hs (setS_sorted l) fun x => ?_))
    rw [hm, List.take_of_length_le hz, mem_setS]
  | y :: r, n, x3, h, hn, hs, hm, hc => by
    obtain ⟨h1, h2, h3, h4, h5⟩ := drop_more h (by omega)
    have hy : l[n]? = some y := by
      have := congrArg (fun z => z[0]?) h
      simpa using this
    have htake : ∀ x, x ∈ l.take (n + 1) ↔ x = y ∨ x ∈ l.take n := by
      intro x
      rw [List.take_add_one, hy, List.mem_append]
      simp [or_comm]
    refine Ev.step (fun k => by rw [lambrequinref09_Sorted.l0]) ?_
    refine Ev.pos h1 (Ev.pos h2 ?_)
    rw [show rdOf ByteArray.empty l n = y from h3 _, h5]
    refine Ev.bind (In_ev x3 y (by omega)) ?_
    cases hmm : mem y x3 with
    | true =>
      have hyx := mem_iff.1 hmm
      refine Ev.pos rfl (Sorted_l0 l hl r (n + 1) x3 h4 (by omega) hs (fun x => ?_) (by omega))
      rw [htake, ← hm]
      exact ⟨.inr, fun h => by rcases h with rfl | h; exact hyx; exact h⟩
    | false =>
      refine Ev.neg (by simp) ?_
      refine Sorted_l1 l x3 n y hl (by omega) hy hs (by rw [← mem_iff, hmm]; simp) _ (fun x' hs' hm' hc' => ?_) x3.length (Nat.le_refl _) (by simp)
      refine Sorted_l0 l hl r (n + 1) x' h4 (by omega) hs' (fun x => ?_) (by omega)
      rw [htake, hm', hm]
theorem Sorted_ev (l : List ByteArray) (hl : l.length ≤ 1000000) : Ev (fun k => lambrequinref09_Sorted.f k l) (setS l) := Sorted_l0 l hl l 0 [] rfl (by omega) (by simp [SS]) (by simp) (by simp)
end Go.Proofs.Ythpejcnldecmoaa.H
namespace Go.Proofs.Ythpejcnldecmoaa.H
open Go.RowKit Go.Proofs.YthpejcnldecmoaaW.PrintWords Go.Proofs.YthpejcnldecmoaaW.PrintLast Go.Proofs.YthpejcnldecmoaaW.PrintMore
attribute [local go_sem] max2_int min2_int max_two min_two max_three min_three max_four min_four
set_option linter.unusedVariables false
set_option linter.unusedSimpArgs false
def slices_Index_string_string.l0 : Nat → List ByteArray → ByteArray → Int → Int → Option (Int)
 | 0, _, _, _, _ => none
 | k + 1, x0, x1, x7, x8 => if x8 < x7 then (if 0 ≤ x8 then (if x8 < (x0.length : Int) then (if x1.toList = (rdOf ByteArray.empty x0 x8).toList then (some x8) else (slices_Index_string_string.l0 k x0 x1 x7 (wrap64 (x8 + 1)))) else (none)) else (none)) else (some (-1))
def slices_Index_string_string.f (k : Nat) (l0 : List ByteArray) (a1 : ByteArray) : Option (Int) := slices_Index_string_string.l0 k l0 a1 (l0.length : Int) 0
theorem slices_Index_string_string.mono_l : ∀ k, (∀ y0 y1 y2 y3, LeO (slices_Index_string_string.l0 k y0 y1 y2 y3) (slices_Index_string_string.l0 (k + 1) y0 y1 y2 y3))
 | 0 => fun _ _ _ _ r h => by simp [slices_Index_string_string.l0] at h
 | k + 1 => by
  have ih0 := slices_Index_string_string.mono_l k
  ·intro y0 y1 y2 y3
   unfold slices_Index_string_string.l0
   repeat' first
   | (with_reducible exact ih0 _ _ _ _)
   | (with_reducible exact LeO.refl _)
   | (with_reducible exact LeO.none _)
   | (with_reducible refine LeO.ite ?_ ?_)
   | (with_reducible refine LeO.bind ?_ (fun _ => ?_))
   | exact ih0 _ _ _ _
   | exact LeO.none _
   | refine LeO.ite ?_ ?_
   | refine LeO.bind ?_ (fun _ => ?_)
theorem slices_Index_string_string.mono : ∀ a0 a1 k, LeO (slices_Index_string_string.f k a0 a1) (slices_Index_string_string.f (k + 1) a0 a1) := by
 intro a0 a1 k
 have ih0 := slices_Index_string_string.mono_l k
 unfold slices_Index_string_string.f
 repeat' first
   | (with_reducible exact ih0 _ _ _ _)
   | (with_reducible exact LeO.refl _)
   | (with_reducible exact LeO.none _)
   | (with_reducible refine LeO.ite ?_ ?_)
   | (with_reducible refine LeO.bind ?_ (fun _ => ?_))
   | exact ih0 _ _ _ _
   | exact LeO.none _
   | refine LeO.ite ?_ ?_
   | refine LeO.bind ?_ (fun _ => ?_)
set_option maxHeartbeats 8000000 in
set_option maxRecDepth 100000 in
theorem slices_Index_string_string.calls (k : Nat) (A0 : Option Addr) (c0 : Nat) (l0 : List ByteArray) (a1 : ByteArray) (r : Int) (w : World) (hr0 : Kd.C Kd.string w A0 l0.length l0) (hc0 : l0.length ≤ c0) (h : slices_Index_string_string.f k l0 a1 = some r) :
  Calls Try.prog 60 #[.slice A0 l0.length c0, .string a1] w fun e w' => e = .returned (.int .i64 r) ∧ Drawn0 w w' := by
 have HR0 := Aside0.mk hr0
 have HC0 := Aside0.mk hc0
 clear hr0 hc0
 have H : (slices_Index_string_string.l0 k l0 a1 (l0.length : Int) 0) = some r := h
 clear h
 have H' := Aside0.mk H
 clear H
 go_enter Try.func60, Try.ntmps60
 go_wp2
 go_loopg [8] k (fun kq v8 w' => ∃ (x8_1 : Int), v8 = .int .i64 x8_1 ∧ Aside0 (slices_Index_string_string.l0 kq l0 a1 (l0.length : Int) x8_1 = some r) ∧ Aside0 (kq ≤ k) ∧ Drawn0 w w')
 case atStart => exact ⟨(0), (by first | rfl | (simp; done) | (simp [*]; done)), H', ⟨Nat.le_refl _⟩, by repeat (first | exact Drawn0.refl _ | apply Drawn0.step)⟩
 case round =>
  clear H'
  try clear p2
  obtain ⟨x8_1, rfl, HA, HK1, ⟨m1, rfl⟩⟩ := hrel
  cases gk with
  | zero => exact absurd HA.out (by simp [slices_Index_string_string.l0])
  | succ k1 =>
   have H := HA.out
   clear HA
   simp only [slices_Index_string_string.l0] at H
   by_cases c3 : x8_1 < (l0.length : Int)
   ·rw [if_pos c3] at H
    have c3b0 : decide (x8_1 < (l0.length : Int)) = true := decide_eq_true c3
    clear c3
    by_cases c4 : 0 ≤ x8_1
    ·rw [if_pos c4] at H
     have c4b0 : decide (0 ≤ x8_1) = true := decide_eq_true c4
     clear c4
     by_cases c5 : x8_1 < (l0.length : Int)
     ·rw [if_pos c5] at H
      have c5b0 : decide (x8_1 < (l0.length : Int)) = true := decide_eq_true c5
      clear c5
      by_cases c6 : a1.toList = (rdOf ByteArray.empty l0 x8_1).toList
      ·rw [if_pos c6] at H
       have c6b0 : (a1.toList == (rdOf ByteArray.empty l0 x8_1).toList) = true := beq_iff_eq.mpr c6
       have c6b1 : (a1.toList != (rdOf ByteArray.empty l0 x8_1).toList) = false := bne_eq_false_iff_eq.mpr c6
       clear c6
       obtain rfl := Option.some.inj H
       have p101 : 0 ≤ (x8_1 : Int) := of_decide_eq_true (by first | (with_reducible assumption) | assumption)
       have q101 : x8_1 < (l0.length : Int) := of_decide_eq_true (by first | (with_reducible assumption) | assumption)
       obtain ⟨ad101, e101, hx101_0⟩ := Kd.at_string HR0.out x8_1 p101 q101
       cases e101
       replace p101 := eq_true p101
       replace q101 := eq_true q101
       go_wp2
       go_ret
       exact ⟨by first | rfl | (simp; done) | (simp [*]; done), by repeat (first | exact Drawn0.refl _ | apply Drawn0.step)⟩
      ·rw [if_neg c6] at H
       have c6b0 : (a1.toList == (rdOf ByteArray.empty l0 x8_1).toList) = false := beq_eq_false_iff_ne.mpr c6
       have c6b1 : (a1.toList != (rdOf ByteArray.empty l0 x8_1).toList) = true := bne_iff_ne.mpr c6
       have H' := Aside0.mk H
       clear H
       have p101 : 0 ≤ (x8_1 : Int) := of_decide_eq_true (by first | (with_reducible assumption) | assumption)
       have q101 : x8_1 < (l0.length : Int) := of_decide_eq_true (by first | (with_reducible assumption) | assumption)
       obtain ⟨ad101, e101, hx101_0⟩ := Kd.at_string HR0.out x8_1 p101 q101
       cases e101
       replace p101 := eq_true p101
       replace q101 := eq_true q101
       go_wp2
       go_roundg k1
       case measure => have := HK1.out; omega
       case rel => exact ⟨(wrap64 (x8_1 + 1)), (by first | rfl | (simp; done) | (simp [*]; done)), H', ⟨by have := HK1.out; omega⟩, by repeat (first | exact Drawn0.refl _ | apply Drawn0.step)⟩
     ·rw [if_neg c5] at H
      exact absurd H (by simp)
    ·rw [if_neg c4] at H
     exact absurd H (by simp)
   ·rw [if_neg c3] at H
    have c3b0 : decide (x8_1 < (l0.length : Int)) = false := decide_eq_false c3
    clear c3
    obtain rfl := Option.some.inj H
    go_wp2
    go_ret
    exact ⟨by first | rfl | (simp; done) | (simp [*]; done), by repeat (first | exact Drawn0.refl _ | apply Drawn0.step)⟩
end Go.Proofs.Ythpejcnldecmoaa.H
namespace Go.Proofs.Ythpejcnldecmoaa.H
open Go.RowKit Go.Proofs.YthpejcnldecmoaaW.PrintWords Go.Proofs.YthpejcnldecmoaaW.PrintLast Go.Proofs.YthpejcnldecmoaaW.PrintMore
attribute [local go_sem] max2_int min2_int max_two min_two max_three min_three max_four min_four
set_option linter.unusedVariables false
set_option linter.unusedSimpArgs false
def slices_Contains_string_string.f (k : Nat) (l0 : List ByteArray) (a1 : ByteArray) : Option (Bool) := (slices_Index_string_string.f k l0 a1).bind fun t101 => (some (decide (t101 ≥ 0)))
theorem slices_Contains_string_string.mono : ∀ a0 a1 k, LeO (slices_Contains_string_string.f k a0 a1) (slices_Contains_string_string.f (k + 1) a0 a1) := by
 intro a0 a1 k
 unfold slices_Contains_string_string.f
 repeat' first
   | (with_reducible exact slices_Index_string_string.mono _ _ _)
   | (with_reducible exact LeO.refl _)
   | (with_reducible exact LeO.none _)
   | (with_reducible refine LeO.ite ?_ ?_)
   | (with_reducible refine LeO.bind ?_ (fun _ => ?_))
   | exact slices_Index_string_string.mono _ _ _
   | exact LeO.none _
   | refine LeO.ite ?_ ?_
   | refine LeO.bind ?_ (fun _ => ?_)
set_option maxHeartbeats 8000000 in
set_option maxRecDepth 100000 in
theorem slices_Contains_string_string.calls (k : Nat) (A0 : Option Addr) (c0 : Nat) (l0 : List ByteArray) (a1 : ByteArray) (r : Bool) (w : World) (hr0 : Kd.C Kd.string w A0 l0.length l0) (hc0 : l0.length ≤ c0) (h : slices_Contains_string_string.f k l0 a1 = some r) :
  Calls Try.prog 45 #[.slice A0 l0.length c0, .string a1] w fun e w' => e = .returned (.bool r) ∧ Drawn0 w w' := by
 have HR0 := Aside0.mk hr0
 have HC0 := Aside0.mk hc0
 clear hr0 hc0
 have H : ((slices_Index_string_string.f k l0 a1).bind fun t101 => (some (decide (t101 ≥ 0)))) = some r := h
 clear h
 replace H := Option.bind_eq_some_iff.mp H
 obtain ⟨t101, A30, H⟩ := H
 replace H : (some (decide (t101 ≥ 0))) = some r := H
 have A3 := Aside0.mk A30
 clear A30
 obtain rfl := Option.some.inj H
 go_enter Try.func45, Try.ntmps45
 go_wp2_with (first | ((with_reducible refine gate_callee (f := 60) rfl ?_); refine goesL_ (some 7) rfl rfl Try.func60 (by kernel_rfl) rfl #[.slice A0 l0.length c0, .string a1] rfl (by (try simp only [List.map_toArray, List.map_cons, List.map_nil]); first | done | rfl | (simp only [List.length_drop, List.length_take]; rfl)) ?_; (with_reducible refine (slices_Index_string_string.calls k _ _ l0 a1 t101 _ ?side1 ?side2 A3.out).mono ?_); (case side1 => repeat (first | exact HR0.out | (with_reducible refine Kd.C_alloc ?_ _) | (with_reducible refine Kd.C_drewN ?_ _) | (with_reducible refine Kd.C_drew ?_))); (case side2 => exact HC0.out); rintro e w' ⟨rfl, ⟨nd, rfl⟩⟩; refine ⟨_, rfl, ?_⟩))
 go_ret
 exact ⟨by first | rfl | (simp; done) | (simp [*]; done), by repeat (first | exact Drawn0.refl _ | apply Drawn0.step)⟩
end Go.Proofs.Ythpejcnldecmoaa.H
namespace Go.Proofs.Ythpejcnldecmoaa.H
open Go.RowKit Go.Proofs.YthpejcnldecmoaaW.PrintWords
set_option linter.unusedVariables false
theorem Index_l0 (l : List ByteArray) (s : ByteArray) (hl : l.length ≤ 9223372036854775807) : ∀ (r : List ByteArray) (n : Nat), l.drop n = r → ∃ v : Int, Ev (fun k => slices_Index_string_string.l0 k l s (l.length : Int) n) v ∧ decide (v ≥ 0) = mem s r
  | [], n, h => by
    refine ⟨-1, Ev.step (fun k => by rw [slices_Index_string_string.l0]) ?_, by simp [mem]⟩
    exact Ev.neg (drop_end h) (Ev.now _)
  | y :: r, n, h => by
    obtain ⟨h1, h2, h3, h4, h5⟩ := drop_more h hl
    obtain ⟨v, hv, e⟩ := Index_l0 l s hl r (n + 1) h4
    by_cases c : s = y
    · refine ⟨n, Ev.step (fun k => by rw [slices_Index_string_string.l0]) ?_, by simp [mem, c]⟩
      refine Ev.pos h1 (Ev.pos h2 (Ev.pos h1 ?_))
      rw [show rdOf ByteArray.empty l n = y from h3 _]
      exact Ev.pos (by rw [c]) (Ev.now _)
    · refine ⟨v, Ev.step (fun k => by rw [slices_Index_string_string.l0]) ?_, by rw [e]; simp [mem, c]⟩
      refine Ev.pos h1 (Ev.pos h2 (Ev.pos h1 ?_))
      rw [show rdOf ByteArray.empty l n = y from h3 _, h5]
      exact Ev.neg (by rw [lib_ba_eq]; exact c) hv
theorem Contains_ev (l : List ByteArray) (s : ByteArray) (hl : l.length ≤ 9223372036854775807) : Ev (fun k => slices_Contains_string_string.f k l s) (mem s l) := by
  obtain ⟨v, hv, e⟩ := Index_l0 l s hl l 0 rfl
  exact Ev.bind hv (Ev.some e)
end Go.Proofs.Ythpejcnldecmoaa.H
namespace Go.Proofs.Ythpejcnldecmoaa.H
open Go.RowKit Go.Proofs.YthpejcnldecmoaaW.PrintWords Go.Proofs.YthpejcnldecmoaaW.PrintLast Go.Proofs.YthpejcnldecmoaaW.PrintMore
attribute [local go_sem] max2_int min2_int max_two min_two max_three min_three max_four min_four
set_option linter.unusedVariables false
set_option linter.unusedSimpArgs false
def safe_names.l0 : Nat → List ByteArray → List (Term) → Int → Int → Option (List ByteArray)
 | 0, _, _, _, _ => none
 | k + 1, x3, x6, x7, x8 => if x8 < x7 then (if 0 ≤ x8 then (if x8 < (x6.length : Int) then (if (rd_T45 x6 x8).isVar = true then ((slices_Contains_string_string.f k x3 ((rd_T45 x6 x8).name)).bind fun t103 => (if t103 = true then (safe_names.l0 k x3 x6 x7 (wrap64 (x8 + 1))) else (if x3.length < 8796093022208 then (safe_names.l0 k (x3 ++ [(rd_T45 x6 x8).name]) x6 x7 (wrap64 (x8 + 1))) else (none)))) else (safe_names.l0 k x3 x6 x7 (wrap64 (x8 + 1)))) else (none)) else (none)) else (some x3)
def safe_names.f (k : Nat) (l0 : List (Term)) : Option (List ByteArray) := safe_names.l0 k ([] : List ByteArray) l0 (l0.length : Int) 0
theorem safe_names.mono_l : ∀ k, (∀ y0 y1 y2 y3, LeO (safe_names.l0 k y0 y1 y2 y3) (safe_names.l0 (k + 1) y0 y1 y2 y3))
 | 0 => fun _ _ _ _ r h => by simp [safe_names.l0] at h
 | k + 1 => by
  have ih0 := safe_names.mono_l k
  ·intro y0 y1 y2 y3
   unfold safe_names.l0
   repeat' first
   | (with_reducible exact ih0 _ _ _ _)
   | (with_reducible exact slices_Contains_string_string.mono _ _ _)
   | (with_reducible exact LeO.refl _)
   | (with_reducible exact LeO.none _)
   | (with_reducible refine LeO.ite ?_ ?_)
   | (with_reducible refine LeO.bind ?_ (fun _ => ?_))
   | exact ih0 _ _ _ _
   | exact slices_Contains_string_string.mono _ _ _
   | exact LeO.none _
   | refine LeO.ite ?_ ?_
   | refine LeO.bind ?_ (fun _ => ?_)
theorem safe_names.mono : ∀ a0 k, LeO (safe_names.f k a0) (safe_names.f (k + 1) a0) := by
 intro a0 k
 have ih0 := safe_names.mono_l k
 unfold safe_names.f
 repeat' first
   | (with_reducible exact ih0 _ _ _ _)
   | (with_reducible exact slices_Contains_string_string.mono _ _ _)
   | (with_reducible exact LeO.refl _)
   | (with_reducible exact LeO.none _)
   | (with_reducible refine LeO.ite ?_ ?_)
   | (with_reducible refine LeO.bind ?_ (fun _ => ?_))
   | exact ih0 _ _ _ _
   | exact slices_Contains_string_string.mono _ _ _
   | exact LeO.none _
   | refine LeO.ite ?_ ?_
   | refine LeO.bind ?_ (fun _ => ?_)
set_option maxHeartbeats 8000000 in
set_option maxRecDepth 100000 in
theorem safe_names.calls (k : Nat) (A0 : Option Addr) (c0 : Nat) (l0 : List (Term)) (r : List ByteArray) (w : World) (hr0 : Kd.C k45 w A0 l0.length l0) (hc0 : l0.length ≤ c0) (h : safe_names.f k l0 = some r) :
  Calls Try.prog 51 #[.slice A0 l0.length c0] w fun e w' => ∃ v0_ : Value, e = .returned (v0_) ∧ Kd.R Kd.string 9 w' w.heap.size (fun _ => True) v0_ r ∧ Below w.heap.size w w' := by
 have hu45 := Try.underlying45
 have HR0 := Aside0.mk hr0
 have HC0 := Aside0.mk hc0
 clear hr0 hc0
 have HB := Aside0.mk (Below.refl w.heap.size w)
 have H : (safe_names.l0 k ([] : List ByteArray) l0 (l0.length : Int) 0) = some r := h
 clear h
 have H' := Aside0.mk H
 clear H
 go_enter Try.func51, Try.ntmps51
 go_wp2
 go_loopg [3, 8] k (fun kq v3 v8 w' => ∃ (x3_1 : List ByteArray) (x8_1 : Int), v8 = .int .i64 x8_1 ∧ Aside0 (safe_names.l0 kq x3_1 l0 (l0.length : Int) x8_1 = some r) ∧ Aside0 (kq ≤ k) ∧ Aside0 (Kd.R Kd.string 9 w' w.heap.size (fun _ => True) v3 x3_1) ∧ Aside0 (Below w.heap.size w w'))
 case atStart => exact ⟨(([] : List ByteArray)), (0), (by first | rfl | (simp; done) | (simp [*]; done)), H', ⟨Nat.le_refl _⟩, ⟨by first | exact Kd.R_nil _ _ _ _ _ | exact Kd.N_nil _ _ _ _ _ | exact Kd.V_nil _ _ _ _ _ | exact Kd.Q_nil _ _ _ _ _ | exact Kd.S_nil _ _ _ _ _⟩, ⟨by repeat (first | (with_reducible first | exact HB.out | apply below_alloc | apply pw_below_drewN | apply below_drew1) | exact HB.out)⟩⟩
 case round =>
  clear H'
  obtain ⟨x3_1, x8_1, rfl, HA, HK1, HO_3, HB⟩ := hrel
  cases gk with
  | zero => exact absurd HA.out (by simp [safe_names.l0])
  | succ k1 =>
   have H := HA.out
   clear HA
   simp only [safe_names.l0] at H
   by_cases c2 : x8_1 < (l0.length : Int)
   ·rw [if_pos c2] at H
    have c2b0 : decide (x8_1 < (l0.length : Int)) = true := decide_eq_true c2
    clear c2
    by_cases c3 : 0 ≤ x8_1
    ·rw [if_pos c3] at H
     have c3b0 : decide (0 ≤ x8_1) = true := decide_eq_true c3
     clear c3
     by_cases c4 : x8_1 < (l0.length : Int)
     ·rw [if_pos c4] at H
      have c4b0 : decide (x8_1 < (l0.length : Int)) = true := decide_eq_true c4
      clear c4
      obtain ⟨bq5, hbq5⟩ : ∃ b_ : Bool, b_ = ((rd_T45 l0 x8_1).isVar) := ⟨_, rfl⟩
      replace H : (if bq5 = true then ((slices_Contains_string_string.f k1 x3_1 ((rd_T45 l0 x8_1).name)).bind fun t103 => (if t103 = true then (safe_names.l0 k1 x3_1 l0 (l0.length : Int) (wrap64 (x8_1 + 1))) else (if x3_1.length < 8796093022208 then (safe_names.l0 k1 (x3_1 ++ [(rd_T45 l0 x8_1).name]) l0 (l0.length : Int) (wrap64 (x8_1 + 1))) else (none)))) else (safe_names.l0 k1 x3_1 l0 (l0.length : Int) (wrap64 (x8_1 + 1)))) = some r := by rw [← hbq5] at H; exact H
      have Nbq5 := Aside0.mk hbq5
      clear hbq5
      by_cases c6 : bq5 = true
      ·subst c6
       have H1 : ((slices_Contains_string_string.f k1 x3_1 ((rd_T45 l0 x8_1).name)).bind fun t103 => (if t103 = true then (safe_names.l0 k1 x3_1 l0 (l0.length : Int) (wrap64 (x8_1 + 1))) else (if x3_1.length < 8796093022208 then (safe_names.l0 k1 (x3_1 ++ [(rd_T45 l0 x8_1).name]) l0 (l0.length : Int) (wrap64 (x8_1 + 1))) else (none)))) = some r := by rw [if_pos rfl] at H; exact H
       clear H
       have H := H1
       clear H1
       replace H := Option.bind_eq_some_iff.mp H
       obtain ⟨t103, A70, H⟩ := H
       replace H : (if t103 = true then (safe_names.l0 k1 x3_1 l0 (l0.length : Int) (wrap64 (x8_1 + 1))) else (if x3_1.length < 8796093022208 then (safe_names.l0 k1 (x3_1 ++ [(rd_T45 l0 x8_1).name]) l0 (l0.length : Int) (wrap64 (x8_1 + 1))) else (none))) = some r := H
       have A7 := Aside0.mk A70
       clear A70
       by_cases c8 : t103 = true
       ·subst c8
        have H1 : (safe_names.l0 k1 x3_1 l0 (l0.length : Int) (wrap64 (x8_1 + 1))) = some r := by rw [if_pos rfl] at H; exact H
        clear H
        have H := H1
        clear H1
        have H' := Aside0.mk H
        clear H
        have p101 : 0 ≤ (x8_1 : Int) := of_decide_eq_true (by first | (with_reducible assumption) | assumption)
        have q101 : x8_1 < (l0.length : Int) := of_decide_eq_true (by first | (with_reducible assumption) | assumption)
        obtain ⟨ad101, e101, hx101_0, hx101_1, hx101_2, hx101_3, hx101_4⟩ := at_T45 HR0.out x8_1 p101 q101
        (try rw [← Nbq5.out] at hx101_0)
        (try rw [← Nbq5.out] at hx101_2)
        cases e101
        replace hx101_0 := (HB.out.cell (blt_ hx101_0)).trans hx101_0
        replace hx101_1 := (HB.out.cell (blt_ hx101_1)).trans hx101_1
        replace hx101_2 := (HB.out.cell (blt_ hx101_2)).trans hx101_2
        replace hx101_3 := (HB.out.cell (blt_ hx101_3)).trans hx101_3
        replace hx101_4 := (HB.out.cell (blt_ hx101_4)).trans hx101_4
        replace p101 := eq_true p101
        replace q101 := eq_true q101
        go_wp2_with (first | ((with_reducible refine gate_dst (N := 5) rfl ?_); refine box_event ?hg (N := 5) ?hd (cs := #[.bool false, .string (⟨#[]⟩ : ByteArray), .bool false, .string (⟨#[]⟩ : ByteArray), .int .i64 0]) (t := 45) ?hr ?_; (case hd => rfl); (case hg => rfl); (case hr => first | (go_simp; done) | (go_simp; rfl)); intro gb102 hg w9 hbox hb; have n0_ := Aside0.mk (Kd.R_below (by (with_reducible repeat (first | apply Kd.R_alloc | apply Kd.R_drewN | apply Kd.R_drew)); exact HO_3.out) hb); have n1_ := Aside0.mk (below_step (by repeat (first | (with_reducible first | exact HB.out | apply below_alloc | apply pw_below_drewN | apply below_drew1) | exact HB.out)) hb); have n2_ := Aside0.mk (hbox); have n3_ := Aside0.mk ((by rw [hg]; exact (below_size (by repeat (first | (with_reducible first | exact HB.out | apply below_alloc | apply pw_below_drewN | apply below_drew1) | exact HB.out))) : w.heap.size ≤ gb102)); have n4_ := Aside0.mk ((by rw [hg]; exact (below_size (by repeat (first | (with_reducible first | exact HB.out | apply below_alloc | apply pw_below_drewN | apply below_drew1) | exact HB.out))) : w.heap.size ≤ gb102)); clear HO_3; clear HB; have HO_3 := n0_; have HB := n1_; have BK102 := n2_; have GW102 := n3_; have GE102 := n4_; clear n0_ n1_ n2_ n3_ n4_; clear hb hbox hg; have hcz10_0 : w9.cell? ⟨gb102, 0, none⟩ = some (.bool false) := (blk_cell BK102.out 0).trans rfl; have hcz10_1 : w9.cell? ⟨gb102, 1, none⟩ = some (.string (⟨#[]⟩ : ByteArray)) := (blk_cell BK102.out 1).trans rfl; have hcz10_2 : w9.cell? ⟨gb102, 2, none⟩ = some (.bool false) := (blk_cell BK102.out 2).trans rfl; have hcz10_3 : w9.cell? ⟨gb102, 3, none⟩ = some (.string (⟨#[]⟩ : ByteArray)) := (blk_cell BK102.out 3).trans rfl; have hcz10_4 : w9.cell? ⟨gb102, 4, none⟩ = some (.int .i64 0) := (blk_cell BK102.out 4).trans rfl; have hfz10_0 := blk_frozen BK102.out 0; have hfz10_1 := blk_frozen BK102.out 1; have hfz10_2 := blk_frozen BK102.out 2; have hfz10_3 := blk_frozen BK102.out 3; have hfz10_4 := blk_frozen BK102.out 4; obtain ⟨Ao11, co11, eo11⟩ := Kd.R_slice HO_3.out; subst eo11) | (go_at_call 45; (with_reducible refine (slices_Contains_string_string.calls k1 _ _ x3_1 ((rd_T45 l0 x8_1).name) true _ ?side1 ?side2 A7.out).mono ?_); (case side1 => refine (Kd.R_reads' (e := 9) (base := w.heap.size) (ok := fun k_ => True) (n := x3_1.length) (c := co11) ?_).2.2; exact (by (with_reducible repeat (first | apply Kd.R_alloc | apply Kd.R_drewN | apply Kd.R_drew)); exact (Kd.R_mono (Kd.R_far (p := ⟨gb102, 4, none⟩) (Kd.R_far (p := ⟨gb102, 3, none⟩) (Kd.R_far (p := ⟨gb102, 2, none⟩) (Kd.R_far (p := ⟨gb102, 1, none⟩) (Kd.R_far (p := ⟨gb102, 0, none⟩) (Kd.R_types HO_3.out BK102.out (by decide)) (fun _ hk => hk.2) _) (fun _ hk => hk.2) _) (fun _ hk => hk.2) _) (fun _ hk => hk.2) _) (fun _ hk => hk.2) _) (fun _ h_ => h_.1)))); (case side2 => exact (Kd.R_reads' HO_3.out).2.1); rintro e w' ⟨rfl, ⟨nd, rfl⟩⟩))
        go_roundg k1
        case measure => have := HK1.out; omega
        case rel => exact ⟨(x3_1), (wrap64 (x8_1 + 1)), (by first | rfl | (simp; done) | (simp [*]; done)), H', ⟨by have := HK1.out; omega⟩, ⟨by (with_reducible repeat (first | apply Kd.R_alloc | apply Kd.R_drewN | apply Kd.R_drew)); exact Kd.R_mono (Kd.R_far (p := ⟨gb102, 4, none⟩) (Kd.R_far (p := ⟨gb102, 3, none⟩) (Kd.R_far (p := ⟨gb102, 2, none⟩) (Kd.R_far (p := ⟨gb102, 1, none⟩) (Kd.R_far (p := ⟨gb102, 0, none⟩) (Kd.R_types HO_3.out BK102.out (by decide)) (fun _ hk => hk.2) _) (fun _ hk => hk.2) _) (fun _ hk => hk.2) _) (fun _ hk => hk.2) _) (fun _ hk => hk.2) _) (fun _ hk => trivial)⟩, ⟨by repeat (first | (with_reducible first | exact HB.out | apply below_alloc | apply pw_below_drewN | apply below_drew1 | refine below_set ?_ GE102.out) | exact HB.out)⟩⟩
       ·replace c8 := Bool.eq_false_iff.mpr c8
        subst c8
        have H1 : (if x3_1.length < 8796093022208 then (safe_names.l0 k1 (x3_1 ++ [(rd_T45 l0 x8_1).name]) l0 (l0.length : Int) (wrap64 (x8_1 + 1))) else (none)) = some r := by rw [if_neg (show ¬ (false = true) by decide)] at H; exact H
        clear H
        have H := H1
        clear H1
        by_cases c12 : x3_1.length < 8796093022208
        ·rw [if_pos c12] at H
         have LMc12 := Aside0.mk c12
         clear c12
         obtain ⟨y104, hy104⟩ : ∃ y_ : List ByteArray, y_ = (x3_1 ++ [(rd_T45 l0 x8_1).name]) := ⟨_, rfl⟩
         replace H : (safe_names.l0 k1 y104 l0 (l0.length : Int) (wrap64 (x8_1 + 1))) = some r := by first | (rw [hy104]; with_reducible exact H) | (have H2_ := (Option.bind_some _ _).symm.trans H; rw [hy104]; with_reducible exact H2_) | (have H2_ := (Option.bind_some _ _).symm.trans H; with_reducible exact H2_) | with_reducible exact H | (rw [hy104]; exact H) | exact H
         have Ny104 := Aside0.mk hy104
         clear hy104
         have H' := Aside0.mk H
         clear H
         have p101 : 0 ≤ (x8_1 : Int) := of_decide_eq_true (by first | (with_reducible assumption) | assumption)
         have q101 : x8_1 < (l0.length : Int) := of_decide_eq_true (by first | (with_reducible assumption) | assumption)
         obtain ⟨ad101, e101, hx101_0, hx101_1, hx101_2, hx101_3, hx101_4⟩ := at_T45 HR0.out x8_1 p101 q101
         (try rw [← Nbq5.out] at hx101_0)
         (try rw [← Nbq5.out] at hx101_2)
         cases e101
         replace hx101_0 := (HB.out.cell (blt_ hx101_0)).trans hx101_0
         replace hx101_1 := (HB.out.cell (blt_ hx101_1)).trans hx101_1
         replace hx101_2 := (HB.out.cell (blt_ hx101_2)).trans hx101_2
         replace hx101_3 := (HB.out.cell (blt_ hx101_3)).trans hx101_3
         replace hx101_4 := (HB.out.cell (blt_ hx101_4)).trans hx101_4
         replace p101 := eq_true p101
         replace q101 := eq_true q101
         go_wp2_with (first | ((with_reducible refine gate_dst (N := 5) rfl ?_); refine box_event ?hg (N := 5) ?hd (cs := #[.bool false, .string (⟨#[]⟩ : ByteArray), .bool false, .string (⟨#[]⟩ : ByteArray), .int .i64 0]) (t := 45) ?hr ?_; (case hd => rfl); (case hg => rfl); (case hr => first | (go_simp; done) | (go_simp; rfl)); intro gb102 hg w13 hbox hb; have n0_ := Aside0.mk (Kd.R_below (by (with_reducible repeat (first | apply Kd.R_alloc | apply Kd.R_drewN | apply Kd.R_drew)); exact HO_3.out) hb); have n1_ := Aside0.mk (below_step (by repeat (first | (with_reducible first | exact HB.out | apply below_alloc | apply pw_below_drewN | apply below_drew1) | exact HB.out)) hb); have n2_ := Aside0.mk (hbox); have n3_ := Aside0.mk ((by rw [hg]; exact (below_size (by repeat (first | (with_reducible first | exact HB.out | apply below_alloc | apply pw_below_drewN | apply below_drew1) | exact HB.out))) : w.heap.size ≤ gb102)); have n4_ := Aside0.mk ((by rw [hg]; exact (below_size (by repeat (first | (with_reducible first | exact HB.out | apply below_alloc | apply pw_below_drewN | apply below_drew1) | exact HB.out))) : w.heap.size ≤ gb102)); clear HO_3; clear HB; have HO_3 := n0_; have HB := n1_; have BK102 := n2_; have GW102 := n3_; have GE102 := n4_; clear n0_ n1_ n2_ n3_ n4_; clear hb hbox hg; have hcz14_0 : w13.cell? ⟨gb102, 0, none⟩ = some (.bool false) := (blk_cell BK102.out 0).trans rfl; have hcz14_1 : w13.cell? ⟨gb102, 1, none⟩ = some (.string (⟨#[]⟩ : ByteArray)) := (blk_cell BK102.out 1).trans rfl; have hcz14_2 : w13.cell? ⟨gb102, 2, none⟩ = some (.bool false) := (blk_cell BK102.out 2).trans rfl; have hcz14_3 : w13.cell? ⟨gb102, 3, none⟩ = some (.string (⟨#[]⟩ : ByteArray)) := (blk_cell BK102.out 3).trans rfl; have hcz14_4 : w13.cell? ⟨gb102, 4, none⟩ = some (.int .i64 0) := (blk_cell BK102.out 4).trans rfl; have hfz14_0 := blk_frozen BK102.out 0; have hfz14_1 := blk_frozen BK102.out 1; have hfz14_2 := blk_frozen BK102.out 2; have hfz14_3 := blk_frozen BK102.out 3; have hfz14_4 := blk_frozen BK102.out 4; obtain ⟨Ao15, co15, eo15⟩ := Kd.R_slice HO_3.out; subst eo15) | (go_at_call 45; (with_reducible refine (slices_Contains_string_string.calls k1 _ _ x3_1 ((rd_T45 l0 x8_1).name) false _ ?side1 ?side2 A7.out).mono ?_); (case side1 => refine (Kd.R_reads' (e := 9) (base := w.heap.size) (ok := fun k_ => True) (n := x3_1.length) (c := co15) ?_).2.2; exact (by (with_reducible repeat (first | apply Kd.R_alloc | apply Kd.R_drewN | apply Kd.R_drew)); exact (Kd.R_mono (Kd.R_far (p := ⟨gb102, 4, none⟩) (Kd.R_far (p := ⟨gb102, 3, none⟩) (Kd.R_far (p := ⟨gb102, 2, none⟩) (Kd.R_far (p := ⟨gb102, 1, none⟩) (Kd.R_far (p := ⟨gb102, 0, none⟩) (Kd.R_types HO_3.out BK102.out (by decide)) (fun _ hk => hk.2) _) (fun _ hk => hk.2) _) (fun _ hk => hk.2) _) (fun _ hk => hk.2) _) (fun _ hk => hk.2) _) (fun _ h_ => h_.1)))); (case side2 => exact (Kd.R_reads' HO_3.out).2.1); rintro e w' ⟨rfl, ⟨nd, rfl⟩⟩) | ((with_reducible refine gate_builtin (b := .append) (xs := #[.tmp 21, .tmp 24]) rfl ?_); at_builtin; refine Kd.R_append Kd.string (w0 := w) w.heap.size rfl (.tmp 21) (.tmp 24) 28 9 (.string ⟨#[]⟩) 16 rfl Try.underlying28 info9 rfl (by decide) (by omega) (.slice Ao15 x3_1.length co15) x3_1 ((rd_T45 l0 x8_1).name) [.string ((rd_T45 l0 x8_1).name)] (fun _ => True) (fun _ => False) rfl (by first | (go_simp; done) | (go_simp; rfl)) ?aP (fun _ hk => hk.elim) ?aF ?aO ?aB ?aS ?aL ?_; (case aP => exact rfl); (case aB => exact (by repeat (first | (with_reducible first | exact HB.out | apply below_alloc | apply pw_below_drewN | apply below_drew1 | refine below_set ?_ GE102.out) | exact HB.out))); (case aF => exact (fun _ _ => trivial)); (case aO => exact (by (with_reducible repeat (first | apply Kd.R_alloc | apply Kd.R_drewN | apply Kd.R_drew)); exact Kd.R_mono (Kd.R_far (p := ⟨gb102, 4, none⟩) (Kd.R_far (p := ⟨gb102, 3, none⟩) (Kd.R_far (p := ⟨gb102, 2, none⟩) (Kd.R_far (p := ⟨gb102, 1, none⟩) (Kd.R_far (p := ⟨gb102, 0, none⟩) (Kd.R_types HO_3.out BK102.out (by decide)) (fun _ hk => hk.2) _) (fun _ hk => hk.2) _) (fun _ hk => hk.2) _) (fun _ hk => hk.2) _) (fun _ hk => hk.2) _) (fun _ hk => trivial))); (case aS => exact (below_size (by repeat (first | (with_reducible first | exact HB.out | apply below_alloc | apply pw_below_drewN | apply below_drew1 | refine below_set ?_ GE102.out) | exact HB.out)))); (case aL => have := LMc12.out; omega); intro v105 w16 ho hb hg hat; rw [← Ny104.out] at ho; have n0_ := Aside0.mk (blk_grown (g := gb102) (o := .cells #[.bool true, .string ((rd_T45 l0 x8_1).name), .bool ((rd_T45 l0 x8_1).val.isSym), .string ((rd_T45 l0 x8_1).val.sym), .int .i64 ((rd_T45 l0 x8_1).val.n)] 45 (0, 0)) (by (with_reducible repeat (first | refine blk_drewN ?_ _ | refine blk_drew ?_ | refine blk_alloc ?_ _)); refine blk_put (cs := #[.bool true, .string ((rd_T45 l0 x8_1).name), .bool ((rd_T45 l0 x8_1).val.isSym), .string ((rd_T45 l0 x8_1).val.sym), .int .i64 0]) ?_ 4 _ rfl; (with_reducible repeat (first | refine blk_drewN ?_ _ | refine blk_drew ?_ | refine blk_alloc ?_ _)); refine blk_put (cs := #[.bool true, .string ((rd_T45 l0 x8_1).name), .bool ((rd_T45 l0 x8_1).val.isSym), .string (⟨#[]⟩ : ByteArray), .int .i64 0]) ?_ 3 _ rfl; (with_reducible repeat (first | refine blk_drewN ?_ _ | refine blk_drew ?_ | refine blk_alloc ?_ _)); refine blk_put (cs := #[.bool true, .string ((rd_T45 l0 x8_1).name), .bool false, .string (⟨#[]⟩ : ByteArray), .int .i64 0]) ?_ 2 _ rfl; (with_reducible repeat (first | refine blk_drewN ?_ _ | refine blk_drew ?_ | refine blk_alloc ?_ _)); refine blk_put (cs := #[.bool true, .string (⟨#[]⟩ : ByteArray), .bool false, .string (⟨#[]⟩ : ByteArray), .int .i64 0]) ?_ 1 _ rfl; (with_reducible repeat (first | refine blk_drewN ?_ _ | refine blk_drew ?_ | refine blk_alloc ?_ _)); refine blk_put (cs := #[.bool false, .string (⟨#[]⟩ : ByteArray), .bool false, .string (⟨#[]⟩ : ByteArray), .int .i64 0]) ?_ 0 _ rfl; (with_reducible repeat (first | refine blk_drewN ?_ _ | refine blk_drew ?_ | refine blk_alloc ?_ _)); exact BK102.out) hg (Kd.R_ne HO_3.out BK102.out (by decide))); have n1_ := Aside0.mk (hb); have n2_ := Aside0.mk (ho); clear BK102; clear HB; clear HO_3; have BK102 := n0_; have HB := n1_; have HO106 := n2_; clear n0_ n1_ n2_; clear ho hb hg hat))
         go_roundg k1
         case measure => have := HK1.out; omega
         case rel => exact ⟨(y104), (wrap64 (x8_1 + 1)), (by first | rfl | (simp; done) | (simp [*]; done)), H', ⟨by have := HK1.out; omega⟩, ⟨by (with_reducible repeat (first | apply Kd.R_alloc | apply Kd.R_drewN | apply Kd.R_drew)); exact HO106.out⟩, ⟨by repeat (first | (with_reducible first | exact HB.out | apply below_alloc | apply pw_below_drewN | apply below_drew1 | refine below_set ?_ GE102.out) | exact HB.out)⟩⟩
        ·rw [if_neg c12] at H
         exact absurd H (by simp)
      ·replace c6 := Bool.eq_false_iff.mpr c6
       subst c6
       have H1 : (safe_names.l0 k1 x3_1 l0 (l0.length : Int) (wrap64 (x8_1 + 1))) = some r := by rw [if_neg (show ¬ (false = true) by decide)] at H; exact H
       clear H
       have H := H1
       clear H1
       have H' := Aside0.mk H
       clear H
       have p101 : 0 ≤ (x8_1 : Int) := of_decide_eq_true (by first | (with_reducible assumption) | assumption)
       have q101 : x8_1 < (l0.length : Int) := of_decide_eq_true (by first | (with_reducible assumption) | assumption)
       obtain ⟨ad101, e101, hx101_0, hx101_1, hx101_2, hx101_3, hx101_4⟩ := at_T45 HR0.out x8_1 p101 q101
       (try rw [← Nbq5.out] at hx101_0)
       (try rw [← Nbq5.out] at hx101_2)
       cases e101
       replace hx101_0 := (HB.out.cell (blt_ hx101_0)).trans hx101_0
       replace hx101_1 := (HB.out.cell (blt_ hx101_1)).trans hx101_1
       replace hx101_2 := (HB.out.cell (blt_ hx101_2)).trans hx101_2
       replace hx101_3 := (HB.out.cell (blt_ hx101_3)).trans hx101_3
       replace hx101_4 := (HB.out.cell (blt_ hx101_4)).trans hx101_4
       replace p101 := eq_true p101
       replace q101 := eq_true q101
       go_wp2_with (first | ((with_reducible refine gate_dst (N := 5) rfl ?_); refine box_event ?hg (N := 5) ?hd (cs := #[.bool false, .string (⟨#[]⟩ : ByteArray), .bool false, .string (⟨#[]⟩ : ByteArray), .int .i64 0]) (t := 45) ?hr ?_; (case hd => rfl); (case hg => rfl); (case hr => first | (go_simp; done) | (go_simp; rfl)); intro gb102 hg w17 hbox hb; have n0_ := Aside0.mk (Kd.R_below (by (with_reducible repeat (first | apply Kd.R_alloc | apply Kd.R_drewN | apply Kd.R_drew)); exact HO_3.out) hb); have n1_ := Aside0.mk (below_step (by repeat (first | (with_reducible first | exact HB.out | apply below_alloc | apply pw_below_drewN | apply below_drew1) | exact HB.out)) hb); have n2_ := Aside0.mk (hbox); have n3_ := Aside0.mk ((by rw [hg]; exact (below_size (by repeat (first | (with_reducible first | exact HB.out | apply below_alloc | apply pw_below_drewN | apply below_drew1) | exact HB.out))) : w.heap.size ≤ gb102)); have n4_ := Aside0.mk ((by rw [hg]; exact (below_size (by repeat (first | (with_reducible first | exact HB.out | apply below_alloc | apply pw_below_drewN | apply below_drew1) | exact HB.out))) : w.heap.size ≤ gb102)); clear HO_3; clear HB; have HO_3 := n0_; have HB := n1_; have BK102 := n2_; have GW102 := n3_; have GE102 := n4_; clear n0_ n1_ n2_ n3_ n4_; clear hb hbox hg; have hcz18_0 : w17.cell? ⟨gb102, 0, none⟩ = some (.bool false) := (blk_cell BK102.out 0).trans rfl; have hcz18_1 : w17.cell? ⟨gb102, 1, none⟩ = some (.string (⟨#[]⟩ : ByteArray)) := (blk_cell BK102.out 1).trans rfl; have hcz18_2 : w17.cell? ⟨gb102, 2, none⟩ = some (.bool false) := (blk_cell BK102.out 2).trans rfl; have hcz18_3 : w17.cell? ⟨gb102, 3, none⟩ = some (.string (⟨#[]⟩ : ByteArray)) := (blk_cell BK102.out 3).trans rfl; have hcz18_4 : w17.cell? ⟨gb102, 4, none⟩ = some (.int .i64 0) := (blk_cell BK102.out 4).trans rfl; have hfz18_0 := blk_frozen BK102.out 0; have hfz18_1 := blk_frozen BK102.out 1; have hfz18_2 := blk_frozen BK102.out 2; have hfz18_3 := blk_frozen BK102.out 3; have hfz18_4 := blk_frozen BK102.out 4))
       go_roundg k1
       case measure => have := HK1.out; omega
       case rel => exact ⟨(x3_1), (wrap64 (x8_1 + 1)), (by first | rfl | (simp; done) | (simp [*]; done)), H', ⟨by have := HK1.out; omega⟩, ⟨by (with_reducible repeat (first | apply Kd.R_alloc | apply Kd.R_drewN | apply Kd.R_drew)); exact Kd.R_mono (Kd.R_far (p := ⟨gb102, 4, none⟩) (Kd.R_far (p := ⟨gb102, 3, none⟩) (Kd.R_far (p := ⟨gb102, 2, none⟩) (Kd.R_far (p := ⟨gb102, 1, none⟩) (Kd.R_far (p := ⟨gb102, 0, none⟩) (Kd.R_types HO_3.out BK102.out (by decide)) (fun _ hk => hk.2) _) (fun _ hk => hk.2) _) (fun _ hk => hk.2) _) (fun _ hk => hk.2) _) (fun _ hk => hk.2) _) (fun _ hk => trivial)⟩, ⟨by repeat (first | (with_reducible first | exact HB.out | apply below_alloc | apply pw_below_drewN | apply below_drew1 | refine below_set ?_ GE102.out) | exact HB.out)⟩⟩
     ·rw [if_neg c4] at H
      exact absurd H (by simp)
    ·rw [if_neg c3] at H
     exact absurd H (by simp)
   ·rw [if_neg c2] at H
    have c2b0 : decide (x8_1 < (l0.length : Int)) = false := decide_eq_false c2
    clear c2
    obtain rfl := Option.some.inj H
    go_wp2
    go_ret
    exact ⟨_, by first | rfl | (simp [errW_none, errW_some] <;> rfl) | (simp [*, errW_none, errW_some] <;> rfl), by (with_reducible repeat (first | apply Kd.R_alloc | apply Kd.R_drewN | apply Kd.R_drew)); exact HO_3.out, by repeat (first | (with_reducible first | exact HB.out | apply below_alloc | apply pw_below_drewN | apply below_drew1) | exact HB.out)⟩
end Go.Proofs.Ythpejcnldecmoaa.H
namespace Go.Proofs.Ythpejcnldecmoaa.H
open Go.RowKit Go.Proofs.YthpejcnldecmoaaW.PrintWords Go.Proofs.YthpejcnldecmoaaW.PrintLast Go.Proofs.YthpejcnldecmoaaW.PrintMore
attribute [local go_sem] max2_int min2_int max_two min_two max_three min_three max_four min_four
set_option linter.unusedVariables false
set_option linter.unusedSimpArgs false
def safe_Vars.f (k : Nat) (a0_0 : ByteArray) (l0_1 : List (Term)) : Option (List ByteArray) := (safe_names.f k l0_1).bind fun t102 => (some t102)
theorem safe_Vars.mono : ∀ a0 a1 k, LeO (safe_Vars.f k a0 a1) (safe_Vars.f (k + 1) a0 a1) := by
 intro a0 a1 k
 unfold safe_Vars.f
 repeat' first
   | (with_reducible exact safe_names.mono _ _)
   | (with_reducible exact LeO.refl _)
   | (with_reducible exact LeO.none _)
   | (with_reducible refine LeO.ite ?_ ?_)
   | (with_reducible refine LeO.bind ?_ (fun _ => ?_))
   | exact safe_names.mono _ _
   | exact LeO.none _
   | refine LeO.ite ?_ ?_
   | refine LeO.bind ?_ (fun _ => ?_)
set_option maxHeartbeats 8000000 in
set_option maxRecDepth 100000 in
theorem safe_Vars.calls (k : Nat) (a0_0 : ByteArray) (A0_1 : Option Addr) (c0_1 : Nat) (l0_1 : List (Term)) (r : List ByteArray) (w : World) (hr0_1 : Kd.C k45 w A0_1 l0_1.length l0_1) (hc0_1 : l0_1.length ≤ c0_1) (h : safe_Vars.f k a0_0 l0_1 = some r) :
  Calls Try.prog 31 #[.agg #[.string a0_0, .slice A0_1 l0_1.length c0_1]] w fun e w' => ∃ v0_ : Value, e = .returned (v0_) ∧ Kd.R Kd.string 9 w' w.heap.size (fun _ => True) v0_ r ∧ Below w.heap.size w w' := by
 have hu24 := Try.underlying24
 have HR0_1 := Aside0.mk hr0_1
 have HC0_1 := Aside0.mk hc0_1
 clear hr0_1 hc0_1
 have HB := Aside0.mk (Below.refl w.heap.size w)
 have H : ((safe_names.f k l0_1).bind fun t102 => (some t102)) = some r := h
 clear h
 replace H := Option.bind_eq_some_iff.mp H
 obtain ⟨t102, A20, H⟩ := H
 replace H : (some t102) = some r := H
 have A2 := Aside0.mk A20
 clear A20
 obtain rfl := Option.some.inj H
 go_enter Try.func31, Try.ntmps31
 go_wp2_with (first | ((with_reducible refine gate_dst (N := 1) rfl ?_); refine box_event ?hg (N := 1) ?hd (cs := #[.string a0_0, .slice A0_1 l0_1.length c0_1]) (t := 24) ?hr ?_; (case hd => rfl); (case hg => rfl); (case hr => first | (go_simp; done) | (go_simp; rfl)); intro gb101 hg w3 hbox hb; have n0_ := Aside0.mk (below_step (by repeat (first | (with_reducible first | exact HB.out | apply below_alloc | apply pw_below_drewN | apply below_drew1) | exact HB.out)) hb); have n1_ := Aside0.mk (hbox); have n2_ := Aside0.mk ((by rw [hg]; exact (below_size (by repeat (first | (with_reducible first | exact HB.out | apply below_alloc | apply pw_below_drewN | apply below_drew1) | exact HB.out))) : w.heap.size ≤ gb101)); have n3_ := Aside0.mk ((by rw [hg]; exact (below_size (by repeat (first | (with_reducible first | exact HB.out | apply below_alloc | apply pw_below_drewN | apply below_drew1) | exact HB.out))) : w.heap.size ≤ gb101)); clear HB; have HB := n0_; have BK101 := n1_; have GW101 := n2_; have GE101 := n3_; clear n0_ n1_ n2_ n3_; clear hb hbox hg; have hcz4_0 : w3.cell? ⟨gb101, 0, none⟩ = some (.string a0_0) := (blk_cell BK101.out 0).trans rfl; have hcz4_1 : w3.cell? ⟨gb101, 1, none⟩ = some (.slice A0_1 l0_1.length c0_1) := (blk_cell BK101.out 1).trans rfl; have hfz4_0 := blk_frozen BK101.out 0; have hfz4_1 := blk_frozen BK101.out 1) | ((with_reducible refine gate_callee (f := 51) rfl ?_); refine goesL_ (some 5) rfl rfl Try.func51 (by kernel_rfl) rfl #[.slice A0_1 l0_1.length c0_1] rfl (by (try simp only [List.map_toArray, List.map_cons, List.map_nil]); first | done | rfl | (simp only [List.length_drop, List.length_take]; rfl)) ?_; (with_reducible refine (safe_names.calls k _ _ l0_1 t102 _ ?side1 ?side2 A2.out).mono ?_); (case side1 => repeat (first | exact (Kd.C_below HR0_1.out HB.out) | (with_reducible refine Kd.C_alloc ?_ _) | (with_reducible refine Kd.C_drewN ?_ _) | (with_reducible refine Kd.C_drew ?_))); (case side2 => exact HC0_1.out); rintro e w5 ⟨v103, rfl, ho0, hb⟩; refine ⟨_, rfl, ?_⟩; have n0_ := Aside0.mk (Kd.R_lower ho0 (below_size (by repeat (first | (with_reducible first | exact HB.out | apply below_alloc | apply pw_below_drewN | apply below_drew1 | refine below_set ?_ GE101.out) | exact HB.out)))); have n1_ := Aside0.mk (blk_below (g := gb101) (o := .cells #[.string a0_0, .slice A0_1 l0_1.length c0_1] 24 (0, 0)) (by (with_reducible repeat (first | refine blk_drewN ?_ _ | refine blk_drew ?_ | refine blk_alloc ?_ _)); exact BK101.out) hb); have n2_ := Aside0.mk (below_step (by repeat (first | (with_reducible first | exact HB.out | apply below_alloc | apply pw_below_drewN | apply below_drew1 | refine below_set ?_ GE101.out) | exact HB.out)) hb); clear BK101; clear HB; have HO104 := n0_; have BK101 := n1_; have HB := n2_; clear n0_ n1_ n2_; (try clear hb); (try clear hb2); (try clear hk); (try clear hi); (try clear ho0)))
 go_ret
 exact ⟨_, by first | rfl | (simp [errW_none, errW_some] <;> rfl) | (simp [*, errW_none, errW_some] <;> rfl), by (with_reducible repeat (first | apply Kd.R_alloc | apply Kd.R_drewN | apply Kd.R_drew)); exact HO104.out, by repeat (first | (with_reducible first | exact HB.out | apply below_alloc | apply pw_below_drewN | apply below_drew1 | refine below_set ?_ GE101.out) | exact HB.out)⟩
end Go.Proofs.Ythpejcnldecmoaa.H
/-
  DERIVED: THE SHELF's CONTRACTS AT THIS DUMP, IN PLAIN WORDS (tools/lay-plain.mjs out of 'TryShelf.lean', which tools/lay-shelf.mjs wrote): THE SAME DECLARATIONS UNDER THE SAME NAMES: 'import', 'namespace', 'open', 'def', 'theorem' AND NOTHING ELSE: no command of the shelf's: FOR A HAND-IN. Each laying: the table of numbers ('.._ren') and one theorem, a field a fact of the dump's own or the kernel's comparison; each contract: ONE APPLICATION.
-/
namespace Go.Proofs
open Go.Shelf
def Try.lays190_ren : Go.Shelf.Ren := ⟨fun | 190 => 49 | 125 => 62 | 258 => 61 | 128 => 74 | 129 => 75 | 302 => 65 | 303 => 66 | 304 => 67 | 305 => 68 | 306 => 69 | 307 => 70 | 308 => 71 | 309 => 72 | 310 => 73 | 333 => 76 | 329 => 77 | 330 => 78 | 334 => 79 | 335 => 80 | 336 => 81 | 344 => 82 | n => n, fun | 31 => 28 | 9 => 9 | 3 => 3 | 46 => 98 | 0 => 0 | 51 => 110 | 53 => 112 | 4 => 4 | 183 => 102 | 182 => 101 | 131 => 107 | 5 => 5 | 218 => 113 | 222 => 117 | 228 => 119 | 229 => 120 | n => n, fun | n => n⟩
theorem Try.lays190 : Go.Proofs.Lays.n190 Try.prog Try.lays190_ren := {
  mixed := by kernel_rfl
  f125 := Try.func62.trans (congrArg some (by kernel_rfl))
  f128 := Try.func74.trans (congrArg some (by kernel_rfl))
  f129 := Try.func75.trans (congrArg some (by kernel_rfl))
  f190 := Try.func49.trans (congrArg some (by kernel_rfl))
  f258 := Try.func61.trans (congrArg some (by kernel_rfl))
  f302 := Try.func65.trans (congrArg some (by kernel_rfl))
  f303 := Try.func66.trans (congrArg some (by kernel_rfl))
  f304 := Try.func67.trans (congrArg some (by kernel_rfl))
  f305 := Try.func68.trans (congrArg some (by kernel_rfl))
  f306 := Try.func69.trans (congrArg some (by kernel_rfl))
  f307 := Try.func70.trans (congrArg some (by kernel_rfl))
  f308 := Try.func71.trans (congrArg some (by kernel_rfl))
  f309 := Try.func72.trans (congrArg some (by kernel_rfl))
  f310 := Try.func73.trans (congrArg some (by kernel_rfl))
  f329 := Try.func77.trans (congrArg some (by kernel_rfl))
  f330 := Try.func78.trans (congrArg some (by kernel_rfl))
  f333 := Try.func76.trans (congrArg some (by kernel_rfl))
  f334 := Try.func79.trans (congrArg some (by kernel_rfl))
  f335 := Try.func80.trans (congrArg some (by kernel_rfl))
  f336 := Try.func81.trans (congrArg some (by kernel_rfl))
  f344 := Try.func82.trans (congrArg some (by kernel_rfl))
  t0 := Try.underlying0
  a0 := Try.isAgg0
  z0 := Try.sizeOf0
  v0 := Try.zeroValue0
  t3 := Try.underlying3
  a3 := Try.isAgg3
  z3 := Try.sizeOf3
  v3 := Try.zeroValue3
  t4 := Try.underlying4
  a4 := Try.isAgg4
  z4 := Try.sizeOf4
  v4 := Try.zeroValue4
  t5 := Try.underlying5
  a5 := Try.isAgg5
  z5 := Try.sizeOf5
  v5 := Try.zeroValue5
  t9 := Try.underlying9
  a9 := Try.isAgg9
  z9 := Try.sizeOf9
  v9 := Try.zeroValue9
  t31 := Try.underlying28
  a31 := Try.isAgg28
  z31 := Try.sizeOf28
  v31 := Try.zeroValue28
  t46 := Try.underlying98
  a46 := Try.isAgg98
  z46 := Try.sizeOf98
  v46 := Try.zeroValue98
  t51 := Try.underlying110
  a51 := Try.isAgg110
  z51 := Try.sizeOf110
  v51 := Try.zeroValue110
  t53 := Try.underlying112
  a53 := Try.isAgg112
  z53 := Try.sizeOf112
  v53 := Try.zeroValue112
  t131 := Try.underlying107
  a131 := Try.isAgg107
  z131 := Try.sizeOf107
  v131 := Try.zeroValue107
  t182 := Try.underlying101
  a182 := Try.isAgg101
  z182 := Try.sizeOf101
  v182 := Try.zeroValue101
  t183 := Try.underlying102
  a183 := Try.isAgg102
  z183 := Try.sizeOf102
  v183 := Try.zeroValue102
  t218 := Try.underlying113
  a218 := Try.isAgg113
  z218 := Try.sizeOf113
  v218 := Try.zeroValue113
  t222 := Try.underlying117
  a222 := Try.isAgg117
  z222 := Try.sizeOf117
  v222 := Try.zeroValue117
  t228 := Try.underlying119
  a228 := Try.isAgg119
  z228 := Try.sizeOf119
  v228 := Try.zeroValue119
  t229 := Try.underlying120
  a229 := Try.isAgg120
  z229 := Try.sizeOf120
  v229 := Try.zeroValue120 }
open Go.Sort Go.RowKit in
theorem Try.slices_Sort_string (blk off cap : Nat) (ss : List (List UInt8)) (w : World) (hH : Holds encStr w blk off ss.toArray) (hblk : blk < w.heap.size) (hsz : ss.length < 4611686018427387904) :
    Calls Try.prog 49 #[.slice (some ⟨blk, off, none⟩) ss.length cap] w fun e w' =>
      e = .returned (.tuple #[]) ∧ ∃ n os, w' = grow (putRow encStr (Sort.ahead w n) blk off (ss.mergeSort fun x y => decide (x ≤ y)).toArray) os := Any.slices_Sort_string Try.lays190 blk off cap ss w hH hblk hsz
def Try.lays194_ren : Go.Shelf.Ren := ⟨fun | 194 => 50 | n => n, fun | 31 => 28 | 9 => 9 | 3 => 3 | 4 => 4 | 0 => 0 | n => n, fun | n => n⟩
theorem Try.lays194 : Go.Proofs.Lays.n194 Try.prog Try.lays194_ren := {
  mixed := by kernel_rfl
  f194 := Try.func50.trans (congrArg some (by kernel_rfl))
  t0 := Try.underlying0
  a0 := Try.isAgg0
  z0 := Try.sizeOf0
  v0 := Try.zeroValue0
  t3 := Try.underlying3
  a3 := Try.isAgg3
  z3 := Try.sizeOf3
  v3 := Try.zeroValue3
  t4 := Try.underlying4
  a4 := Try.isAgg4
  z4 := Try.sizeOf4
  v4 := Try.zeroValue4
  t9 := Try.underlying9
  a9 := Try.isAgg9
  z9 := Try.sizeOf9
  v9 := Try.zeroValue9
  t31 := Try.underlying28
  a31 := Try.isAgg28
  z31 := Try.sizeOf28
  v31 := Try.zeroValue28 }
open Go.RowKit Go.Lib Go.Sort in
/-- slices.Compact at []string, over an array: the library's two loops are walked. (LAID: no walk: one application.) -/
theorem Try.slices_Compact_string_arr (blk off cap : Nat) (d : Array (List UInt8)) (w : World) (hH : Holds encStr w blk off d) (hsz : d.size ≤ 9223372036854775807) (hcap : d.size ≤ cap) :
    Calls Try.prog 50 #[.slice (some ⟨blk, off, none⟩) d.size cap] w fun e w' => e = .returned (.slice (some ⟨blk, off, none⟩) (compactUpTo d d.size).length cap) ∧ ∃ q, w' = putRow encStr (Sort.ahead w q) blk off (compactUpTo d d.size ++ List.replicate (d.size - (compactUpTo d d.size).length) []).toArray := Any.slices_Compact_string_arr Try.lays194 blk off cap d w hH hsz hcap
open Go.RowKit Go.Lib Go.Sort in
/-- slices.Compact at []string: "Compact replaces consecutive runs of equal elements with a single copy. This is like the uniq command found on Unix. Compact modifies the contents of the slice s and returns the modified slice, which may have a smaller length. Compact zeroes the elements between the new length and the original length. The result preserves the nilness of s.": IT RETURNS THE SLICE CUT TO 'Lib.compact zs'; ITS CELLS HOLD 'Lib.compact zs', THEN ZERO VALUES up to the old length; all else is as it was, but for the count of draws. IN THE WORDS OF slices.Sort's CONTRACT ('Holds', 'putRow'): so the everyday 'slices.Sort(xs); xs = slices.Compact(xs)' goes from the one contract to the other. It asks 'zs.length ≤ cap' (every slice's: the reslicing 's[:k]' looks at it). Length 0, nil: '.._empty'. (LAID: no walk: one application.) -/
theorem Try.slices_Compact_string (blk off cap : Nat) (zs : List (List UInt8)) (w : World) (hH : Holds encStr w blk off zs.toArray) (hsz : zs.length ≤ 9223372036854775807) (hcap : zs.length ≤ cap) :
    Calls Try.prog 50 #[.slice (some ⟨blk, off, none⟩) zs.length cap] w fun e w' => e = .returned (.slice (some ⟨blk, off, none⟩) (Lib.compact zs).length cap) ∧ ∃ q, w' = putRow encStr (Sort.ahead w q) blk off (Lib.compact zs ++ List.replicate (zs.length - (Lib.compact zs).length) []).toArray := Any.slices_Compact_string Try.lays194 blk off cap zs w hH hsz hcap
open Go.RowKit Go.Lib Go.Sort in
/-- The same at a slice of length 0, a nil one too: it comes back as it is. (LAID: no walk: one application.) -/
theorem Try.slices_Compact_string_empty (a : Option Addr) (cap : Nat) (w : World) :
    Calls Try.prog 50 #[.slice a 0 cap] w fun e w' => e = .returned (.slice a 0 cap) ∧ w' = w := Any.slices_Compact_string_empty Try.lays194 a cap w
open Go.RowKit Go.Lib Go.Sort in
/-- slices.Compact at []string, of an argument. (LAID: no walk: one application.) -/
theorem Try.slices_Compact_string_cells (b off n c : Nat) (Sx : Nat → ByteArray) (w : World) (hbig : n ≤ 9223372036854775807) (hcap : n ≤ c) (hc : ∀ i, i < n → w.cell? ⟨b, off + i, none⟩ = some (.string (Sx i))) (hf : ∀ j, j < n → w.frozen? ⟨b, off + j, none⟩ = false) :
    Calls Try.prog 50 #[.slice (some ⟨b, off, none⟩) n c] w fun e w' => e = .returned (.slice (some ⟨b, off, none⟩) (Lib.compact (Lib.strsOf Sx n)).length c) ∧ ∃ q, w' = (w.drewN q).setCells b off ((Lib.compact (Lib.strsOf Sx n) ++ List.replicate (n - (Lib.compact (Lib.strsOf Sx n)).length) []).map encStr) := Any.slices_Compact_string_cells Try.lays194 b off n c Sx w hbig hcap hc hf
open Go.RowKit Go.Sort in
/-- .. and plain. (LAID: no walk: one application.) -/
theorem Try.slices_Sort_string_none (p : Option Addr) (cap : Nat) (w : World) :
    Calls Try.prog 49 #[.slice p 0 cap] w fun e w' => e = .returned (.tuple #[]) ∧ w' = w := Any.slices_Sort_string_none Try.lays190 p cap w
def Try.laysSlE43_f50_ren : Go.Shelf.Ren := ⟨fun | 43 => 50 | n => n, fun | 22 => 28 | 23 => 9 | 3 => 3 | 4 => 4 | 0 => 0 | n => n, fun | n => n⟩
theorem Try.laysSlE43_f50 : Go.Proofs.SlLaysE.n43 Try.prog Try.laysSlE43_f50_ren := {
  mixed := by kernel_rfl
  f43 := ⟨Try.f50.name, by decide, Try.func50.trans (congrArg some (by kernel_rfl))⟩
  t0 := Try.underlying0
  a0 := Try.isAgg0
  z0 := Try.sizeOf0
  v0 := Try.zeroValue0
  t3 := Try.underlying3
  a3 := Try.isAgg3
  z3 := Try.sizeOf3
  v3 := Try.zeroValue3
  t4 := Try.underlying4
  a4 := Try.isAgg4
  z4 := Try.sizeOf4
  v4 := Try.zeroValue4
  t22 := Try.underlying28
  a22 := Try.isAgg28
  z22 := Try.sizeOf28
  v22 := Try.zeroValue28
  a23 := Try.isAgg9
  z23 := Try.sizeOf9 }
open Go.RowKit Go.Lib Go.Sort in
/-- slices.Compact: "Compact replaces consecutive runs of equal elements with a single copy. .. Compact zeroes the elements between the new length and the original length.": IT RETURNS THE SLICE CUT TO 'compactUpTo d d.size'; ITS CELLS HOLD THAT, THEN ZERO VALUES up to the old length; the library's two loops are walked. (LAID AT THE INSTANCE 'slices.Compact[[]string,string]': no walk: one application.) -/
theorem Try.slices_Compact {α : Type} [Inhabited α] [DecidableEq α] (enc : α → Value) (hO : OneCell enc) (heq : EqlAt Try.prog 9 enc (fun x y => decide (x = y))) (hne : NeqAt Try.prog 9 enc (fun x y => decide (x = y))) (zr : α) (v23 : ∀ w, (zeroValue 9).run Try.prog w = .ok (enc zr) w) (blk off cap : Nat) (d : Array α) (w : World) (hH : Holds enc w blk off d) (hsz : d.size ≤ 9223372036854775807) (hcap : d.size ≤ cap) :
    Calls Try.prog 50 #[.slice (some ⟨blk, off, none⟩) d.size cap] w fun e w' => e = .returned (.slice (some ⟨blk, off, none⟩) (compactUpTo d d.size).length cap) ∧ ∃ q, w' = putRow enc (Sort.ahead w q) blk off (compactUpTo d d.size ++ List.replicate (d.size - (compactUpTo d d.size).length) zr).toArray := AnyE.slices_Compact Try.laysSlE43_f50 enc hO heq hne zr v23 blk off cap d w hH hsz hcap
def Try.laysSlH6_f48_ren : Go.Shelf.Ren := ⟨fun | 6 => 48 | n => n, fun | 22 => 28 | 23 => 9 | 25 => 82 | 3 => 3 | 0 => 0 | 4 => 4 | n => n, fun | n => n⟩
theorem Try.laysSlH6_f48 : Go.Proofs.SlLaysH.n6 Try.prog Try.laysSlH6_f48_ren := {
  mixed := by kernel_rfl
  f6 := ⟨Try.f48.name, by decide, Try.func48.trans (congrArg some (by kernel_rfl))⟩
  t0 := Try.underlying0
  a0 := Try.isAgg0
  z0 := Try.sizeOf0
  v0 := Try.zeroValue0
  t3 := Try.underlying3
  a3 := Try.isAgg3
  z3 := Try.sizeOf3
  v3 := Try.zeroValue3
  t4 := Try.underlying4
  a4 := Try.isAgg4
  z4 := Try.sizeOf4
  v4 := Try.zeroValue4
  t22 := Try.underlying28
  a22 := Try.isAgg28
  z22 := Try.sizeOf28
  v22 := Try.zeroValue28
  a23 := Try.isAgg9
  z23 := Try.sizeOf9
  t25 := Try.underlying82
  a25 := Try.isAgg82
  z25 := Try.sizeOf82
  v25 := Try.zeroValue82 }
open Go.RowKit Go.Lib in
/-- slices.IndexFunc: "IndexFunc returns the first index i satisfying f(s[i]), or -1 if none do." (LAID AT THE INSTANCE 'slices.IndexFunc[[]string,string]': no walk: one application.) -/
theorem Try.slices_IndexFunc_f48 {α : Type} [Inhabited α] (enc : α → Value) (p : α → Bool) (g : Nat) (lb : Array Value) (eg : ∀ args w, (callFunc g args).run Try.prog w = .ok (.enter g args) w) (b off n c : Nat) (zs : List α) (w : World) (hp : PredAt Try.prog g lb enc p w) (hz : n ≤ zs.length) (hbig : n ≤ 9223372036854775807) (hc : ∀ j, j < zs.length → w.cell? ⟨b, off + j, none⟩ = some (enc zs[j]!)) :
    Calls Try.prog 48 #[.slice (some ⟨b, off, none⟩) n c, .func (.func g) #[] lb] w fun e w' => e = .returned (.int .i64 (Lib.idxBy (fun _ y => p y) (zs.take n) default)) ∧ ∃ q, w' = w.drewN q := AnyE.slices_IndexFunc Try.laysSlH6_f48 enc p g lb eg b off n c zs w hp hz hbig hc
def Try.laysSlH6_f57_ren : Go.Shelf.Ren := ⟨fun | 6 => 57 | n => n, fun | 22 => 31 | 23 => 3 | 25 => 93 | 3 => 3 | 0 => 0 | 4 => 4 | n => n, fun | n => n⟩
theorem Try.laysSlH6_f57 : Go.Proofs.SlLaysH.n6 Try.prog Try.laysSlH6_f57_ren := {
  mixed := by kernel_rfl
  f6 := ⟨Try.f57.name, by decide, Try.func57.trans (congrArg some (by kernel_rfl))⟩
  t0 := Try.underlying0
  a0 := Try.isAgg0
  z0 := Try.sizeOf0
  v0 := Try.zeroValue0
  t3 := Try.underlying3
  a3 := Try.isAgg3
  z3 := Try.sizeOf3
  v3 := Try.zeroValue3
  t4 := Try.underlying4
  a4 := Try.isAgg4
  z4 := Try.sizeOf4
  v4 := Try.zeroValue4
  t22 := Try.underlying31
  a22 := Try.isAgg31
  z22 := Try.sizeOf31
  v22 := Try.zeroValue31
  a23 := Try.isAgg3
  z23 := Try.sizeOf3
  t25 := Try.underlying93
  a25 := Try.isAgg93
  z25 := Try.sizeOf93
  v25 := Try.zeroValue93 }
open Go.RowKit Go.Lib in
/-- slices.IndexFunc: "IndexFunc returns the first index i satisfying f(s[i]), or -1 if none do." (LAID AT THE INSTANCE 'slices.IndexFunc[[]int,int]': no walk: one application.) -/
theorem Try.slices_IndexFunc_f57 {α : Type} [Inhabited α] (enc : α → Value) (p : α → Bool) (g : Nat) (lb : Array Value) (eg : ∀ args w, (callFunc g args).run Try.prog w = .ok (.enter g args) w) (b off n c : Nat) (zs : List α) (w : World) (hp : PredAt Try.prog g lb enc p w) (hz : n ≤ zs.length) (hbig : n ≤ 9223372036854775807) (hc : ∀ j, j < zs.length → w.cell? ⟨b, off + j, none⟩ = some (enc zs[j]!)) :
    Calls Try.prog 57 #[.slice (some ⟨b, off, none⟩) n c, .func (.func g) #[] lb] w fun e w' => e = .returned (.int .i64 (Lib.idxBy (fun _ y => p y) (zs.take n) default)) ∧ ∃ q, w' = w.drewN q := AnyE.slices_IndexFunc Try.laysSlH6_f57 enc p g lb eg b off n c zs w hp hz hbig hc
open Go.RowKit Go.Lib in
/-- The same at a slice of length 0, a nil one too: the predicate is not called: nothing is asked of it. (LAID AT THE INSTANCE 'slices.IndexFunc[[]string,string]': no walk: one application.) -/
theorem Try.slices_IndexFunc_empty_f48 {α : Type} [Inhabited α] (a : Option Addr) (c : Nat) (fv : Value) (w : World) :
    Calls Try.prog 48 #[.slice a 0 c, fv] w fun e w' => e = .returned (.int .i64 (-1)) ∧ w' = w := AnyE.slices_IndexFunc_empty Try.laysSlH6_f48 a c fv w
open Go.RowKit Go.Lib in
/-- The same at a slice of length 0, a nil one too: the predicate is not called: nothing is asked of it. (LAID AT THE INSTANCE 'slices.IndexFunc[[]int,int]': no walk: one application.) -/
theorem Try.slices_IndexFunc_empty_f57 {α : Type} [Inhabited α] (a : Option Addr) (c : Nat) (fv : Value) (w : World) :
    Calls Try.prog 57 #[.slice a 0 c, fv] w fun e w' => e = .returned (.int .i64 (-1)) ∧ w' = w := AnyE.slices_IndexFunc_empty Try.laysSlH6_f57 a c fv w
def Try.laysSlH8_f63_ren : Go.Shelf.Ren := ⟨fun | 8 => 63 | 6 => 48 | n => n, fun | 22 => 28 | 23 => 9 | 25 => 82 | 4 => 4 | 3 => 3 | 0 => 0 | n => n, fun | n => n⟩
theorem Try.laysSlH8_f63 : Go.Proofs.SlLaysH.n8 Try.prog Try.laysSlH8_f63_ren := {
  mixed := by kernel_rfl
  f6 := ⟨Try.f48.name, by decide, Try.func48.trans (congrArg some (by kernel_rfl))⟩
  f8 := ⟨Try.f63.name, by decide, Try.func63.trans (congrArg some (by kernel_rfl))⟩
  t0 := Try.underlying0
  a0 := Try.isAgg0
  z0 := Try.sizeOf0
  v0 := Try.zeroValue0
  t3 := Try.underlying3
  a3 := Try.isAgg3
  z3 := Try.sizeOf3
  v3 := Try.zeroValue3
  t4 := Try.underlying4
  a4 := Try.isAgg4
  z4 := Try.sizeOf4
  v4 := Try.zeroValue4
  t22 := Try.underlying28
  a22 := Try.isAgg28
  z22 := Try.sizeOf28
  v22 := Try.zeroValue28
  a23 := Try.isAgg9
  z23 := Try.sizeOf9
  t25 := Try.underlying82
  a25 := Try.isAgg82
  z25 := Try.sizeOf82
  v25 := Try.zeroValue82 }
open Go.RowKit Go.Lib in
/-- slices.ContainsFunc: "ContainsFunc reports whether at least one element e of s satisfies f(e).": ITS CALLEE slices.IndexFunc IS MET BY ITS OWN CONTRACT. (LAID AT THE INSTANCE 'slices.ContainsFunc[[]string,string]': no walk: one application.) -/
theorem Try.slices_ContainsFunc {α : Type} [Inhabited α] (enc : α → Value) (p : α → Bool) (g : Nat) (lb : Array Value) (eg : ∀ args w, (callFunc g args).run Try.prog w = .ok (.enter g args) w) (b off n c : Nat) (zs : List α) (w : World) (hp : PredAt Try.prog g lb enc p w) (hz : n ≤ zs.length) (hbig : n ≤ 9223372036854775807) (hc : ∀ j, j < zs.length → w.cell? ⟨b, off + j, none⟩ = some (enc zs[j]!)) :
    Calls Try.prog 63 #[.slice (some ⟨b, off, none⟩) n c, .func (.func g) #[] lb] w fun e w' => e = .returned (.bool ((zs.take n).any p)) ∧ ∃ q, w' = w.drewN q := AnyE.slices_ContainsFunc Try.laysSlH8_f63 enc p g lb eg b off n c zs w hp hz hbig hc
open Go.RowKit Go.Lib in
/-- The same at a slice of length 0, a nil one too. (LAID AT THE INSTANCE 'slices.ContainsFunc[[]string,string]': no walk: one application.) -/
theorem Try.slices_ContainsFunc_empty {α : Type} [Inhabited α] (a : Option Addr) (c : Nat) (fv : Value) (w : World) :
    Calls Try.prog 63 #[.slice a 0 c, fv] w fun e w' => e = .returned (.bool false) ∧ w' = w := AnyE.slices_ContainsFunc_empty Try.laysSlH8_f63 a c fv w
def Try.laysSlH10_f55_ren : Go.Shelf.Ren := ⟨fun | 10 => 55 | 6 => 57 | n => n, fun | 22 => 31 | 23 => 3 | 25 => 93 | 3 => 3 | 4 => 4 | 0 => 0 | n => n, fun | n => n⟩
theorem Try.laysSlH10_f55 : Go.Proofs.SlLaysH.n10 Try.prog Try.laysSlH10_f55_ren := {
  mixed := by kernel_rfl
  f6 := ⟨Try.f57.name, by decide, Try.func57.trans (congrArg some (by kernel_rfl))⟩
  f10 := ⟨Try.f55.name, by decide, Try.func55.trans (congrArg some (by kernel_rfl))⟩
  t0 := Try.underlying0
  a0 := Try.isAgg0
  z0 := Try.sizeOf0
  v0 := Try.zeroValue0
  t3 := Try.underlying3
  a3 := Try.isAgg3
  z3 := Try.sizeOf3
  v3 := Try.zeroValue3
  t4 := Try.underlying4
  a4 := Try.isAgg4
  z4 := Try.sizeOf4
  v4 := Try.zeroValue4
  t22 := Try.underlying31
  a22 := Try.isAgg31
  z22 := Try.sizeOf31
  v22 := Try.zeroValue31
  a23 := Try.isAgg3
  z23 := Try.sizeOf3
  t25 := Try.underlying93
  a25 := Try.isAgg93
  z25 := Try.sizeOf93
  v25 := Try.zeroValue93 }
open Go.RowKit Go.Lib Go.Sort in
theorem Try.slices_DeleteFunc {α : Type} [Inhabited α] (enc : α → Value) (hO : OneCell enc) (p : α → Bool) (g : Nat) (lb : Array Value) (eg : ∀ args w, (callFunc g args).run Try.prog w = .ok (.enter g args) w) (zr : α) (v23 : ∀ w, (zeroValue 3).run Try.prog w = .ok (enc zr) w) (blk off cap : Nat) (d : Array α) (w : World) (hp : PredAt Try.prog g lb enc p w) (hpo : PredOver Try.prog g lb enc p blk off d.size w) (hH : Holds enc w blk off d) (hsz : d.size ≤ 9223372036854775807) (hcap : d.size ≤ cap) :
    Calls Try.prog 55 #[.slice (some ⟨blk, off, none⟩) d.size cap, .func (.func g) #[] lb] w fun e w' => e = .returned (.slice (some ⟨blk, off, none⟩) (d.toList.filter fun x => !p x).length cap) ∧ ∃ q, w' = putRow enc (Sort.ahead w q) blk off ((d.toList.filter fun x => !p x) ++ List.replicate (d.size - (d.toList.filter fun x => !p x).length) zr).toArray := AnyE.slices_DeleteFunc Try.laysSlH10_f55 enc hO p g lb eg zr v23 blk off cap d w hp hpo hH hsz hcap
end Go.Proofs
namespace Go.Proofs.Ythpejcnldecmoaa.H
open Go.RowKit Go.Sort Go.Proofs.YthpejcnldecmoaaW.PrintWords Go.Proofs.YthpejcnldecmoaaW.PrintLast Go.Proofs.YthpejcnldecmoaaW.PrintMore
set_option linter.unusedVariables false
def slices_Compact_string_string.f (l : List ByteArray) : Option (List ByteArray) := some (compactS l)
theorem slices_Compact_string_string.calls (P0_ : Nat → Prop) (u9000_ : Value) (l0 r : List ByteArray) (w0 w : World) (hB : Below w0.heap.size w0 w) (ho0 : Kd.R Kd.string 9 w w0.heap.size P0_ u9000_ l0) (h : slices_Compact_string_string.f l0 = some r) :
    Calls Try.prog 50 #[u9000_] w fun e w' => ∃ v0_ : Value, e = .returned v0_ ∧ Kd.R Kd.string 9 w' w0.heap.size (fun k_ => (P0_ k_ ∨ w.heap.size ≤ k_)) v0_ r ∧ Below w0.heap.size w0 w' ∧ Kept w w' (fun k_ => P0_ k_) := by
  cases h
  have ho := Kd.own_of_R ho0
  obtain ⟨hlen, ho⟩ := ho
  rcases ho with ⟨rfl, h0⟩ | ⟨g, cap, cur, rfl, hbase, hb, h1, h2, h3, h4⟩
  · obtain rfl := List.length_eq_zero_iff.1 h0
    refine (Try.slices_Compact_string_empty none 0 w).mono ?_
    rintro e w' ⟨rfl, rfl⟩
    exact ⟨_, rfl, by simpa [compactS, Go.Lib.compact, Go.Lib.compactUpTo] using Kd.R_mono ho0 (fun k hk => .inl hk), hB, Kept.refl _ _⟩
  · have e4 : cur.toList.take (l0.map toL).length = (l0.map toL).map encStr := by
      rw [← encs_toL, List.length_map]
      rw [Nat.mul_one] at h4
      exact h4
    have hP : P0_ g := ho0.1 g rfl
    have hz : (l0.map toL).length ≤ 9223372036854775807 := by rw [List.length_map]; unfold maxLen at h2; omega
    have c := Try.slices_Compact_string g 0 cap (l0.map toL) w (so_holds hb e4) hz (by simpa using h1)
    rw [List.length_map] at c
    refine c.mono ?_
    rintro e w' ⟨rfl, q, rfl⟩
    generalize ht : Go.Lib.compact (l0.map toL) ++ List.replicate (l0.length - (Go.Lib.compact (l0.map toL)).length) ([] : List UInt8) = ts
    have hcl : (Go.Lib.compact (l0.map toL)).length ≤ l0.length := by simpa [compactS] using compactS_len l0
    have hl : ts.length = (l0.map toL).length := by rw [← ht]; simp; omega
    have e0 : putRow encStr (Sort.ahead w q) g 0 ts.toArray = grow (putRow encStr (Sort.ahead w q) g 0 ts.toArray) #[] := by simp
    rw [e0]
    have hgr := so_grown (w := w) (g := g) (n := q) (os := #[]) (enc := encStr) ts.toArray
    refine ⟨_, rfl, ?_, so_below hB hgr hbase, so_kept hgr hP⟩
    have hr := so_owns (w := w) (n := q) (os := #[]) (enc := encStr) (m := (Go.Lib.compact (l0.map toL)).length) (ts := ts) (ss := l0.map toL) hl (by rw [hl]; simpa using hcl) hbase hb (by simpa using h1) h2 h3
    refine Kd.R_of_own ?_ (fun k hk => .inl (ho0.1 k (by simpa [Value.ownBlock] using hk)))
    rw [← ht, List.take_left' rfl, encs_ofL] at hr
    rw [show (compactS l0).length = (Go.Lib.compact (l0.map toL)).length by simp [compactS]]
    rw [ht] at hr
    exact hr
end Go.Proofs.Ythpejcnldecmoaa.H
namespace Go.Proofs.Ythpejcnldecmoaa.H
open Go.RowKit Go.Sort Go.Proofs.YthpejcnldecmoaaW.PrintWords Go.Proofs.YthpejcnldecmoaaW.PrintLast Go.Proofs.YthpejcnldecmoaaW.PrintMore
set_option linter.unusedVariables false
def slices_Sort_string_string.f (l : List ByteArray) : Option (List ByteArray) := if l.length < 4611686018427387904 then some (sortS l) else none
theorem slices_Sort_string_string.calls (P0_ : Nat → Prop) (u9000_ : Value) (l0 r : List ByteArray) (w0 w : World) (hB : Below w0.heap.size w0 w) (ho0 : Kd.R Kd.string 9 w w0.heap.size P0_ u9000_ l0) (h : slices_Sort_string_string.f l0 = some r) :
    Calls Try.prog 49 #[u9000_] w fun e w' => e = .returned (.tuple #[]) ∧ Kd.R Kd.string 9 w' w0.heap.size (fun k_ => (P0_ k_ ∨ w.heap.size ≤ k_)) u9000_ r ∧ Below w0.heap.size w0 w' ∧ Kept w w' (fun k_ => P0_ k_) := by
  unfold slices_Sort_string_string.f at h
  split at h
  case isFalse => cases h
  rename_i hz0
  cases h
  have ho := Kd.own_of_R ho0
  obtain ⟨hlen, ho⟩ := ho
  rcases ho with ⟨rfl, h0⟩ | ⟨g, cap, cur, rfl, hbase, hb, h1, h2, h3, h4⟩
  · obtain rfl := List.length_eq_zero_iff.1 h0
    refine (Try.slices_Sort_string_none none 0 w).mono ?_
    rintro e w' ⟨rfl, rfl⟩
    exact ⟨rfl, by simpa [sortS] using Kd.R_mono ho0 (fun k hk => .inl hk), hB, Kept.refl _ _⟩
  · have e4 : cur.toList.take (l0.map toL).length = (l0.map toL).map encStr := by
      rw [← encs_toL, List.length_map]
      rw [Nat.mul_one] at h4
      exact h4
    have hP : P0_ g := ho0.1 g rfl
    have hg : g < w.heap.size := (Array.getElem?_eq_some_iff.1 hb).1
    have hz : (l0.map toL).length < 4611686018427387904 := by rw [List.length_map]; exact hz0
    have c := Try.slices_Sort_string g 0 cap (l0.map toL) w (so_holds hb e4) hg hz
    rw [List.length_map] at c
    refine c.mono ?_
    rintro e w' ⟨rfl, n, os, rfl⟩
    have hgr := so_grown (w := w) (g := g) (n := n) (os := os) (enc := encStr) ((l0.map toL).mergeSort fun x y => decide (x ≤ y)).toArray
    refine ⟨rfl, ?_, so_below hB hgr hbase, so_kept hgr hP⟩
    have hr := so_owns (w := w) (n := n) (os := os) (enc := encStr) (m := l0.length) (ts := (l0.map toL).mergeSort fun x y => decide (x ≤ y)) (ss := l0.map toL) (by simp) (by simp) hbase hb (by simpa using h1) h2 h3
    refine Kd.R_of_own ?_ (fun k hk => .inl (ho0.1 k hk))
    rw [List.take_of_length_le (by simp), encs_ofL] at hr
    rw [sortS_len]
    simpa [sortS, encs] using hr
end Go.Proofs.Ythpejcnldecmoaa.H
