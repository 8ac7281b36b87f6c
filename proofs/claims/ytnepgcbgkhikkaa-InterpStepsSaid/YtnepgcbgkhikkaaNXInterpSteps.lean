/- RowInterpSteps of the seat's law InterpSteps: the law holds, under the statement's own conditions. -/
import Derived.Test.YtnepgcbgkhikkaaProg
import Derived.Below
import Derived.Deep.Draws
import Derived.Deep.AppendLies
import Derived.Maps.AppendAt
import Derived.OwnWalk
import Derived.Laws.BytesArg
import Derived.Laws.MakeOwn
import Derived.Laws.OwnMore
import Derived.Deep.OwnRows
import Derived.Tactics
import Derived.Lib.ConvBytes
import Derived.Laws.Slices
import Derived.WalkKit
import Derived.KernelRfl
import Derived.RowKit3
import Derived.Deep.LoopGhost
import Derived.Deep.QuietTactic
import Derived.BigQuiet
import Derived.WideLaws
import Derived.Deep.DeepCutAuto
import Derived.Deep.CutBlock
import Derived.Deep.RegionHeld3
import Derived.Laws.Rows
import Derived.Lib.AppendStr
import Derived.ArgAppend
import Derived.Laws.IdiomCopy
import Derived.OrdersHeld
import Derived.Laws.BitsLemmas
import Derived.RowKit
import Derived.Test.YtnepgcbgkhikkaaNW
import Derived.Shelf.Abstract
import Derived.Deep.DeepMust
import Derived.Outline
import Derived.Lib.SliceRun
import Derived.Sort.Grow
import Derived.Sort.EncStr
import Derived.Lib.SlicesCompact
import Derived.Shelf.Small.Wraps
import Derived.Shelf.Sort.Plain
import Derived.Shelf.Slices.Turned
import Derived.Ground.Names2Prog
import Derived.Shelf.Slices.Clone
import Derived.Shelf.Slices.CompactI
import Derived.Shelf.Slices.CompactS
import Derived.Shelf.Slices.Cells
import Derived.Shelf.Slices.In.SortNone
import Derived.Ground.SlgnProg
import Derived.Shelf.SlicesE.Compact
import Derived.Shelf.SlicesE.Clone
import Derived.Ground.SlgfProg
import Derived.Shelf.SlicesE.IndexFunc
import Derived.Shelf.SlicesE.DeleteFunc
namespace Go.Proofs.Ytnepgcbgkhikkaa.H
open Go.RowKit Go.Proofs.YtnepgcbgkhikkaaW.PrintWords Go.Proofs.YtnepgcbgkhikkaaW.PrintLast Go.Proofs.YtnepgcbgkhikkaaW.PrintMore
attribute [local go_sem] max2_int min2_int max_two min_two max_three min_three max_four min_four
set_option linter.unusedVariables false
set_option linter.unusedSimpArgs false
def errW : Option Int → Value
 | none => .nilIface
 | some c => .iface 0 (.int .i64 c)
theorem errW_none : errW none = .nilIface := rfl
theorem errW_some (c : Int) : errW (some c) = .iface 0 (.int .i64 c) := rfl
theorem info2 : (Try.prog.info? 2).map (fun i => (i.zero, i.size, i.bytes)) = some (some (.int .i64 0), 1, 8) := by kernel_rfl
theorem info3 : (Try.prog.info? 3).map (fun i => (i.zero, i.size, i.bytes)) = some (some (.int .i64 0), 1, 8) := by kernel_rfl
theorem info4 : (Try.prog.info? 4).map (fun i => (i.zero, i.size, i.bytes)) = some (some (.bool false), 1, 1) := by kernel_rfl
theorem info9 : (Try.prog.info? 9).map (fun i => (i.zero, i.size, i.bytes)) = some (some (.string ⟨#[]⟩), 1, 16) := by kernel_rfl
theorem info30 : (Try.prog.info? 30).map (fun i => (i.zero, i.size, i.bytes)) = some (some (.agg #[(.int .i64 0), (.string ⟨#[]⟩), (.string ⟨#[]⟩), (.string ⟨#[]⟩), (.string ⟨#[]⟩), (.int .i64 0), (.int .i64 0), (.int .i64 0)]), 8, 96) := by kernel_rfl
theorem info41 : (Try.prog.info? 41).map (fun i => (i.zero, i.size, i.bytes)) = some (some (.slice none 0 0), 1, 24) := by kernel_rfl
theorem info52 : (Try.prog.info? 52).map (fun i => (i.zero, i.size, i.bytes)) = some (some (.agg #[(.int .i64 0), (.slice none 0 0)]), 2, 32) := by kernel_rfl
theorem info54 : (Try.prog.info? 54).map (fun i => (i.zero, i.size, i.bytes)) = some (some (.agg #[(.string ⟨#[]⟩), (.int .i64 0), (.int .i64 0), (.bool false)]), 4, 40) := by kernel_rfl
theorem info67 : (Try.prog.info? 67).map (fun i => (i.zero, i.size, i.bytes)) = some (some (.agg #[(.int .i64 0), (.slice none 0 0)]), 2, 32) := by kernel_rfl
theorem info68 : (Try.prog.info? 68).map (fun i => (i.zero, i.size, i.bytes)) = some (some (.agg #[(.string ⟨#[]⟩), (.int .i64 0), (.int .i64 0), (.bool false)]), 4, 40) := by kernel_rfl
-- the values' own types
/-! #### struct type 30 -/
structure Stmt where
 kind : Int
 x : ByteArray
 y : ByteArray
 z : ByteArray
 op : ByteArray
 n : Int
 a : Int
 b : Int
deriving DecidableEq
def z30 : Stmt := ⟨(0 : Int), (⟨#[]⟩ : ByteArray), (⟨#[]⟩ : ByteArray), (⟨#[]⟩ : ByteArray), (⟨#[]⟩ : ByteArray), (0 : Int), (0 : Int), (0 : Int)⟩
def k30 : Kd Stmt := Kd.iso (Kd.pair (Kd.int .i64) (Kd.pair Kd.string (Kd.pair Kd.string (Kd.pair Kd.string (Kd.pair Kd.string (Kd.pair (Kd.int .i64) (Kd.pair (Kd.int .i64) (Kd.int .i64)))))))) (fun x : Stmt => (x.kind, x.x, x.y, x.z, x.op, x.n, x.a, x.b))
theorem k30_heap : Kd.Heap k30 := Kd.heap_iso _ (Kd.heap_pair (Kd.heap_int .i64) (Kd.heap_pair Kd.heap_string (Kd.heap_pair Kd.heap_string (Kd.heap_pair Kd.heap_string (Kd.heap_pair Kd.heap_string (Kd.heap_pair (Kd.heap_int .i64) (Kd.heap_pair (Kd.heap_int .i64) (Kd.heap_int .i64))))))))
theorem k30_open {w : World} {x : Stmt} {cs : List Value} (h : k30.K w x cs) : cs = [.int .i64 x.kind, .string x.x, .string x.y, .string x.z, .string x.op, .int .i64 x.n, .int .i64 x.a, .int .i64 x.b] := by
 obtain ⟨_, _, rfl, rfl, ⟨_, _, rfl, rfl, ⟨_, _, rfl, rfl, ⟨_, _, rfl, rfl, ⟨_, _, rfl, rfl, ⟨_, _, rfl, rfl, ⟨_, _, rfl, rfl, rfl⟩⟩⟩⟩⟩⟩⟩ := h
 exact rfl
theorem k30_openM {w : World} {base : Nat} {ok : Nat → Prop} {x : Stmt} {cs : List Value} (h : k30.M w base ok x cs) : cs = [.int .i64 x.kind, .string x.x, .string x.y, .string x.z, .string x.op, .int .i64 x.n, .int .i64 x.a, .int .i64 x.b] := by
 obtain ⟨_, _, rfl, rfl, ⟨_, _, rfl, rfl, ⟨_, _, rfl, rfl, ⟨_, _, rfl, rfl, ⟨_, _, rfl, rfl, ⟨_, _, rfl, rfl, ⟨_, _, rfl, rfl, rfl⟩⟩⟩⟩⟩⟩⟩ := h
 exact rfl
theorem k30_mk (w : World) (x : Stmt)  : k30.K w x [.int .i64 x.kind, .string x.x, .string x.y, .string x.z, .string x.op, .int .i64 x.n, .int .i64 x.a, .int .i64 x.b] := ⟨[.int .i64 x.kind], [.string x.x, .string x.y, .string x.z, .string x.op, .int .i64 x.n, .int .i64 x.a, .int .i64 x.b], rfl, rfl, ⟨[.string x.x], [.string x.y, .string x.z, .string x.op, .int .i64 x.n, .int .i64 x.a, .int .i64 x.b], rfl, rfl, ⟨[.string x.y], [.string x.z, .string x.op, .int .i64 x.n, .int .i64 x.a, .int .i64 x.b], rfl, rfl, ⟨[.string x.z], [.string x.op, .int .i64 x.n, .int .i64 x.a, .int .i64 x.b], rfl, rfl, ⟨[.string x.op], [.int .i64 x.n, .int .i64 x.a, .int .i64 x.b], rfl, rfl, ⟨[.int .i64 x.n], [.int .i64 x.a, .int .i64 x.b], rfl, rfl, ⟨[.int .i64 x.a], [.int .i64 x.b], rfl, rfl, rfl⟩⟩⟩⟩⟩⟩⟩
theorem k30_mkM (w : World) (base : Nat) (ok : Nat → Prop) (x : Stmt)  : k30.M w base ok x [.int .i64 x.kind, .string x.x, .string x.y, .string x.z, .string x.op, .int .i64 x.n, .int .i64 x.a, .int .i64 x.b] := ⟨[.int .i64 x.kind], [.string x.x, .string x.y, .string x.z, .string x.op, .int .i64 x.n, .int .i64 x.a, .int .i64 x.b], rfl, rfl, ⟨[.string x.x], [.string x.y, .string x.z, .string x.op, .int .i64 x.n, .int .i64 x.a, .int .i64 x.b], rfl, rfl, ⟨[.string x.y], [.string x.z, .string x.op, .int .i64 x.n, .int .i64 x.a, .int .i64 x.b], rfl, rfl, ⟨[.string x.z], [.string x.op, .int .i64 x.n, .int .i64 x.a, .int .i64 x.b], rfl, rfl, ⟨[.string x.op], [.int .i64 x.n, .int .i64 x.a, .int .i64 x.b], rfl, rfl, ⟨[.int .i64 x.n], [.int .i64 x.a, .int .i64 x.b], rfl, rfl, ⟨[.int .i64 x.a], [.int .i64 x.b], rfl, rfl, rfl⟩⟩⟩⟩⟩⟩⟩
theorem k30_mkF (W : World) (ok : Nat → Prop) (x : Stmt) : Kd.FK k30 W ok x [.int .i64 x.kind, .string x.x, .string x.y, .string x.z, .string x.op, .int .i64 x.n, .int .i64 x.a, .int .i64 x.b] := fun W2 _ => k30_mk W2 x
def rd_T30 (xs : List Stmt) (i : Int) : Stmt := xs.getD i.toNat z30
theorem at_T30 {w : World} {A : Option Addr} {n : Nat} {xs : List Stmt} (h : Kd.C k30 w A n xs) (i : Int) (h0 : 0 ≤ i) (h1 : i < n) : ∃ ad , A = some ad ∧ w.cell? (ad.add (i.toNat * 8)) = some (.int .i64 (rd_T30 xs i).kind) ∧ w.cell? ⟨(ad.add (i.toNat * 8)).block, (ad.add (i.toNat * 8)).off + 1, none⟩ = some (.string (rd_T30 xs i).x) ∧ w.cell? ⟨(ad.add (i.toNat * 8)).block, (ad.add (i.toNat * 8)).off + 2, none⟩ = some (.string (rd_T30 xs i).y) ∧ w.cell? ⟨(ad.add (i.toNat * 8)).block, (ad.add (i.toNat * 8)).off + 3, none⟩ = some (.string (rd_T30 xs i).z) ∧ w.cell? ⟨(ad.add (i.toNat * 8)).block, (ad.add (i.toNat * 8)).off + 4, none⟩ = some (.string (rd_T30 xs i).op) ∧ w.cell? ⟨(ad.add (i.toNat * 8)).block, (ad.add (i.toNat * 8)).off + 5, none⟩ = some (.int .i64 (rd_T30 xs i).n) ∧ w.cell? ⟨(ad.add (i.toNat * 8)).block, (ad.add (i.toNat * 8)).off + 6, none⟩ = some (.int .i64 (rd_T30 xs i).a) ∧ w.cell? ⟨(ad.add (i.toNat * 8)).block, (ad.add (i.toNat * 8)).off + 7, none⟩ = some (.int .i64 (rd_T30 xs i).b) := by
 obtain ⟨ad, c, e, _, hK, hc0⟩ := Kd.C_get h z30 i h0 h1
 have hc : ∀ j u, c[j]? = some u → w.cell? (ad.add (i.toNat * 8 + j)) = some u := hc0
 obtain rfl := k30_open hK
 exact ⟨ad, e, hc 0 _ rfl, by rw [← add_field _ _ 1 (by omega)]; exact hc 1 _ rfl, by rw [← add_field _ _ 2 (by omega)]; exact hc 2 _ rfl, by rw [← add_field _ _ 3 (by omega)]; exact hc 3 _ rfl, by rw [← add_field _ _ 4 (by omega)]; exact hc 4 _ rfl, by rw [← add_field _ _ 5 (by omega)]; exact hc 5 _ rfl, by rw [← add_field _ _ 6 (by omega)]; exact hc 6 _ rfl, by rw [← add_field _ _ 7 (by omega)]; exact hc 7 _ rfl⟩
def rd_L3 (xs : List (List Stmt)) (i : Int) : (List Stmt) := xs.getD i.toNat ([] : List Stmt)
theorem at_L3 {w : World} {A : Option Addr} {n : Nat} {xs : List (List Stmt)} (h : Kd.C (Kd.slice 30 k30) w A n xs) (i : Int) (h0 : 0 ≤ i) (h1 : i < n) : ∃ ad A0 c0, A = some ad ∧ w.cell? (ad.add i.toNat) = some (.slice A0 (rd_L3 xs i).length c0) ∧ (rd_L3 xs i).length ≤ c0 ∧ k30.C w A0 (rd_L3 xs i).length (rd_L3 xs i) := by
 obtain ⟨ad, c, e, _, hK, hc0⟩ := Kd.C_get h ([] : List Stmt) i h0 h1
 have hc : ∀ j u, c[j]? = some u → w.cell? (ad.add (i.toNat * 1 + j)) = some u := hc0
 obtain ⟨A0, c0, rfl, l0, g0⟩ := hK
 exact ⟨ad, A0, c0, e, by have hq := hc 0 _ rfl; rwa [Nat.mul_one, Nat.add_zero] at hq, l0, g0⟩
def rd_L4 (xs : List (List Int)) (i : Int) : (List Int) := xs.getD i.toNat ([] : List Int)
theorem at_L4 {w : World} {A : Option Addr} {n : Nat} {xs : List (List Int)} (h : Kd.C (Kd.slice 2 (Kd.int .i64)) w A n xs) (i : Int) (h0 : 0 ≤ i) (h1 : i < n) : ∃ ad A0 c0, A = some ad ∧ w.cell? (ad.add i.toNat) = some (.slice A0 (rd_L4 xs i).length c0) ∧ (rd_L4 xs i).length ≤ c0 ∧ (Kd.int .i64).C w A0 (rd_L4 xs i).length (rd_L4 xs i) := by
 obtain ⟨ad, c, e, _, hK, hc0⟩ := Kd.C_get h ([] : List Int) i h0 h1
 have hc : ∀ j u, c[j]? = some u → w.cell? (ad.add (i.toNat * 1 + j)) = some u := hc0
 obtain ⟨A0, c0, rfl, l0, g0⟩ := hK
 exact ⟨ad, A0, c0, e, by have hq := hc 0 _ rfl; rwa [Nat.mul_one, Nat.add_zero] at hq, l0, g0⟩
def rd_L6 (xs : List (List Bool)) (i : Int) : (List Bool) := xs.getD i.toNat ([] : List Bool)
theorem at_L6 {w : World} {A : Option Addr} {n : Nat} {xs : List (List Bool)} (h : Kd.C (Kd.slice 4 Kd.bool) w A n xs) (i : Int) (h0 : 0 ≤ i) (h1 : i < n) : ∃ ad A0 c0, A = some ad ∧ w.cell? (ad.add i.toNat) = some (.slice A0 (rd_L6 xs i).length c0) ∧ (rd_L6 xs i).length ≤ c0 ∧ Kd.bool.C w A0 (rd_L6 xs i).length (rd_L6 xs i) := by
 obtain ⟨ad, c, e, _, hK, hc0⟩ := Kd.C_get h ([] : List Bool) i h0 h1
 have hc : ∀ j u, c[j]? = some u → w.cell? (ad.add (i.toNat * 1 + j)) = some u := hc0
 obtain ⟨A0, c0, rfl, l0, g0⟩ := hK
 exact ⟨ad, A0, c0, e, by have hq := hc 0 _ rfl; rwa [Nat.mul_one, Nat.add_zero] at hq, l0, g0⟩
/-! #### struct type 43 -/
structure Script where
 l : (List Stmt)
 ins : (List Int)
 ora : (List Bool)
 most : Int
deriving DecidableEq
def z43 : Script := ⟨([] : List Stmt), ([] : List Int), ([] : List Bool), (0 : Int)⟩
def k43 : Kd Script := Kd.iso (Kd.pair (Kd.slice 30 k30) (Kd.pair (Kd.slice 2 (Kd.int .i64)) (Kd.pair (Kd.slice 4 Kd.bool) (Kd.int .i64)))) (fun x : Script => (x.l, x.ins, x.ora, x.most))
theorem k43_heap : Kd.Heap k43 := Kd.heap_iso _ (Kd.heap_pair (Kd.heap_slice 30 k30_heap) (Kd.heap_pair (Kd.heap_slice 2 (Kd.heap_int .i64)) (Kd.heap_pair (Kd.heap_slice 4 Kd.heap_bool) (Kd.heap_int .i64))))
theorem k43_open {w : World} {x : Script} {cs : List Value} (h : k43.K w x cs) : ∃ A0 c0 A1 c1 A2 c2, cs = [.slice A0 x.l.length c0, .slice A1 x.ins.length c1, .slice A2 x.ora.length c2, .int .i64 x.most] ∧ x.l.length ≤ c0 ∧ k30.C w A0 x.l.length x.l ∧ x.ins.length ≤ c1 ∧ (Kd.int .i64).C w A1 x.ins.length x.ins ∧ x.ora.length ≤ c2 ∧ Kd.bool.C w A2 x.ora.length x.ora := by
 obtain ⟨_, _, rfl, ⟨A0, c0, rfl, l0, g0⟩, ⟨_, _, rfl, ⟨A1, c1, rfl, l1, g1⟩, ⟨_, _, rfl, ⟨A2, c2, rfl, l2, g2⟩, rfl⟩⟩⟩ := h
 exact ⟨A0, c0, A1, c1, A2, c2, rfl, l0, g0, l1, g1, l2, g2⟩
theorem k43_openM {w : World} {base : Nat} {ok : Nat → Prop} {x : Script} {cs : List Value} (h : k43.M w base ok x cs) : ∃ v0 v1 v2, cs = [v0, v1, v2, .int .i64 x.most] ∧ k30.R 30 w base ok v0 x.l ∧ (Kd.int .i64).R 2 w base ok v1 x.ins ∧ Kd.bool.R 4 w base ok v2 x.ora := by
 obtain ⟨_, _, rfl, ⟨v0, rfl, g0⟩, ⟨_, _, rfl, ⟨v1, rfl, g1⟩, ⟨_, _, rfl, ⟨v2, rfl, g2⟩, rfl⟩⟩⟩ := h
 exact ⟨v0, v1, v2, rfl, g0, g1, g2⟩
theorem k43_mk (w : World) (x : Script) {A0 : Option Addr} {c0 : Nat} (l0 : x.l.length ≤ c0) (g0 : k30.C w A0 x.l.length x.l) {A1 : Option Addr} {c1 : Nat} (l1 : x.ins.length ≤ c1) (g1 : (Kd.int .i64).C w A1 x.ins.length x.ins) {A2 : Option Addr} {c2 : Nat} (l2 : x.ora.length ≤ c2) (g2 : Kd.bool.C w A2 x.ora.length x.ora) : k43.K w x [.slice A0 x.l.length c0, .slice A1 x.ins.length c1, .slice A2 x.ora.length c2, .int .i64 x.most] := ⟨[.slice A0 x.l.length c0], [.slice A1 x.ins.length c1, .slice A2 x.ora.length c2, .int .i64 x.most], rfl, ⟨A0, c0, rfl, l0, g0⟩, ⟨[.slice A1 x.ins.length c1], [.slice A2 x.ora.length c2, .int .i64 x.most], rfl, ⟨A1, c1, rfl, l1, g1⟩, ⟨[.slice A2 x.ora.length c2], [.int .i64 x.most], rfl, ⟨A2, c2, rfl, l2, g2⟩, rfl⟩⟩⟩
theorem k43_mkM (w : World) (base : Nat) (ok : Nat → Prop) (x : Script) {v0 : Value} (g0 : k30.R 30 w base ok v0 x.l) {v1 : Value} (g1 : (Kd.int .i64).R 2 w base ok v1 x.ins) {v2 : Value} (g2 : Kd.bool.R 4 w base ok v2 x.ora) : k43.M w base ok x [v0, v1, v2, .int .i64 x.most] := ⟨[v0], [v1, v2, .int .i64 x.most], rfl, ⟨v0, rfl, g0⟩, ⟨[v1], [v2, .int .i64 x.most], rfl, ⟨v1, rfl, g1⟩, ⟨[v2], [.int .i64 x.most], rfl, ⟨v2, rfl, g2⟩, rfl⟩⟩⟩
theorem k43_openF {W : World} {ok : Nat → Prop} {x : Script} {cs : List Value} (h : Kd.FK k43 W ok x cs) : ∃ A0 c0 A1 c1 A2 c2, cs = [.slice A0 x.l.length c0, .slice A1 x.ins.length c1, .slice A2 x.ora.length c2, .int .i64 x.most] ∧ x.l.length ≤ c0 ∧ Kd.F k30 W ok A0 x.l.length x.l ∧ x.ins.length ≤ c1 ∧ Kd.F (Kd.int .i64) W ok A1 x.ins.length x.ins ∧ x.ora.length ≤ c2 ∧ Kd.F Kd.bool W ok A2 x.ora.length x.ora := by
 obtain ⟨A0, c0, A1, c1, A2, c2, rfl, l0, _, l1, _, l2, _⟩ := k43_open (Kd.FK_now h)
 exact ⟨A0, c0, A1, c1, A2, c2, rfl, l0, (fun W' hW => by obtain ⟨A0_, c0_, A1_, c1_, A2_, c2_, he, l0_, g0_, l1_, g1_, l2_, g2_⟩ := k43_open (h W' hW); injection (Option.some.inj (show some (Value.slice A0 x.l.length c0) = some (Value.slice A0_ x.l.length c0_) from congrArg (fun l => l[0]?) he)) with ha_ _ _; rw [ha_]; exact g0_), l1, (fun W' hW => by obtain ⟨A0_, c0_, A1_, c1_, A2_, c2_, he, l0_, g0_, l1_, g1_, l2_, g2_⟩ := k43_open (h W' hW); injection (Option.some.inj (show some (Value.slice A1 x.ins.length c1) = some (Value.slice A1_ x.ins.length c1_) from congrArg (fun l => l[1]?) he)) with ha_ _ _; rw [ha_]; exact g1_), l2, (fun W' hW => by obtain ⟨A0_, c0_, A1_, c1_, A2_, c2_, he, l0_, g0_, l1_, g1_, l2_, g2_⟩ := k43_open (h W' hW); injection (Option.some.inj (show some (Value.slice A2 x.ora.length c2) = some (Value.slice A2_ x.ora.length c2_) from congrArg (fun l => l[2]?) he)) with ha_ _ _; rw [ha_]; exact g2_)⟩
theorem k43_mkF (W : World) (ok : Nat → Prop) (x : Script) {A0 : Option Addr} {c0 : Nat} (l0 : x.l.length ≤ c0) (g0 : Kd.F k30 W ok A0 x.l.length x.l) {A1 : Option Addr} {c1 : Nat} (l1 : x.ins.length ≤ c1) (g1 : Kd.F (Kd.int .i64) W ok A1 x.ins.length x.ins) {A2 : Option Addr} {c2 : Nat} (l2 : x.ora.length ≤ c2) (g2 : Kd.F Kd.bool W ok A2 x.ora.length x.ora) : Kd.FK k43 W ok x [.slice A0 x.l.length c0, .slice A1 x.ins.length c1, .slice A2 x.ora.length c2, .int .i64 x.most] := fun W2 hW => k43_mk W2 x l0 (g0 W2 hW) l1 (g1 W2 hW) l2 (g2 W2 hW)
def rd_T43 (xs : List Script) (i : Int) : Script := xs.getD i.toNat z43
theorem at_T43 {w : World} {A : Option Addr} {n : Nat} {xs : List Script} (h : Kd.C k43 w A n xs) (i : Int) (h0 : 0 ≤ i) (h1 : i < n) : ∃ ad A0 c0 A1 c1 A2 c2, A = some ad ∧ w.cell? (ad.add (i.toNat * 4)) = some (.slice A0 (rd_T43 xs i).l.length c0) ∧ w.cell? ⟨(ad.add (i.toNat * 4)).block, (ad.add (i.toNat * 4)).off + 1, none⟩ = some (.slice A1 (rd_T43 xs i).ins.length c1) ∧ w.cell? ⟨(ad.add (i.toNat * 4)).block, (ad.add (i.toNat * 4)).off + 2, none⟩ = some (.slice A2 (rd_T43 xs i).ora.length c2) ∧ w.cell? ⟨(ad.add (i.toNat * 4)).block, (ad.add (i.toNat * 4)).off + 3, none⟩ = some (.int .i64 (rd_T43 xs i).most) ∧ (rd_T43 xs i).l.length ≤ c0 ∧ k30.C w A0 (rd_T43 xs i).l.length (rd_T43 xs i).l ∧ (rd_T43 xs i).ins.length ≤ c1 ∧ (Kd.int .i64).C w A1 (rd_T43 xs i).ins.length (rd_T43 xs i).ins ∧ (rd_T43 xs i).ora.length ≤ c2 ∧ Kd.bool.C w A2 (rd_T43 xs i).ora.length (rd_T43 xs i).ora := by
 obtain ⟨ad, c, e, _, hK, hc0⟩ := Kd.C_get h z43 i h0 h1
 have hc : ∀ j u, c[j]? = some u → w.cell? (ad.add (i.toNat * 4 + j)) = some u := hc0
 obtain ⟨A0, c0, A1, c1, A2, c2, rfl, l0, g0, l1, g1, l2, g2⟩ := k43_open hK
 exact ⟨ad, A0, c0, A1, c1, A2, c2, e, hc 0 _ rfl, by rw [← add_field _ _ 1 (by omega)]; exact hc 1 _ rfl, by rw [← add_field _ _ 2 (by omega)]; exact hc 2 _ rfl, by rw [← add_field _ _ 3 (by omega)]; exact hc 3 _ rfl, l0, g0, l1, g1, l2, g2⟩
/-! #### struct type 54 -/
structure Var where
 name : ByteArray
 n : Int
 last : Int
 taint : Bool
deriving DecidableEq
def z54 : Var := ⟨(⟨#[]⟩ : ByteArray), (0 : Int), (0 : Int), false⟩
def k54 : Kd Var := Kd.iso (Kd.pair Kd.string (Kd.pair (Kd.int .i64) (Kd.pair (Kd.int .i64) Kd.bool))) (fun x : Var => (x.name, x.n, x.last, x.taint))
theorem k54_heap : Kd.Heap k54 := Kd.heap_iso _ (Kd.heap_pair Kd.heap_string (Kd.heap_pair (Kd.heap_int .i64) (Kd.heap_pair (Kd.heap_int .i64) Kd.heap_bool)))
theorem k54_open {w : World} {x : Var} {cs : List Value} (h : k54.K w x cs) : cs = [.string x.name, .int .i64 x.n, .int .i64 x.last, .bool x.taint] := by
 obtain ⟨_, _, rfl, rfl, ⟨_, _, rfl, rfl, ⟨_, _, rfl, rfl, rfl⟩⟩⟩ := h
 exact rfl
theorem k54_openM {w : World} {base : Nat} {ok : Nat → Prop} {x : Var} {cs : List Value} (h : k54.M w base ok x cs) : cs = [.string x.name, .int .i64 x.n, .int .i64 x.last, .bool x.taint] := by
 obtain ⟨_, _, rfl, rfl, ⟨_, _, rfl, rfl, ⟨_, _, rfl, rfl, rfl⟩⟩⟩ := h
 exact rfl
theorem k54_mk (w : World) (x : Var)  : k54.K w x [.string x.name, .int .i64 x.n, .int .i64 x.last, .bool x.taint] := ⟨[.string x.name], [.int .i64 x.n, .int .i64 x.last, .bool x.taint], rfl, rfl, ⟨[.int .i64 x.n], [.int .i64 x.last, .bool x.taint], rfl, rfl, ⟨[.int .i64 x.last], [.bool x.taint], rfl, rfl, rfl⟩⟩⟩
theorem k54_mkM (w : World) (base : Nat) (ok : Nat → Prop) (x : Var)  : k54.M w base ok x [.string x.name, .int .i64 x.n, .int .i64 x.last, .bool x.taint] := ⟨[.string x.name], [.int .i64 x.n, .int .i64 x.last, .bool x.taint], rfl, rfl, ⟨[.int .i64 x.n], [.int .i64 x.last, .bool x.taint], rfl, rfl, ⟨[.int .i64 x.last], [.bool x.taint], rfl, rfl, rfl⟩⟩⟩
theorem k54_mkF (W : World) (ok : Nat → Prop) (x : Var) : Kd.FK k54 W ok x [.string x.name, .int .i64 x.n, .int .i64 x.last, .bool x.taint] := fun W2 _ => k54_mk W2 x
def rd_T54 (xs : List Var) (i : Int) : Var := xs.getD i.toNat z54
theorem at_T54 {w : World} {A : Option Addr} {n : Nat} {xs : List Var} (h : Kd.C k54 w A n xs) (i : Int) (h0 : 0 ≤ i) (h1 : i < n) : ∃ ad , A = some ad ∧ w.cell? (ad.add (i.toNat * 4)) = some (.string (rd_T54 xs i).name) ∧ w.cell? ⟨(ad.add (i.toNat * 4)).block, (ad.add (i.toNat * 4)).off + 1, none⟩ = some (.int .i64 (rd_T54 xs i).n) ∧ w.cell? ⟨(ad.add (i.toNat * 4)).block, (ad.add (i.toNat * 4)).off + 2, none⟩ = some (.int .i64 (rd_T54 xs i).last) ∧ w.cell? ⟨(ad.add (i.toNat * 4)).block, (ad.add (i.toNat * 4)).off + 3, none⟩ = some (.bool (rd_T54 xs i).taint) := by
 obtain ⟨ad, c, e, _, hK, hc0⟩ := Kd.C_get h z54 i h0 h1
 have hc : ∀ j u, c[j]? = some u → w.cell? (ad.add (i.toNat * 4 + j)) = some u := hc0
 obtain rfl := k54_open hK
 exact ⟨ad, e, hc 0 _ rfl, by rw [← add_field _ _ 1 (by omega)]; exact hc 1 _ rfl, by rw [← add_field _ _ 2 (by omega)]; exact hc 2 _ rfl, by rw [← add_field _ _ 3 (by omega)]; exact hc 3 _ rfl⟩
def rd_L9 (xs : List (List Var)) (i : Int) : (List Var) := xs.getD i.toNat ([] : List Var)
theorem at_L9 {w : World} {A : Option Addr} {n : Nat} {xs : List (List Var)} (h : Kd.C (Kd.slice 54 k54) w A n xs) (i : Int) (h0 : 0 ≤ i) (h1 : i < n) : ∃ ad A0 c0, A = some ad ∧ w.cell? (ad.add i.toNat) = some (.slice A0 (rd_L9 xs i).length c0) ∧ (rd_L9 xs i).length ≤ c0 ∧ k54.C w A0 (rd_L9 xs i).length (rd_L9 xs i) := by
 obtain ⟨ad, c, e, _, hK, hc0⟩ := Kd.C_get h ([] : List Var) i h0 h1
 have hc : ∀ j u, c[j]? = some u → w.cell? (ad.add (i.toNat * 1 + j)) = some u := hc0
 obtain ⟨A0, c0, rfl, l0, g0⟩ := hK
 exact ⟨ad, A0, c0, e, by have hq := hc 0 _ rfl; rwa [Nat.mul_one, Nat.add_zero] at hq, l0, g0⟩
/-! #### struct type 52 -/
structure Visit where
 place : Int
 vars : (List Var)
deriving DecidableEq
def z52 : Visit := ⟨(0 : Int), ([] : List Var)⟩
def k52 : Kd Visit := Kd.iso (Kd.pair (Kd.int .i64) (Kd.slice 54 k54)) (fun x : Visit => (x.place, x.vars))
theorem k52_heap : Kd.Heap k52 := Kd.heap_iso _ (Kd.heap_pair (Kd.heap_int .i64) (Kd.heap_slice 54 k54_heap))
theorem k52_open {w : World} {x : Visit} {cs : List Value} (h : k52.K w x cs) : ∃ A1 c1, cs = [.int .i64 x.place, .slice A1 x.vars.length c1] ∧ x.vars.length ≤ c1 ∧ k54.C w A1 x.vars.length x.vars := by
 obtain ⟨_, _, rfl, rfl, ⟨A1, c1, rfl, l1, g1⟩⟩ := h
 exact ⟨A1, c1, rfl, l1, g1⟩
theorem k52_openM {w : World} {base : Nat} {ok : Nat → Prop} {x : Visit} {cs : List Value} (h : k52.M w base ok x cs) : ∃ v1, cs = [.int .i64 x.place, v1] ∧ k54.R 54 w base ok v1 x.vars := by
 obtain ⟨_, _, rfl, rfl, ⟨v1, rfl, g1⟩⟩ := h
 exact ⟨v1, rfl, g1⟩
theorem k52_mk (w : World) (x : Visit) {A1 : Option Addr} {c1 : Nat} (l1 : x.vars.length ≤ c1) (g1 : k54.C w A1 x.vars.length x.vars) : k52.K w x [.int .i64 x.place, .slice A1 x.vars.length c1] := ⟨[.int .i64 x.place], [.slice A1 x.vars.length c1], rfl, rfl, ⟨A1, c1, rfl, l1, g1⟩⟩
theorem k52_mkM (w : World) (base : Nat) (ok : Nat → Prop) (x : Visit) {v1 : Value} (g1 : k54.R 54 w base ok v1 x.vars) : k52.M w base ok x [.int .i64 x.place, v1] := ⟨[.int .i64 x.place], [v1], rfl, rfl, ⟨v1, rfl, g1⟩⟩
theorem k52_openF {W : World} {ok : Nat → Prop} {x : Visit} {cs : List Value} (h : Kd.FK k52 W ok x cs) : ∃ A1 c1, cs = [.int .i64 x.place, .slice A1 x.vars.length c1] ∧ x.vars.length ≤ c1 ∧ Kd.F k54 W ok A1 x.vars.length x.vars := by
 obtain ⟨A1, c1, rfl, l1, _⟩ := k52_open (Kd.FK_now h)
 exact ⟨A1, c1, rfl, l1, (fun W' hW => by obtain ⟨A1_, c1_, he, l1_, g1_⟩ := k52_open (h W' hW); injection (Option.some.inj (show some (Value.slice A1 x.vars.length c1) = some (Value.slice A1_ x.vars.length c1_) from congrArg (fun l => l[1]?) he)) with ha_ _ _; rw [ha_]; exact g1_)⟩
theorem k52_mkF (W : World) (ok : Nat → Prop) (x : Visit) {A1 : Option Addr} {c1 : Nat} (l1 : x.vars.length ≤ c1) (g1 : Kd.F k54 W ok A1 x.vars.length x.vars) : Kd.FK k52 W ok x [.int .i64 x.place, .slice A1 x.vars.length c1] := fun W2 hW => k52_mk W2 x l1 (g1 W2 hW)
def rd_T52 (xs : List Visit) (i : Int) : Visit := xs.getD i.toNat z52
theorem at_T52 {w : World} {A : Option Addr} {n : Nat} {xs : List Visit} (h : Kd.C k52 w A n xs) (i : Int) (h0 : 0 ≤ i) (h1 : i < n) : ∃ ad A1 c1, A = some ad ∧ w.cell? (ad.add (i.toNat * 2)) = some (.int .i64 (rd_T52 xs i).place) ∧ w.cell? ⟨(ad.add (i.toNat * 2)).block, (ad.add (i.toNat * 2)).off + 1, none⟩ = some (.slice A1 (rd_T52 xs i).vars.length c1) ∧ (rd_T52 xs i).vars.length ≤ c1 ∧ k54.C w A1 (rd_T52 xs i).vars.length (rd_T52 xs i).vars := by
 obtain ⟨ad, c, e, _, hK, hc0⟩ := Kd.C_get h z52 i h0 h1
 have hc : ∀ j u, c[j]? = some u → w.cell? (ad.add (i.toNat * 2 + j)) = some u := hc0
 obtain ⟨A1, c1, rfl, l1, g1⟩ := k52_open hK
 exact ⟨ad, A1, c1, e, hc 0 _ rfl, by rw [← add_field _ _ 1 (by omega)]; exact hc 1 _ rfl, l1, g1⟩
/-! #### struct type 68 -/
structure RVar where
 name : ByteArray
 n : Int
 last : Int
 taint : Bool
deriving DecidableEq
def z68 : RVar := ⟨(⟨#[]⟩ : ByteArray), (0 : Int), (0 : Int), false⟩
def k68 : Kd RVar := Kd.iso (Kd.pair Kd.string (Kd.pair (Kd.int .i64) (Kd.pair (Kd.int .i64) Kd.bool))) (fun x : RVar => (x.name, x.n, x.last, x.taint))
theorem k68_heap : Kd.Heap k68 := Kd.heap_iso _ (Kd.heap_pair Kd.heap_string (Kd.heap_pair (Kd.heap_int .i64) (Kd.heap_pair (Kd.heap_int .i64) Kd.heap_bool)))
theorem k68_open {w : World} {x : RVar} {cs : List Value} (h : k68.K w x cs) : cs = [.string x.name, .int .i64 x.n, .int .i64 x.last, .bool x.taint] := by
 obtain ⟨_, _, rfl, rfl, ⟨_, _, rfl, rfl, ⟨_, _, rfl, rfl, rfl⟩⟩⟩ := h
 exact rfl
theorem k68_openM {w : World} {base : Nat} {ok : Nat → Prop} {x : RVar} {cs : List Value} (h : k68.M w base ok x cs) : cs = [.string x.name, .int .i64 x.n, .int .i64 x.last, .bool x.taint] := by
 obtain ⟨_, _, rfl, rfl, ⟨_, _, rfl, rfl, ⟨_, _, rfl, rfl, rfl⟩⟩⟩ := h
 exact rfl
theorem k68_mk (w : World) (x : RVar)  : k68.K w x [.string x.name, .int .i64 x.n, .int .i64 x.last, .bool x.taint] := ⟨[.string x.name], [.int .i64 x.n, .int .i64 x.last, .bool x.taint], rfl, rfl, ⟨[.int .i64 x.n], [.int .i64 x.last, .bool x.taint], rfl, rfl, ⟨[.int .i64 x.last], [.bool x.taint], rfl, rfl, rfl⟩⟩⟩
theorem k68_mkM (w : World) (base : Nat) (ok : Nat → Prop) (x : RVar)  : k68.M w base ok x [.string x.name, .int .i64 x.n, .int .i64 x.last, .bool x.taint] := ⟨[.string x.name], [.int .i64 x.n, .int .i64 x.last, .bool x.taint], rfl, rfl, ⟨[.int .i64 x.n], [.int .i64 x.last, .bool x.taint], rfl, rfl, ⟨[.int .i64 x.last], [.bool x.taint], rfl, rfl, rfl⟩⟩⟩
theorem k68_mkF (W : World) (ok : Nat → Prop) (x : RVar) : Kd.FK k68 W ok x [.string x.name, .int .i64 x.n, .int .i64 x.last, .bool x.taint] := fun W2 _ => k68_mk W2 x
def rd_T68 (xs : List RVar) (i : Int) : RVar := xs.getD i.toNat z68
theorem at_T68 {w : World} {A : Option Addr} {n : Nat} {xs : List RVar} (h : Kd.C k68 w A n xs) (i : Int) (h0 : 0 ≤ i) (h1 : i < n) : ∃ ad , A = some ad ∧ w.cell? (ad.add (i.toNat * 4)) = some (.string (rd_T68 xs i).name) ∧ w.cell? ⟨(ad.add (i.toNat * 4)).block, (ad.add (i.toNat * 4)).off + 1, none⟩ = some (.int .i64 (rd_T68 xs i).n) ∧ w.cell? ⟨(ad.add (i.toNat * 4)).block, (ad.add (i.toNat * 4)).off + 2, none⟩ = some (.int .i64 (rd_T68 xs i).last) ∧ w.cell? ⟨(ad.add (i.toNat * 4)).block, (ad.add (i.toNat * 4)).off + 3, none⟩ = some (.bool (rd_T68 xs i).taint) := by
 obtain ⟨ad, c, e, _, hK, hc0⟩ := Kd.C_get h z68 i h0 h1
 have hc : ∀ j u, c[j]? = some u → w.cell? (ad.add (i.toNat * 4 + j)) = some u := hc0
 obtain rfl := k68_open hK
 exact ⟨ad, e, hc 0 _ rfl, by rw [← add_field _ _ 1 (by omega)]; exact hc 1 _ rfl, by rw [← add_field _ _ 2 (by omega)]; exact hc 2 _ rfl, by rw [← add_field _ _ 3 (by omega)]; exact hc 3 _ rfl⟩
def rd_L12 (xs : List (List RVar)) (i : Int) : (List RVar) := xs.getD i.toNat ([] : List RVar)
theorem at_L12 {w : World} {A : Option Addr} {n : Nat} {xs : List (List RVar)} (h : Kd.C (Kd.slice 68 k68) w A n xs) (i : Int) (h0 : 0 ≤ i) (h1 : i < n) : ∃ ad A0 c0, A = some ad ∧ w.cell? (ad.add i.toNat) = some (.slice A0 (rd_L12 xs i).length c0) ∧ (rd_L12 xs i).length ≤ c0 ∧ k68.C w A0 (rd_L12 xs i).length (rd_L12 xs i) := by
 obtain ⟨ad, c, e, _, hK, hc0⟩ := Kd.C_get h ([] : List RVar) i h0 h1
 have hc : ∀ j u, c[j]? = some u → w.cell? (ad.add (i.toNat * 1 + j)) = some u := hc0
 obtain ⟨A0, c0, rfl, l0, g0⟩ := hK
 exact ⟨ad, A0, c0, e, by have hq := hc 0 _ rfl; rwa [Nat.mul_one, Nat.add_zero] at hq, l0, g0⟩
/-! #### struct type 67 -/
structure RVisit where
 place : Int
 vars : (List RVar)
deriving DecidableEq
def z67 : RVisit := ⟨(0 : Int), ([] : List RVar)⟩
def k67 : Kd RVisit := Kd.iso (Kd.pair (Kd.int .i64) (Kd.slice 68 k68)) (fun x : RVisit => (x.place, x.vars))
theorem k67_heap : Kd.Heap k67 := Kd.heap_iso _ (Kd.heap_pair (Kd.heap_int .i64) (Kd.heap_slice 68 k68_heap))
theorem k67_open {w : World} {x : RVisit} {cs : List Value} (h : k67.K w x cs) : ∃ A1 c1, cs = [.int .i64 x.place, .slice A1 x.vars.length c1] ∧ x.vars.length ≤ c1 ∧ k68.C w A1 x.vars.length x.vars := by
 obtain ⟨_, _, rfl, rfl, ⟨A1, c1, rfl, l1, g1⟩⟩ := h
 exact ⟨A1, c1, rfl, l1, g1⟩
theorem k67_openM {w : World} {base : Nat} {ok : Nat → Prop} {x : RVisit} {cs : List Value} (h : k67.M w base ok x cs) : ∃ v1, cs = [.int .i64 x.place, v1] ∧ k68.R 68 w base ok v1 x.vars := by
 obtain ⟨_, _, rfl, rfl, ⟨v1, rfl, g1⟩⟩ := h
 exact ⟨v1, rfl, g1⟩
theorem k67_mk (w : World) (x : RVisit) {A1 : Option Addr} {c1 : Nat} (l1 : x.vars.length ≤ c1) (g1 : k68.C w A1 x.vars.length x.vars) : k67.K w x [.int .i64 x.place, .slice A1 x.vars.length c1] := ⟨[.int .i64 x.place], [.slice A1 x.vars.length c1], rfl, rfl, ⟨A1, c1, rfl, l1, g1⟩⟩
theorem k67_mkM (w : World) (base : Nat) (ok : Nat → Prop) (x : RVisit) {v1 : Value} (g1 : k68.R 68 w base ok v1 x.vars) : k67.M w base ok x [.int .i64 x.place, v1] := ⟨[.int .i64 x.place], [v1], rfl, rfl, ⟨v1, rfl, g1⟩⟩
theorem k67_openF {W : World} {ok : Nat → Prop} {x : RVisit} {cs : List Value} (h : Kd.FK k67 W ok x cs) : ∃ A1 c1, cs = [.int .i64 x.place, .slice A1 x.vars.length c1] ∧ x.vars.length ≤ c1 ∧ Kd.F k68 W ok A1 x.vars.length x.vars := by
 obtain ⟨A1, c1, rfl, l1, _⟩ := k67_open (Kd.FK_now h)
 exact ⟨A1, c1, rfl, l1, (fun W' hW => by obtain ⟨A1_, c1_, he, l1_, g1_⟩ := k67_open (h W' hW); injection (Option.some.inj (show some (Value.slice A1 x.vars.length c1) = some (Value.slice A1_ x.vars.length c1_) from congrArg (fun l => l[1]?) he)) with ha_ _ _; rw [ha_]; exact g1_)⟩
theorem k67_mkF (W : World) (ok : Nat → Prop) (x : RVisit) {A1 : Option Addr} {c1 : Nat} (l1 : x.vars.length ≤ c1) (g1 : Kd.F k68 W ok A1 x.vars.length x.vars) : Kd.FK k67 W ok x [.int .i64 x.place, .slice A1 x.vars.length c1] := fun W2 hW => k67_mk W2 x l1 (g1 W2 hW)
def rd_T67 (xs : List RVisit) (i : Int) : RVisit := xs.getD i.toNat z67
theorem at_T67 {w : World} {A : Option Addr} {n : Nat} {xs : List RVisit} (h : Kd.C k67 w A n xs) (i : Int) (h0 : 0 ≤ i) (h1 : i < n) : ∃ ad A1 c1, A = some ad ∧ w.cell? (ad.add (i.toNat * 2)) = some (.int .i64 (rd_T67 xs i).place) ∧ w.cell? ⟨(ad.add (i.toNat * 2)).block, (ad.add (i.toNat * 2)).off + 1, none⟩ = some (.slice A1 (rd_T67 xs i).vars.length c1) ∧ (rd_T67 xs i).vars.length ≤ c1 ∧ k68.C w A1 (rd_T67 xs i).vars.length (rd_T67 xs i).vars := by
 obtain ⟨ad, c, e, _, hK, hc0⟩ := Kd.C_get h z67 i h0 h1
 have hc : ∀ j u, c[j]? = some u → w.cell? (ad.add (i.toNat * 2 + j)) = some u := hc0
 obtain ⟨A1, c1, rfl, l1, g1⟩ := k67_open hK
 exact ⟨ad, A1, c1, e, hc 0 _ rfl, by rw [← add_field _ _ 1 (by omega)]; exact hc 1 _ rfl, l1, g1⟩
/-! #### struct type 77 -/
structure RState where
 place : Int
 vars : (List RVar)
 ins : (List Int)
 ora : (List Bool)
deriving DecidableEq
def z77 : RState := ⟨(0 : Int), ([] : List RVar), ([] : List Int), ([] : List Bool)⟩
def k77 : Kd RState := Kd.iso (Kd.pair (Kd.int .i64) (Kd.pair (Kd.slice 68 k68) (Kd.pair (Kd.slice 2 (Kd.int .i64)) (Kd.slice 4 Kd.bool)))) (fun x : RState => (x.place, x.vars, x.ins, x.ora))
theorem k77_heap : Kd.Heap k77 := Kd.heap_iso _ (Kd.heap_pair (Kd.heap_int .i64) (Kd.heap_pair (Kd.heap_slice 68 k68_heap) (Kd.heap_pair (Kd.heap_slice 2 (Kd.heap_int .i64)) (Kd.heap_slice 4 Kd.heap_bool))))
theorem k77_open {w : World} {x : RState} {cs : List Value} (h : k77.K w x cs) : ∃ A1 c1 A2 c2 A3 c3, cs = [.int .i64 x.place, .slice A1 x.vars.length c1, .slice A2 x.ins.length c2, .slice A3 x.ora.length c3] ∧ x.vars.length ≤ c1 ∧ k68.C w A1 x.vars.length x.vars ∧ x.ins.length ≤ c2 ∧ (Kd.int .i64).C w A2 x.ins.length x.ins ∧ x.ora.length ≤ c3 ∧ Kd.bool.C w A3 x.ora.length x.ora := by
 obtain ⟨_, _, rfl, rfl, ⟨_, _, rfl, ⟨A1, c1, rfl, l1, g1⟩, ⟨_, _, rfl, ⟨A2, c2, rfl, l2, g2⟩, ⟨A3, c3, rfl, l3, g3⟩⟩⟩⟩ := h
 exact ⟨A1, c1, A2, c2, A3, c3, rfl, l1, g1, l2, g2, l3, g3⟩
theorem k77_openM {w : World} {base : Nat} {ok : Nat → Prop} {x : RState} {cs : List Value} (h : k77.M w base ok x cs) : ∃ v1 v2 v3, cs = [.int .i64 x.place, v1, v2, v3] ∧ k68.R 68 w base ok v1 x.vars ∧ (Kd.int .i64).R 2 w base ok v2 x.ins ∧ Kd.bool.R 4 w base ok v3 x.ora := by
 obtain ⟨_, _, rfl, rfl, ⟨_, _, rfl, ⟨v1, rfl, g1⟩, ⟨_, _, rfl, ⟨v2, rfl, g2⟩, ⟨v3, rfl, g3⟩⟩⟩⟩ := h
 exact ⟨v1, v2, v3, rfl, g1, g2, g3⟩
theorem k77_mk (w : World) (x : RState) {A1 : Option Addr} {c1 : Nat} (l1 : x.vars.length ≤ c1) (g1 : k68.C w A1 x.vars.length x.vars) {A2 : Option Addr} {c2 : Nat} (l2 : x.ins.length ≤ c2) (g2 : (Kd.int .i64).C w A2 x.ins.length x.ins) {A3 : Option Addr} {c3 : Nat} (l3 : x.ora.length ≤ c3) (g3 : Kd.bool.C w A3 x.ora.length x.ora) : k77.K w x [.int .i64 x.place, .slice A1 x.vars.length c1, .slice A2 x.ins.length c2, .slice A3 x.ora.length c3] := ⟨[.int .i64 x.place], [.slice A1 x.vars.length c1, .slice A2 x.ins.length c2, .slice A3 x.ora.length c3], rfl, rfl, ⟨[.slice A1 x.vars.length c1], [.slice A2 x.ins.length c2, .slice A3 x.ora.length c3], rfl, ⟨A1, c1, rfl, l1, g1⟩, ⟨[.slice A2 x.ins.length c2], [.slice A3 x.ora.length c3], rfl, ⟨A2, c2, rfl, l2, g2⟩, ⟨A3, c3, rfl, l3, g3⟩⟩⟩⟩
theorem k77_mkM (w : World) (base : Nat) (ok : Nat → Prop) (x : RState) {v1 : Value} (g1 : k68.R 68 w base ok v1 x.vars) {v2 : Value} (g2 : (Kd.int .i64).R 2 w base ok v2 x.ins) {v3 : Value} (g3 : Kd.bool.R 4 w base ok v3 x.ora) : k77.M w base ok x [.int .i64 x.place, v1, v2, v3] := ⟨[.int .i64 x.place], [v1, v2, v3], rfl, rfl, ⟨[v1], [v2, v3], rfl, ⟨v1, rfl, g1⟩, ⟨[v2], [v3], rfl, ⟨v2, rfl, g2⟩, ⟨v3, rfl, g3⟩⟩⟩⟩
theorem k77_openF {W : World} {ok : Nat → Prop} {x : RState} {cs : List Value} (h : Kd.FK k77 W ok x cs) : ∃ A1 c1 A2 c2 A3 c3, cs = [.int .i64 x.place, .slice A1 x.vars.length c1, .slice A2 x.ins.length c2, .slice A3 x.ora.length c3] ∧ x.vars.length ≤ c1 ∧ Kd.F k68 W ok A1 x.vars.length x.vars ∧ x.ins.length ≤ c2 ∧ Kd.F (Kd.int .i64) W ok A2 x.ins.length x.ins ∧ x.ora.length ≤ c3 ∧ Kd.F Kd.bool W ok A3 x.ora.length x.ora := by
 obtain ⟨A1, c1, A2, c2, A3, c3, rfl, l1, _, l2, _, l3, _⟩ := k77_open (Kd.FK_now h)
 exact ⟨A1, c1, A2, c2, A3, c3, rfl, l1, (fun W' hW => by obtain ⟨A1_, c1_, A2_, c2_, A3_, c3_, he, l1_, g1_, l2_, g2_, l3_, g3_⟩ := k77_open (h W' hW); injection (Option.some.inj (show some (Value.slice A1 x.vars.length c1) = some (Value.slice A1_ x.vars.length c1_) from congrArg (fun l => l[1]?) he)) with ha_ _ _; rw [ha_]; exact g1_), l2, (fun W' hW => by obtain ⟨A1_, c1_, A2_, c2_, A3_, c3_, he, l1_, g1_, l2_, g2_, l3_, g3_⟩ := k77_open (h W' hW); injection (Option.some.inj (show some (Value.slice A2 x.ins.length c2) = some (Value.slice A2_ x.ins.length c2_) from congrArg (fun l => l[2]?) he)) with ha_ _ _; rw [ha_]; exact g2_), l3, (fun W' hW => by obtain ⟨A1_, c1_, A2_, c2_, A3_, c3_, he, l1_, g1_, l2_, g2_, l3_, g3_⟩ := k77_open (h W' hW); injection (Option.some.inj (show some (Value.slice A3 x.ora.length c3) = some (Value.slice A3_ x.ora.length c3_) from congrArg (fun l => l[3]?) he)) with ha_ _ _; rw [ha_]; exact g3_)⟩
theorem k77_mkF (W : World) (ok : Nat → Prop) (x : RState) {A1 : Option Addr} {c1 : Nat} (l1 : x.vars.length ≤ c1) (g1 : Kd.F k68 W ok A1 x.vars.length x.vars) {A2 : Option Addr} {c2 : Nat} (l2 : x.ins.length ≤ c2) (g2 : Kd.F (Kd.int .i64) W ok A2 x.ins.length x.ins) {A3 : Option Addr} {c3 : Nat} (l3 : x.ora.length ≤ c3) (g3 : Kd.F Kd.bool W ok A3 x.ora.length x.ora) : Kd.FK k77 W ok x [.int .i64 x.place, .slice A1 x.vars.length c1, .slice A2 x.ins.length c2, .slice A3 x.ora.length c3] := fun W2 hW => k77_mk W2 x l1 (g1 W2 hW) l2 (g2 W2 hW) l3 (g3 W2 hW)
def rd_T77 (xs : List RState) (i : Int) : RState := xs.getD i.toNat z77
theorem at_T77 {w : World} {A : Option Addr} {n : Nat} {xs : List RState} (h : Kd.C k77 w A n xs) (i : Int) (h0 : 0 ≤ i) (h1 : i < n) : ∃ ad A1 c1 A2 c2 A3 c3, A = some ad ∧ w.cell? (ad.add (i.toNat * 4)) = some (.int .i64 (rd_T77 xs i).place) ∧ w.cell? ⟨(ad.add (i.toNat * 4)).block, (ad.add (i.toNat * 4)).off + 1, none⟩ = some (.slice A1 (rd_T77 xs i).vars.length c1) ∧ w.cell? ⟨(ad.add (i.toNat * 4)).block, (ad.add (i.toNat * 4)).off + 2, none⟩ = some (.slice A2 (rd_T77 xs i).ins.length c2) ∧ w.cell? ⟨(ad.add (i.toNat * 4)).block, (ad.add (i.toNat * 4)).off + 3, none⟩ = some (.slice A3 (rd_T77 xs i).ora.length c3) ∧ (rd_T77 xs i).vars.length ≤ c1 ∧ k68.C w A1 (rd_T77 xs i).vars.length (rd_T77 xs i).vars ∧ (rd_T77 xs i).ins.length ≤ c2 ∧ (Kd.int .i64).C w A2 (rd_T77 xs i).ins.length (rd_T77 xs i).ins ∧ (rd_T77 xs i).ora.length ≤ c3 ∧ Kd.bool.C w A3 (rd_T77 xs i).ora.length (rd_T77 xs i).ora := by
 obtain ⟨ad, c, e, _, hK, hc0⟩ := Kd.C_get h z77 i h0 h1
 have hc : ∀ j u, c[j]? = some u → w.cell? (ad.add (i.toNat * 4 + j)) = some u := hc0
 obtain ⟨A1, c1, A2, c2, A3, c3, rfl, l1, g1, l2, g2, l3, g3⟩ := k77_open hK
 exact ⟨ad, A1, c1, A2, c2, A3, c3, e, hc 0 _ rfl, by rw [← add_field _ _ 1 (by omega)]; exact hc 1 _ rfl, by rw [← add_field _ _ 2 (by omega)]; exact hc 2 _ rfl, by rw [← add_field _ _ 3 (by omega)]; exact hc 3 _ rfl, l1, g1, l2, g2, l3, g3⟩
def rd_L15 (xs : List (List Int)) (i : Int) : (List Int) := xs.getD i.toNat ([] : List Int)
theorem at_L15 {w : World} {A : Option Addr} {n : Nat} {xs : List (List Int)} (h : Kd.C (Kd.slice 3 (Kd.int .i64)) w A n xs) (i : Int) (h0 : 0 ≤ i) (h1 : i < n) : ∃ ad A0 c0, A = some ad ∧ w.cell? (ad.add i.toNat) = some (.slice A0 (rd_L15 xs i).length c0) ∧ (rd_L15 xs i).length ≤ c0 ∧ (Kd.int .i64).C w A0 (rd_L15 xs i).length (rd_L15 xs i) := by
 obtain ⟨ad, c, e, _, hK, hc0⟩ := Kd.C_get h ([] : List Int) i h0 h1
 have hc : ∀ j u, c[j]? = some u → w.cell? (ad.add (i.toNat * 1 + j)) = some u := hc0
 obtain ⟨A0, c0, rfl, l0, g0⟩ := hK
 exact ⟨ad, A0, c0, e, by have hq := hc 0 _ rfl; rwa [Nat.mul_one, Nat.add_zero] at hq, l0, g0⟩
def rd_L16 (xs : List (List ByteArray)) (i : Int) : (List ByteArray) := xs.getD i.toNat ([] : List ByteArray)
theorem at_L16 {w : World} {A : Option Addr} {n : Nat} {xs : List (List ByteArray)} (h : Kd.C (Kd.slice 9 Kd.string) w A n xs) (i : Int) (h0 : 0 ≤ i) (h1 : i < n) : ∃ ad A0 c0, A = some ad ∧ w.cell? (ad.add i.toNat) = some (.slice A0 (rd_L16 xs i).length c0) ∧ (rd_L16 xs i).length ≤ c0 ∧ Kd.string.C w A0 (rd_L16 xs i).length (rd_L16 xs i) := by
 obtain ⟨ad, c, e, _, hK, hc0⟩ := Kd.C_get h ([] : List ByteArray) i h0 h1
 have hc : ∀ j u, c[j]? = some u → w.cell? (ad.add (i.toNat * 1 + j)) = some u := hc0
 obtain ⟨A0, c0, rfl, l0, g0⟩ := hK
 exact ⟨ad, A0, c0, e, by have hq := hc 0 _ rfl; rwa [Nat.mul_one, Nat.add_zero] at hq, l0, g0⟩
def rd_L17 (xs : List (List Visit)) (i : Int) : (List Visit) := xs.getD i.toNat ([] : List Visit)
theorem at_L17 {w : World} {A : Option Addr} {n : Nat} {xs : List (List Visit)} (h : Kd.C (Kd.slice 52 k52) w A n xs) (i : Int) (h0 : 0 ≤ i) (h1 : i < n) : ∃ ad A0 c0, A = some ad ∧ w.cell? (ad.add i.toNat) = some (.slice A0 (rd_L17 xs i).length c0) ∧ (rd_L17 xs i).length ≤ c0 ∧ k52.C w A0 (rd_L17 xs i).length (rd_L17 xs i) := by
 obtain ⟨ad, c, e, _, hK, hc0⟩ := Kd.C_get h ([] : List Visit) i h0 h1
 have hc : ∀ j u, c[j]? = some u → w.cell? (ad.add (i.toNat * 1 + j)) = some u := hc0
 obtain ⟨A0, c0, rfl, l0, g0⟩ := hK
 exact ⟨ad, A0, c0, e, by have hq := hc 0 _ rfl; rwa [Nat.mul_one, Nat.add_zero] at hq, l0, g0⟩
def rd_L18 (xs : List (List RVisit)) (i : Int) : (List RVisit) := xs.getD i.toNat ([] : List RVisit)
theorem at_L18 {w : World} {A : Option Addr} {n : Nat} {xs : List (List RVisit)} (h : Kd.C (Kd.slice 67 k67) w A n xs) (i : Int) (h0 : 0 ≤ i) (h1 : i < n) : ∃ ad A0 c0, A = some ad ∧ w.cell? (ad.add i.toNat) = some (.slice A0 (rd_L18 xs i).length c0) ∧ (rd_L18 xs i).length ≤ c0 ∧ k67.C w A0 (rd_L18 xs i).length (rd_L18 xs i) := by
 obtain ⟨ad, c, e, _, hK, hc0⟩ := Kd.C_get h ([] : List RVisit) i h0 h1
 have hc : ∀ j u, c[j]? = some u → w.cell? (ad.add (i.toNat * 1 + j)) = some u := hc0
 obtain ⟨A0, c0, rfl, l0, g0⟩ := hK
 exact ⟨ad, A0, c0, e, by have hq := hc 0 _ rfl; rwa [Nat.mul_one, Nat.add_zero] at hq, l0, g0⟩
def rd_L19 (xs : List (List (List Bool))) (i : Int) : (List (List Bool)) := xs.getD i.toNat ([] : List (List Bool))
theorem at_L19 {w : World} {A : Option Addr} {n : Nat} {xs : List (List (List Bool))} (h : Kd.C (Kd.slice 41 (Kd.slice 4 Kd.bool)) w A n xs) (i : Int) (h0 : 0 ≤ i) (h1 : i < n) : ∃ ad A0 c0, A = some ad ∧ w.cell? (ad.add i.toNat) = some (.slice A0 (rd_L19 xs i).length c0) ∧ (rd_L19 xs i).length ≤ c0 ∧ (Kd.slice 4 Kd.bool).C w A0 (rd_L19 xs i).length (rd_L19 xs i) := by
 obtain ⟨ad, c, e, _, hK, hc0⟩ := Kd.C_get h ([] : List (List Bool)) i h0 h1
 have hc : ∀ j u, c[j]? = some u → w.cell? (ad.add (i.toNat * 1 + j)) = some u := hc0
 obtain ⟨A0, c0, rfl, l0, g0⟩ := hK
 exact ⟨ad, A0, c0, e, by have hq := hc 0 _ rfl; rwa [Nat.mul_one, Nat.add_zero] at hq, l0, g0⟩
/-- a function value: what it answers -/
abbrev OnFn := Int → Option Bool
def OnCall.f (on : OnFn) (n : Int) : Option Bool := on n
theorem blt_ {w : World} {a : Addr} {v : Value} (h : w.cell? a = some v) : a.block < w.heap.size := World.block_lt_of_cell? w a h
end Go.Proofs.Ytnepgcbgkhikkaa.H
namespace Go.Proofs.Ytnepgcbgkhikkaa.H
/-- The structs are printed in YtnepgcbgkhikkaaQ0. -/
theorem types_lie : True := trivial
end Go.Proofs.Ytnepgcbgkhikkaa.H
namespace Go.Proofs.Ytnepgcbgkhikkaa.H
open Go.RowKit Go.Proofs.YtnepgcbgkhikkaaW.PrintWords
set_option linter.unusedVariables false
theorem Kd.C_nth {α : Type} {d : Kd α} {w : World} {A : Option Addr} {n : Nat} {xs : List α} (h : Kd.C d w A n xs) {i : Nat} {y : α} (hy : xs[i]? = some y) :
    ∃ ad c, A = some ad ∧ c.length = d.sz ∧ d.K w y c ∧ ∀ j u, c[j]? = some u → w.cell? (ad.add (i * d.sz + j)) = some u := by
  obtain ⟨h1, h2, h3⟩ := h
  have hi : i < xs.length := (List.getElem?_eq_some_iff.1 hy).1
  obtain ⟨ad, e, hc⟩ := h3 (by omega)
  obtain ⟨c, hs, hr, hcell⟩ := hc i y hy
  exact ⟨ad, c, e, hs, hr, hcell⟩
theorem at_Stmt {w : World} {A : Option Addr} {n : Nat} {xs : List Stmt} (h : Kd.C k30 w A n xs) {i : Nat} {y : Stmt} (hy : xs[i]? = some y) : ∃ ad , A = some ad ∧ w.cell? (ad.add (i * 8)) = some (.int .i64 y.kind) ∧ w.cell? ⟨(ad.add (i * 8)).block, (ad.add (i * 8)).off + 1, none⟩ = some (.string y.x) ∧ w.cell? ⟨(ad.add (i * 8)).block, (ad.add (i * 8)).off + 2, none⟩ = some (.string y.y) ∧ w.cell? ⟨(ad.add (i * 8)).block, (ad.add (i * 8)).off + 3, none⟩ = some (.string y.z) ∧ w.cell? ⟨(ad.add (i * 8)).block, (ad.add (i * 8)).off + 4, none⟩ = some (.string y.op) ∧ w.cell? ⟨(ad.add (i * 8)).block, (ad.add (i * 8)).off + 5, none⟩ = some (.int .i64 y.n) ∧ w.cell? ⟨(ad.add (i * 8)).block, (ad.add (i * 8)).off + 6, none⟩ = some (.int .i64 y.a) ∧ w.cell? ⟨(ad.add (i * 8)).block, (ad.add (i * 8)).off + 7, none⟩ = some (.int .i64 y.b) := by
  obtain ⟨ad, c, e, _, hK, hc⟩ := Kd.C_nth h hy
  rw [show k30.sz = 8 from rfl] at hc
  obtain rfl := k30_open hK
  exact ⟨ad, e, by have hq := hc 0 _ rfl; rwa [Nat.add_zero] at hq, by rw [← add_field _ _ 1 (by omega)]; exact hc 1 _ rfl, by rw [← add_field _ _ 2 (by omega)]; exact hc 2 _ rfl, by rw [← add_field _ _ 3 (by omega)]; exact hc 3 _ rfl, by rw [← add_field _ _ 4 (by omega)]; exact hc 4 _ rfl, by rw [← add_field _ _ 5 (by omega)]; exact hc 5 _ rfl, by rw [← add_field _ _ 6 (by omega)]; exact hc 6 _ rfl, by rw [← add_field _ _ 7 (by omega)]; exact hc 7 _ rfl⟩
theorem at_Var {w : World} {A : Option Addr} {n : Nat} {xs : List Var} (h : Kd.C k54 w A n xs) {i : Nat} {y : Var} (hy : xs[i]? = some y) : ∃ ad , A = some ad ∧ w.cell? (ad.add (i * 4)) = some (.string y.name) ∧ w.cell? ⟨(ad.add (i * 4)).block, (ad.add (i * 4)).off + 1, none⟩ = some (.int .i64 y.n) ∧ w.cell? ⟨(ad.add (i * 4)).block, (ad.add (i * 4)).off + 2, none⟩ = some (.int .i64 y.last) ∧ w.cell? ⟨(ad.add (i * 4)).block, (ad.add (i * 4)).off + 3, none⟩ = some (.bool y.taint) := by
  obtain ⟨ad, c, e, _, hK, hc⟩ := Kd.C_nth h hy
  rw [show k54.sz = 4 from rfl] at hc
  obtain rfl := k54_open hK
  exact ⟨ad, e, by have hq := hc 0 _ rfl; rwa [Nat.add_zero] at hq, by rw [← add_field _ _ 1 (by omega)]; exact hc 1 _ rfl, by rw [← add_field _ _ 2 (by omega)]; exact hc 2 _ rfl, by rw [← add_field _ _ 3 (by omega)]; exact hc 3 _ rfl⟩
theorem at_Visit {w : World} {A : Option Addr} {n : Nat} {xs : List Visit} (h : Kd.C k52 w A n xs) {i : Nat} {y : Visit} (hy : xs[i]? = some y) : ∃ ad A1 c1, A = some ad ∧ w.cell? (ad.add (i * 2)) = some (.int .i64 y.place) ∧ w.cell? ⟨(ad.add (i * 2)).block, (ad.add (i * 2)).off + 1, none⟩ = some (.slice A1 y.vars.length c1) ∧ y.vars.length ≤ c1 ∧ k54.C w A1 y.vars.length y.vars := by
  obtain ⟨ad, c, e, _, hK, hc⟩ := Kd.C_nth h hy
  rw [show k52.sz = 2 from rfl] at hc
  obtain ⟨A1, c1, rfl, l1, g1⟩ := k52_open hK
  exact ⟨ad, A1, c1, e, by have hq := hc 0 _ rfl; rwa [Nat.add_zero] at hq, by rw [← add_field _ _ 1 (by omega)]; exact hc 1 _ rfl, l1, g1⟩
theorem at_Script {w : World} {A : Option Addr} {n : Nat} {xs : List Script} (h : Kd.C k43 w A n xs) {i : Nat} {y : Script} (hy : xs[i]? = some y) : ∃ ad A0 c0 A1 c1 A2 c2, A = some ad ∧ w.cell? (ad.add (i * 4)) = some (.slice A0 y.l.length c0) ∧ w.cell? ⟨(ad.add (i * 4)).block, (ad.add (i * 4)).off + 1, none⟩ = some (.slice A1 y.ins.length c1) ∧ w.cell? ⟨(ad.add (i * 4)).block, (ad.add (i * 4)).off + 2, none⟩ = some (.slice A2 y.ora.length c2) ∧ w.cell? ⟨(ad.add (i * 4)).block, (ad.add (i * 4)).off + 3, none⟩ = some (.int .i64 y.most) ∧ y.l.length ≤ c0 ∧ k30.C w A0 y.l.length y.l ∧ y.ins.length ≤ c1 ∧ (Kd.int .i64).C w A1 y.ins.length y.ins ∧ y.ora.length ≤ c2 ∧ Kd.bool.C w A2 y.ora.length y.ora := by
  obtain ⟨ad, c, e, _, hK, hc⟩ := Kd.C_nth h hy
  rw [show k43.sz = 4 from rfl] at hc
  obtain ⟨A0, c0, A1, c1, A2, c2, rfl, l0, g0, l1, g1, l2, g2⟩ := k43_open hK
  exact ⟨ad, A0, c0, A1, c1, A2, c2, e, by have hq := hc 0 _ rfl; rwa [Nat.add_zero] at hq, by rw [← add_field _ _ 1 (by omega)]; exact hc 1 _ rfl, by rw [← add_field _ _ 2 (by omega)]; exact hc 2 _ rfl, by rw [← add_field _ _ 3 (by omega)]; exact hc 3 _ rfl, l0, g0, l1, g1, l2, g2⟩
theorem at_RVar {w : World} {A : Option Addr} {n : Nat} {xs : List RVar} (h : Kd.C k68 w A n xs) {i : Nat} {y : RVar} (hy : xs[i]? = some y) : ∃ ad , A = some ad ∧ w.cell? (ad.add (i * 4)) = some (.string y.name) ∧ w.cell? ⟨(ad.add (i * 4)).block, (ad.add (i * 4)).off + 1, none⟩ = some (.int .i64 y.n) ∧ w.cell? ⟨(ad.add (i * 4)).block, (ad.add (i * 4)).off + 2, none⟩ = some (.int .i64 y.last) ∧ w.cell? ⟨(ad.add (i * 4)).block, (ad.add (i * 4)).off + 3, none⟩ = some (.bool y.taint) := by
  obtain ⟨ad, c, e, _, hK, hc⟩ := Kd.C_nth h hy
  rw [show k68.sz = 4 from rfl] at hc
  obtain rfl := k68_open hK
  exact ⟨ad, e, by have hq := hc 0 _ rfl; rwa [Nat.add_zero] at hq, by rw [← add_field _ _ 1 (by omega)]; exact hc 1 _ rfl, by rw [← add_field _ _ 2 (by omega)]; exact hc 2 _ rfl, by rw [← add_field _ _ 3 (by omega)]; exact hc 3 _ rfl⟩
theorem at_RVisit {w : World} {A : Option Addr} {n : Nat} {xs : List RVisit} (h : Kd.C k67 w A n xs) {i : Nat} {y : RVisit} (hy : xs[i]? = some y) : ∃ ad A1 c1, A = some ad ∧ w.cell? (ad.add (i * 2)) = some (.int .i64 y.place) ∧ w.cell? ⟨(ad.add (i * 2)).block, (ad.add (i * 2)).off + 1, none⟩ = some (.slice A1 y.vars.length c1) ∧ y.vars.length ≤ c1 ∧ k68.C w A1 y.vars.length y.vars := by
  obtain ⟨ad, c, e, _, hK, hc⟩ := Kd.C_nth h hy
  rw [show k67.sz = 2 from rfl] at hc
  obtain ⟨A1, c1, rfl, l1, g1⟩ := k67_open hK
  exact ⟨ad, A1, c1, e, by have hq := hc 0 _ rfl; rwa [Nat.add_zero] at hq, by rw [← add_field _ _ 1 (by omega)]; exact hc 1 _ rfl, l1, g1⟩
theorem at_RState {w : World} {A : Option Addr} {n : Nat} {xs : List RState} (h : Kd.C k77 w A n xs) {i : Nat} {y : RState} (hy : xs[i]? = some y) : ∃ ad A1 c1 A2 c2 A3 c3, A = some ad ∧ w.cell? (ad.add (i * 4)) = some (.int .i64 y.place) ∧ w.cell? ⟨(ad.add (i * 4)).block, (ad.add (i * 4)).off + 1, none⟩ = some (.slice A1 y.vars.length c1) ∧ w.cell? ⟨(ad.add (i * 4)).block, (ad.add (i * 4)).off + 2, none⟩ = some (.slice A2 y.ins.length c2) ∧ w.cell? ⟨(ad.add (i * 4)).block, (ad.add (i * 4)).off + 3, none⟩ = some (.slice A3 y.ora.length c3) ∧ y.vars.length ≤ c1 ∧ k68.C w A1 y.vars.length y.vars ∧ y.ins.length ≤ c2 ∧ (Kd.int .i64).C w A2 y.ins.length y.ins ∧ y.ora.length ≤ c3 ∧ Kd.bool.C w A3 y.ora.length y.ora := by
  obtain ⟨ad, c, e, _, hK, hc⟩ := Kd.C_nth h hy
  rw [show k77.sz = 4 from rfl] at hc
  obtain ⟨A1, c1, A2, c2, A3, c3, rfl, l1, g1, l2, g2, l3, g3⟩ := k77_open hK
  exact ⟨ad, A1, c1, A2, c2, A3, c3, e, by have hq := hc 0 _ rfl; rwa [Nat.add_zero] at hq, by rw [← add_field _ _ 1 (by omega)]; exact hc 1 _ rfl, by rw [← add_field _ _ 2 (by omega)]; exact hc 2 _ rfl, by rw [← add_field _ _ 3 (by omega)]; exact hc 3 _ rfl, l1, g1, l2, g2, l3, g3⟩
end Go.Proofs.Ytnepgcbgkhikkaa.H
namespace Go.Proofs.Ytnepgcbgkhikkaa.H
/-- is a name one of some -/
def mem (s : ByteArray) (l : List ByteArray) : Bool := l.any fun x => decide (s = x)
theorem mem_iff {s : ByteArray} {l : List ByteArray} : mem s l = true ↔ s ∈ l := by simp [mem]
end Go.Proofs.Ytnepgcbgkhikkaa.H
namespace Go.Proofs.Ytnepgcbgkhikkaa.H
open Go.RowKit Go.Proofs.YtnepgcbgkhikkaaW.PrintWords Go.Proofs.YtnepgcbgkhikkaaW.PrintLast Go.Proofs.YtnepgcbgkhikkaaW.PrintMore
set_option linter.unusedVariables false
/-- a predicate that is handed to the library, at one cell -/
def PredK (P : Program) (g : Nat) (lb : Array Value) {α : Type} (enc : α → Value) (p : α → Bool) (w : World) (l : List α) : Prop :=
  ∀ (W : World) (x : α), x ∈ l → Below w.heap.size w W → Calls P g (#[enc x] ++ lb) W fun e w' => e = .returned (.bool (p x)) ∧ Below W.heap.size W w'
/-- the same at a struct -/
def PredA (P : Program) (g : Nat) (lb : Array Value) {α : Type} (d : Kd α) (p : α → Bool) (w : World) (l : List α) : Prop :=
  ∀ (W : World) (x : α) (cs : List Value), x ∈ l → Below w.heap.size w W → d.K W x cs → Calls P g (#[.agg cs.toArray] ++ lb) W fun e w' => e = .returned (.bool (p x)) ∧ Below W.heap.size W w'
/-- the first place from i on at which p holds; -1 -/
def idxP {α : Type} (p : α → Bool) : List α → Nat → Int
  | [], _ => -1
  | x :: l, i => if p x = true then (i : Int) else idxP p l (i + 1)
theorem drop_cons {α : Type} {l : List α} {k : Nat} {y : α} (hy : l[k]? = some y) : l.drop k = y :: l.drop (k + 1) := by
  obtain ⟨h, rfl⟩ := List.getElem?_eq_some_iff.1 hy
  exact List.drop_eq_getElem_cons h
theorem drop_all {α : Type} (l : List α) : l.drop l.length = [] := List.drop_length
theorem at_some {α : Type} {l : List α} {k : Nat} (h : k < l.length) : ∃ y, l[k]? = some y := ⟨l[k], List.getElem?_eq_getElem h⟩
theorem idxP_any {α : Type} (p : α → Bool) : ∀ (l : List α) (i : Nat), decide (0 ≤ idxP p l i) = l.any p
  | [], i => by simp [idxP]
  | x :: l, i => by
    unfold idxP
    by_cases h : p x = true
    · rw [if_pos h]; simp [h]
    · rw [if_neg h, idxP_any p l (i + 1)]; simp [h]
theorem ba_eq {a b : ByteArray} : (a.toList = b.toList) ↔ a = b := by
  constructor
  · intro h
    have h1 : a.data.toList = b.data.toList := by
      have := h
      rwa [ByteArray.toList_eq, ByteArray.toList_eq] at this
    cases a; cases b; simp at h1; subst h1; rfl
  · rintro rfl; rfl
theorem ba_beq {a b : ByteArray} (h : a = b) : (a.toList == b.toList) = true ∧ (a.toList != b.toList) = false := by subst h; simp
theorem ba_bne {a b : ByteArray} (h : ¬ a = b) : (a.toList == b.toList) = false ∧ (a.toList != b.toList) = true :=
  ⟨beq_eq_false_iff_ne.2 (fun e => h (ba_eq.1 e)), bne_iff_ne.2 (fun e => h (ba_eq.1 e))⟩
section
variable {w : World} {A : Option Addr} {n i : Nat}
theorem at_int {k : IntKind} {xs : List Int} {y : Int} (h : (Kd.int k).C w A n xs) (hy : xs[i]? = some y) : ∃ ad, A = some ad ∧ w.cell? (ad.add i) = some (.int k y) := by
  obtain ⟨ad, c, e, _, hK, hc⟩ := Kd.C_nth h hy
  obtain rfl : c = [.int k y] := hK
  have hq := hc 0 _ rfl
  exact ⟨ad, e, by rwa [show i * (Kd.int k).sz + 0 = i from Nat.mul_one i] at hq⟩
theorem at_bool {xs : List Bool} {y : Bool} (h : Kd.bool.C w A n xs) (hy : xs[i]? = some y) : ∃ ad, A = some ad ∧ w.cell? (ad.add i) = some (.bool y) := by
  obtain ⟨ad, c, e, _, hK, hc⟩ := Kd.C_nth h hy
  obtain rfl : c = [.bool y] := hK
  have hq := hc 0 _ rfl
  exact ⟨ad, e, by rwa [show i * Kd.bool.sz + 0 = i from Nat.mul_one i] at hq⟩
theorem at_str {xs : List ByteArray} {y : ByteArray} (h : Kd.string.C w A n xs) (hy : xs[i]? = some y) : ∃ ad, A = some ad ∧ w.cell? (ad.add i) = some (.string y) := by
  obtain ⟨ad, c, e, _, hK, hc⟩ := Kd.C_nth h hy
  obtain rfl : c = [.string y] := hK
  have hq := hc 0 _ rfl
  exact ⟨ad, e, by rwa [show i * Kd.string.sz + 0 = i from Nat.mul_one i] at hq⟩
theorem at_row {α : Type} {d : Kd α} {t : Nat} {xs : List (List α)} {y : List α} (h : (Kd.slice t d).C w A n xs) (hy : xs[i]? = some y) : ∃ ad A1 c1, A = some ad ∧ w.cell? (ad.add i) = some (.slice A1 y.length c1) ∧ y.length ≤ c1 ∧ d.C w A1 y.length y := by
  obtain ⟨ad, c, e, _, hK, hc⟩ := Kd.C_nth h hy
  obtain ⟨A1, c1, rfl, hl, hr⟩ := hK
  have hq := hc 0 _ rfl
  exact ⟨ad, A1, c1, e, by rwa [show i * (Kd.slice t d).sz + 0 = i from Nat.mul_one i] at hq, hl, hr⟩
end
/-- an old cell, in a world that comes behind -/
theorem Below.old {w W : World} {a : Addr} {v : Value} (hb : Below w.heap.size w W) (h : w.cell? a = some v) : W.cell? a = some v := (hb.cell (World.block_lt_of_cell? w _ h)).trans h
theorem Below.then {w W X : World} (h : Below w.heap.size w W) (k : Below W.heap.size W X) : Below w.heap.size w X := below_then h h.size k
theorem ret_int {k : IntKind} {a b : Int} (h : a = b) : Ending.returned (.int k a) = .returned (.int k b) := by rw [h]
theorem ret_bool {a b : Bool} (h : a = b) : Ending.returned (.bool a) = .returned (.bool b) := by rw [h]
end Go.Proofs.Ytnepgcbgkhikkaa.H
namespace Go.Proofs.Ytnepgcbgkhikkaa.H
open Go.RowKit Go.Proofs.YtnepgcbgkhikkaaW.PrintWords Go.Proofs.YtnepgcbgkhikkaaW.PrintLast Go.Proofs.YtnepgcbgkhikkaaW.PrintMore
set_option linter.unusedVariables false
theorem grown_set (w : World) (g j : Nat) (v : Value) : w.grownBy (w.setCell ⟨g, j, none⟩ v) (some g) :=
  ⟨rfl, rfl, rfl, by simp [World.setCell], fun k hk hne => Below.heap_setCell w ⟨g, j, none⟩ v k (fun e => hne (by rw [e]))⟩
theorem grown_trans {w w1 w2 : World} {r : Option Nat} (h : w.grownBy w1 r) (k : w1.grownBy w2 r) : w.grownBy w2 r :=
  ⟨k.os.trans h.os, k.tape.trans h.tape, k.output.trans h.output, Nat.le_trans h.size k.size, fun j hj hne => (k.block j (Nat.lt_of_lt_of_le hj h.size) hne).trans (h.block j hj hne)⟩
theorem setCells_rowH {g : Nat} {e : TypeId} : ∀ (vs : List Value) (o : Nat) (w : World) (cur : Array Value), w.heap[g]? = some (.cells cur e (0, 0)) →
    ∃ cur', (w.setCells g o vs).heap[g]? = some (.cells cur' e (0, 0)) ∧ cur'.size = cur.size ∧ (∀ j, j < o → cur'[j]? = cur[j]?) ∧ w.grownBy (w.setCells g o vs) (some g)
  | [], o, w, cur, h => ⟨cur, h, rfl, fun _ _ => rfl, World.grownBy.refl w _⟩
  | v :: r, o, w, cur, h => by
    have h1 := blk_set h o v
    obtain ⟨cur', h2, h3, h4, h5⟩ := setCells_rowH r (o + 1) _ _ h1
    refine ⟨cur', h2, by rw [h3]; simp, fun j hj => ?_, ?_⟩
    · rw [h4 j (by omega)]; simp [show ¬ o = j by omega]
    · exact grown_trans (grown_set w g o v) h5
theorem run_clear_row {P : Program} (w : World) (t e ty : TypeId) (z : Value) (ht : P.underlying t = some (.slice e)) (hv : ∀ w, (zeroValue e).run P w = .ok z w) (h1 : ∀ v ∈ z.cells, v.oneCell' = true) (g o n c : Nat) (cur : Array Value)
    (hh : w.heap[g]? = some (.cells cur e (0, 0))) (hn : o + n * z.cells.size ≤ cur.size) :
    ∃ vs, (Builtin.clear_ #[t] ty #[.slice (some ⟨g, o, none⟩) n c]).run P w = .ok (.tuple #[]) (w.setCells g o vs) := by
  cases n with
  | zero => exact ⟨[], by simp [Builtin.clear_, run_underlying ht]; rfl⟩
  | succ m =>
    have hst := run_storeCells_cells (P := P) g o (Builtin.zeroCells z.cells (m + 1)).toList 0 w
      (by intro j hj
          have hj' : j < (m + 1) * z.cells.size := by simpa [Builtin.zeroCells] using hj
          rw [Nat.add_zero, blk_cell hh, Array.getElem?_eq_getElem (by omega)]; rfl)
      (fun j _ => blk_frozen hh _)
      (by intro v hv'
          simp only [Builtin.zeroCells, Array.toList_map, List.mem_map] at hv'
          obtain ⟨i, hi, rfl⟩ := hv'
          have hi' : i < (m + 1) * z.cells.size := by simpa using hi
          have hz : 0 < z.cells.size := by
            rcases Nat.eq_zero_or_pos z.cells.size with h0 | h0
            · rw [h0] at hi'; omega
            · exact h0
          rw [getElem!_pos z.cells _ (Nat.mod_lt _ hz)]
          exact h1 _ (Array.getElem_mem _))
    simp only [Nat.add_zero] at hst
    exact ⟨(Builtin.zeroCells z.cells (m + 1)).toList, by simp [Builtin.clear_, run_underlying ht, hv, hst]⟩
/-- a row whose tail was written, cut before that tail -/
theorem R_cut {α : Type} {d : Kd α} {e : Nat} {w w1 : World} {base : Nat} {ok : Nat → Prop} {g n cap i : Nat} {xs : List α} (h : d.R e w base ok (.slice (some ⟨g, 0, none⟩) n cap) xs) (hi : i ≤ xs.length) (hg : w.grownBy w1 (some g)) {cur cur' : Array Value}
    (h0 : w.heap[g]? = some (.cells cur e (0, 0))) (h1 : w1.heap[g]? = some (.cells cur' e (0, 0))) (hs : cur'.size = cur.size) (hp : ∀ j, j < i * d.sz → cur'[j]? = cur[j]?) :
    d.R e w1 base ok (.slice (some ⟨g, 0, none⟩) i cap) (xs.take i) := by
  obtain ⟨hok, inner, ⟨hlen, ho⟩, hr⟩ := h
  rcases ho with ⟨he, _⟩ | ⟨g', cap', cur0, he, hb, hh, hnc, hcm, hcs, htk⟩
  · cases he
  · cases he
    have hcc : cur0 = cur := by rw [h0] at hh; injection hh with hh; injection hh with hh; exact hh.symm
    subst hcc
    have hle : i * d.sz ≤ xs.length * d.sz := Nat.mul_le_mul_right _ hi
    have hlt : (xs.take i).length = i := by rw [List.length_take]; omega
    have hll : inner.length = xs.length * d.sz := hlen
    refine ⟨hok, inner.take (i * d.sz), ⟨?_, .inr ⟨g, cap, cur', by rw [hlt], hb, h1, by omega, hcm, by rw [hs, hcs], ?_⟩⟩, ?_, ?_⟩
    · rw [List.length_take, hlt]; omega
    · rw [hlt, ← htk, List.take_take, Nat.min_eq_left hle]
      apply List.ext_getElem?
      intro j
      rw [List.getElem?_take, List.getElem?_take]
      split
      · have := hp j (by assumption)
        simpa using this
      · rfl
    · rw [List.length_take, hlt]; omega
    · intro j p hj
      rw [List.getElem?_take] at hj
      split at hj
      · rename_i hji
        have h3 := hr.2 j p hj
        have hjs : j * d.sz + d.sz ≤ i * d.sz := by rw [← Nat.succ_mul]; exact Nat.mul_le_mul_right _ hji
        have e1 : ((inner.take (i * d.sz)).drop (j * d.sz)).take d.sz = (inner.drop (j * d.sz)).take d.sz := by
          rw [List.drop_take, List.take_take, Nat.min_eq_left (by omega)]
        rw [e1]
        refine Kd.M_grown h3 hg (fun k hk => ?_)
        simpa [Value.ownBlock] using hk.2
      · cases hj
theorem R_blk {α : Type} {d : Kd α} {e : Nat} {w : World} {base : Nat} {ok : Nat → Prop} {g n cap : Nat} {xs : List α} (h : d.R e w base ok (.slice (some ⟨g, 0, none⟩) n cap) xs) : ∃ cells, w.heap[g]? = some (.cells cells e (0, 0)) := by
  obtain ⟨_, inner, ⟨_, ho⟩, _⟩ := h
  rcases ho with ⟨he, _⟩ | ⟨g', cap', cur0, he, hb, hh, _⟩
  · cases he
  · cases he; exact ⟨_, hh⟩
theorem R_size {α : Type} {d : Kd α} {e : Nat} {w : World} {base : Nat} {ok : Nat → Prop} {g n cap : Nat} {xs : List α} (h : d.R e w base ok (.slice (some ⟨g, 0, none⟩) n cap) xs) {cells : Array Value} (hc : w.heap[g]? = some (.cells cells e (0, 0))) : cells.size = cap * d.sz ∧ n ≤ cap := by
  obtain ⟨_, inner, ⟨_, ho⟩, _⟩ := h
  rcases ho with ⟨he, _⟩ | ⟨g', cap', cur0, he, hb, hh, h1, h2, h3, _⟩
  · cases he
  · cases he
    rw [hh] at hc; injection hc with hc; injection hc with hc; subst hc
    exact ⟨h3, h1⟩
theorem R_put1 {α : Type} {enc : α → Value} {h1 : ∀ x, (enc x).oneCell' = true} {e : Nat} {w : World} {base : Nat} {ok : Nat → Prop} {g n cap : Nat} {xs : List α} (h : (Kd.scalar enc h1).R e w base ok (.slice (some ⟨g, 0, none⟩) n cap) xs) (i : Nat) (x : α) :
    (Kd.scalar enc h1).R e (w.setCell ⟨g, i, none⟩ (enc x)) base ok (.slice (some ⟨g, 0, none⟩) n cap) (xs.set i x) ∧ w.grownBy (w.setCell ⟨g, i, none⟩ (enc x)) (some g) := by
  obtain ⟨rfl, _, _⟩ := Kd.R_reads' h
  have := Kd.R_put h (i : Int) x
  simpa using this
/-- a row that was made by a literal, read -/
theorem C_cells {α : Type} {d : Kd α} {w : World} {g e : Nat} {cs : Array Value} {xs : List α} (h : w.heap[g]? = some (.cells cs e (0, 0))) (hr : Reps (d.K w) d.sz xs cs.toList) (hl : xs.length ≤ 9223372036854775807) :
    d.C w (some ⟨g, 0, none⟩) xs.length xs := by
  refine ⟨rfl, hl, fun _ => ⟨⟨g, 0, none⟩, rfl, fun j p hj => ?_⟩⟩
  refine ⟨(cs.toList.drop (j * d.sz)).take d.sz, ?_, hr.2 j p hj, fun i u hu => ?_⟩
  · have hjl := (List.getElem?_eq_some_iff.1 hj).1
    have : j * d.sz + d.sz ≤ xs.length * d.sz := by rw [← Nat.succ_mul]; exact Nat.mul_le_mul_right _ hjl
    rw [List.length_take, List.length_drop, hr.1]; omega
  · rw [List.getElem?_take] at hu
    split at hu
    · rw [add_plain, blk_cell h]
      rw [List.getElem?_drop] at hu
      simpa using hu
    · cases hu
/-- a predicate that is handed to what rewrites the row as it goes -/
def PredG (P : Program) (g : Nat) (lb : Array Value) {α : Type} (enc : α → Value) (p : α → Bool) (w : World) (row : Option Nat) (l : List α) : Prop :=
  ∀ (W : World) (x : α), x ∈ l → w.grownBy W row → Calls P g (#[enc x] ++ lb) W fun e w' => e = .returned (.bool (p x)) ∧ Below W.heap.size W w'
theorem grown_below {w w1 : World} (h : Below w.heap.size w w1) (row : Option Nat) : w.grownBy w1 row := grown_of_below h row
theorem PredG.k {P : Program} {g : Nat} {lb : Array Value} {α : Type} {enc : α → Value} {p : α → Bool} {w : World} {row : Option Nat} {l : List α} (h : PredG P g lb enc p w row l) : PredK P g lb enc p w l :=
  fun W x hm hb => h W x hm (grown_of_below hb row)
structure KeptIv {α : Type} (q : α → Bool) (l : List α) (j i : Nat) (dk : List α) : Prop where
  len : dk.length = l.length
  lt : i < j
  le : j ≤ l.length
  low : dk.take i = (l.take j).filter q
  high : dk.drop j = l.drop j
theorem KeptIv.skip {α : Type} {q : α → Bool} {l dk : List α} {j i : Nat} {y : α} (h : KeptIv q l j i dk) (hy : l[j]? = some y) (hq : q y = false) : KeptIv q l (j + 1) i dk := by
  have hj : j < l.length := (List.getElem?_eq_some_iff.1 hy).1
  refine ⟨h.len, by have := h.lt; omega, by omega, ?_, ?_⟩
  · rw [List.take_add_one, hy, List.filter_append, h.low]; simp [hq]
  · have := congrArg (List.drop 1) h.high; simpa [List.drop_drop, Nat.add_comm] using this
theorem KeptIv.keep {α : Type} {q : α → Bool} {l dk : List α} {j i : Nat} {y : α} (h : KeptIv q l j i dk) (hy : l[j]? = some y) (hq : q y = true) : KeptIv q l (j + 1) (i + 1) (dk.set i y) := by
  have hj : j < l.length := (List.getElem?_eq_some_iff.1 hy).1
  have hlt := h.lt
  have hlen := h.len
  refine ⟨by simpa using h.len, by omega, by omega, ?_, ?_⟩
  · have e1 : (dk.set i y).take (i + 1) = dk.take i ++ [y] := by
      rw [List.take_add_one, List.getElem?_set_self (by omega)]
      simp [List.take_set_of_le (Nat.le_refl i)]
    rw [e1, h.low, List.take_add_one, hy, List.filter_append]; simp [hq]
  · rw [List.drop_set_of_lt (by omega)]
    have := congrArg (List.drop 1) h.high; simpa [List.drop_drop, Nat.add_comm] using this
theorem KeptIv.start {α : Type} {q : α → Bool} {l : List α} {k : Nat} {y : α} (h : ∀ x ∈ l.take k, q x = true) (hy : l[k]? = some y) (hq : q y = false) : KeptIv q l (k + 1) k l := by
  have hk : k < l.length := (List.getElem?_eq_some_iff.1 hy).1
  refine ⟨rfl, by omega, by omega, ?_, rfl⟩
  rw [List.take_add_one, hy, List.filter_append, List.filter_eq_self.2 h]; simp [hq]
theorem idxP_cases {α : Type} (p : α → Bool) : ∀ (l : List α) (i : Nat), (idxP p l i = -1 ∧ ∀ x ∈ l, p x = false) ∨ ∃ k y, idxP p l i = ((i + k : Nat) : Int) ∧ l[k]? = some y ∧ p y = true ∧ ∀ x ∈ l.take k, p x = false
  | [], i => .inl ⟨rfl, by simp⟩
  | x :: l, i => by
    cases h : p x with
    | true => exact .inr ⟨0, x, by simp [idxP, h], by simp, h, by simp⟩
    | false =>
      rcases idxP_cases p l (i + 1) with ⟨e, ha⟩ | ⟨k, y, e, hy, hp, ha⟩
      · exact .inl ⟨by simp [idxP, h, e], by simpa [h] using ha⟩
      · exact .inr ⟨k + 1, y, by rw [idxP, if_neg (by rw [h]; decide), e]; congr 1; omega, by simpa using hy, hp, by simpa [h] using ha⟩
end Go.Proofs.Ytnepgcbgkhikkaa.H
namespace Go.Proofs.Ytnepgcbgkhikkaa.H
open Go.RowKit Go.Proofs.YtnepgcbgkhikkaaW.PrintWords Go.Proofs.YtnepgcbgkhikkaaW.PrintLast Go.Proofs.YtnepgcbgkhikkaaW.PrintMore
set_option linter.unusedVariables false
/-- A kind of elements whose cells are told by the element alone (no rows inside). -/
structure Flat {α : Type} (d : Kd α) (c : α → List Value) : Prop where
  M : ∀ {w base ok x cs}, d.M w base ok x cs ↔ cs = c x
  K : ∀ {w x cs}, d.K w x cs ↔ cs = c x
  len : ∀ x, (c x).length = d.sz
  one : ∀ x, ∀ u ∈ c x, u.oneCell' = true
  pos : 0 < d.sz
section
variable {α : Type} {d : Kd α} {c : α → List Value}
theorem Flat.flen (F : Flat d c) : ∀ xs : List α, (xs.flatMap c).length = xs.length * d.sz
  | [] => by simp
  | x :: xs => by rw [List.flatMap_cons, List.length_append, F.len, F.flen xs, List.length_cons, Nat.succ_mul, Nat.add_comm]
theorem Flat.fone (F : Flat d c) (xs : List α) : ∀ u ∈ xs.flatMap c, u.oneCell' = true := fun u hu => by
  obtain ⟨x, _, hx⟩ := List.mem_flatMap.1 hu
  exact F.one x u hx
theorem Flat.fdrop (F : Flat d c) : ∀ (xs : List α) (i : Nat), (xs.flatMap c).drop (i * d.sz) = (xs.drop i).flatMap c
  | xs, 0 => by simp
  | [], i + 1 => by simp
  | x :: xs, i + 1 => by
    rw [List.flatMap_cons, List.drop_append, F.len, List.drop_eq_nil_of_le (by rw [F.len, Nat.succ_mul]; omega), List.nil_append, List.drop_succ_cons, ← F.fdrop xs i]
    congr 1
    rw [Nat.succ_mul]; omega
theorem Flat.ftake (F : Flat d c) : ∀ (xs : List α) (i : Nat), (xs.flatMap c).take (i * d.sz) = (xs.take i).flatMap c
  | xs, 0 => by simp
  | [], i + 1 => by simp
  | x :: xs, i + 1 => by
    rw [List.flatMap_cons, List.take_append, F.len, List.take_of_length_le (by rw [F.len, Nat.succ_mul]; omega), List.take_succ_cons, List.flatMap_cons, ← F.ftake xs i]
    congr 2
    rw [Nat.succ_mul]; omega
theorem Flat.fget (F : Flat d c) {xs : List α} {i : Nat} {x : α} (h : xs[i]? = some x) : ((xs.flatMap c).drop (i * d.sz)).take d.sz = c x := by
  rw [F.fdrop, drop_cons h, List.flatMap_cons, List.take_append_of_le_length (by rw [F.len]; exact Nat.le_refl _), List.take_of_length_le (by rw [F.len]; exact Nat.le_refl _)]
theorem Flat.reps (F : Flat d c) {R : α → List Value → Prop} (hR : ∀ x cs, R x cs ↔ cs = c x) : ∀ {xs : List α} {inner : List Value}, Reps R d.sz xs inner ↔ inner = xs.flatMap c := by
  intro xs inner
  constructor
  · intro h
    apply List.ext_getElem?
    intro q
    by_cases hq : q < xs.length * d.sz
    · have hi : q / d.sz < xs.length := (Nat.div_lt_iff_lt_mul F.pos).2 hq
      have h1 := (hR _ _).1 (h.2 (q / d.sz) _ (List.getElem?_eq_getElem hi))
      have h2 := F.fget (List.getElem?_eq_getElem hi)
      have e : ∀ l : List Value, ((l.drop (q / d.sz * d.sz)).take d.sz)[q % d.sz]? = l[q]? := fun l => by
        rw [List.getElem?_take, if_pos (Nat.mod_lt _ F.pos), List.getElem?_drop, Nat.mul_comm, Nat.div_add_mod]
      rw [← e inner, ← e (xs.flatMap c), h1, h2]
    · rw [List.getElem?_eq_none (by rw [h.1]; omega), List.getElem?_eq_none (by rw [F.flen]; omega)]
  · rintro rfl
    exact ⟨F.flen xs, fun j p hj => (hR _ _).2 (F.fget hj)⟩
/-- what a row of one's own is, told by its block -/
structure Blk (d : Kd α) (c : α → List Value) (e : Nat) (w : World) (base : Nat) (ok : Nat → Prop) (g n cap : Nat) (xs : List α) (cur : Array Value) : Prop where
  len : n = xs.length
  okg : ok g
  bas : base ≤ g
  heap : w.heap[g]? = some (.cells cur e (0, 0))
  le : n ≤ cap
  max : cap ≤ maxLen
  size : cur.size = cap * d.sz
  take : cur.toList.take (n * d.sz) = xs.flatMap c
theorem Flat.blk (F : Flat d c) {e : Nat} {w : World} {base : Nat} {ok : Nat → Prop} {g n cap : Nat} {xs : List α} (h : d.R e w base ok (.slice (some ⟨g, 0, none⟩) n cap) xs) : ∃ cur, Blk d c e w base ok g n cap xs cur := by
  obtain ⟨hn, _, _⟩ := Kd.R_reads' h
  obtain ⟨hok, inner, ⟨hlen, ho⟩, hr⟩ := h
  rcases ho with ⟨he, _⟩ | ⟨g', cap', cur, he, hb, hh, hnc, hcm, hcs, htk⟩
  · cases he
  · cases he
    exact ⟨cur, hn, hok g rfl, hb, hh, by omega, hcm, hcs, by rw [hn, htk]; exact (F.reps (fun _ _ => F.M)).1 hr⟩
theorem Flat.row (F : Flat d c) {e : Nat} {w : World} {base : Nat} {ok : Nat → Prop} {g n cap : Nat} {xs : List α} {cur : Array Value} (h : Blk d c e w base ok g n cap xs cur) : d.R e w base ok (.slice (some ⟨g, 0, none⟩) n cap) xs := by
  have hn := h.len
  subst hn
  refine ⟨fun k hk => ?_, xs.flatMap c, ⟨F.flen xs, .inr ⟨g, cap, cur, rfl, h.bas, h.heap, h.le, h.max, h.size, h.take⟩⟩, (F.reps (fun _ _ => F.M)).2 rfl⟩
  have : g = k := by simpa [Value.ownBlock] using hk
  exact this ▸ h.okg
/-- a row that is read: its cells -/
theorem Flat.cell (F : Flat d c) {w : World} {A : Addr} {n : Nat} {xs : List α} (h : d.C w (some A) n xs) : ∀ j u, (xs.flatMap c)[j]? = some u → w.cell? (A.add j) = some u := by
  intro j u hj
  have hjl : j < xs.length * d.sz := by rw [← F.flen]; exact (List.getElem?_eq_some_iff.1 hj).1
  have hi : j / d.sz < xs.length := (Nat.div_lt_iff_lt_mul F.pos).2 hjl
  obtain ⟨ad, cs, e, hs, hK, hc⟩ := Kd.C_nth h (List.getElem?_eq_getElem hi)
  cases e
  have hk := F.K.1 hK
  have h2 := F.fget (List.getElem?_eq_getElem hi)
  have e : ((xs.flatMap c).drop (j / d.sz * d.sz)).take d.sz = cs := by rw [h2, hk]
  have h3 : cs[j % d.sz]? = some u := by
    rw [← e, List.getElem?_take, if_pos (Nat.mod_lt _ F.pos), List.getElem?_drop, Nat.mul_comm, Nat.div_add_mod]; exact hj
  have := hc _ _ h3
  rwa [Nat.mul_comm, Nat.div_add_mod] at this
end
section
variable {P : Program}
theorem run_copy_sz (w : World) (dT sT ty elem : TypeId) (b o dLen dCap : Nat) (a : Addr) (sLen sCap sz k : Nat) (cs : List Value)
    (hu : P.underlying dT = some (.slice elem)) (hs : (P.info? elem).map (·.size) = some sz) (hk : k = Nat.min sLen dLen) (hn : cs.length = k * sz)
    (hsrc : ∀ j v, cs[j]? = some v → w.cell? (a.add j) = some v) (hc : ∀ j, j < cs.length → (w.cell? ⟨b, o + j, none⟩).isSome = true) (hf : ∀ j, j < cs.length → w.frozen? ⟨b, o + j, none⟩ = false) (h1 : ∀ v ∈ cs, v.oneCell' = true) :
    (Builtin.copy_ #[dT, sT] ty #[.slice (some ⟨b, o, none⟩) dLen dCap, .slice (some a) sLen sCap]).run P w = .ok (goInt k) (w.setCells b o cs) := by
  have hl := run_loadCells_list (P := P) w a cs hsrc
  have hst := run_storeCells_cells (P := P) b o cs 0 w (by simpa using hc) (by simpa using hf) h1
  cases hq : P.info? elem with
  | none => simp [hq] at hs
  | some i =>
    have hi : i.size = sz := by simpa [hq] using hs
    simp [Builtin.copy_, run_underlying hu, Builtin.lenOf, Builtin.firstCells, sizeOf, typeInfo, hq, hi, ← hk, ← hn, hl, hst]
end
/-- the cells of a block behind 'setCells' -/
theorem setCells_heap {g : Nat} {e : TypeId} : ∀ (vs : List Value) (o : Nat) (w : World) (cur : Array Value), w.heap[g]? = some (.cells cur e (0, 0)) → o + vs.length ≤ cur.size →
    ∃ cur' : Array Value, (w.setCells g o vs).heap[g]? = some (.cells cur' e (0, 0)) ∧ cur'.size = cur.size ∧ cur'.toList = cur.toList.take o ++ vs ++ cur.toList.drop (o + vs.length)
  | [], o, w, cur, h, _ => ⟨cur, h, rfl, by simp⟩
  | v :: r, o, w, cur, h, hl => by
    have h1 := blk_set h o v
    obtain ⟨cur', h2, h3, h4⟩ := setCells_heap r (o + 1) _ _ h1 (by simp at hl ⊢; omega)
    refine ⟨cur', h2, by rw [h3]; simp, ?_⟩
    rw [h4]
    have e := list_seg_step cur.toList o v r (by simp at hl ⊢; omega)
    simpa [Array.toList_setIfInBounds, Nat.add_assoc] using e
theorem setCells_grown (g : Nat) : ∀ (vs : List Value) (o : Nat) (w : World), w.grownBy (w.setCells g o vs) (some g)
  | [], o, w => World.grownBy.refl w _
  | v :: r, o, w => grown_trans (grown_set w g o v) (setCells_grown g r (o + 1) _)
theorem seg_take {α : Type} (L C : List α) (a N : Nat) (h : a + C.length ≤ N) (hN : N ≤ L.length) : (L.take a ++ C ++ L.drop (a + C.length)).take N = (L.take N).take a ++ C ++ (L.take N).drop (a + C.length) := by
  have e1 : (L.take a).length = a := by rw [List.length_take]; omega
  have t1 : (L.take a).take N = L.take a := by rw [List.take_take, Nat.min_eq_right (by omega)]
  have t2 : C.take (N - a) = C := List.take_of_length_le (by omega)
  have t3 : (L.take N).take a = L.take a := by rw [List.take_take, Nat.min_eq_left (by omega)]
  rw [t3, List.append_assoc, List.take_append, t1, e1, List.take_append, t2, List.drop_take, List.append_assoc, Nat.sub_sub]
theorem Flat.put {α : Type} {d : Kd α} {c : α → List Value} (F : Flat d c) {e : Nat} {w : World} {base : Nat} {ok : Nat → Prop} {g n cap : Nat} {xs : List α} (h : d.R e w base ok (.slice (some ⟨g, 0, none⟩) n cap) xs) {i : Nat} (hi : i < xs.length) (x : α) :
    d.R e (w.setCells g (i * d.sz) (c x)) base ok (.slice (some ⟨g, 0, none⟩) n cap) (xs.set i x) ∧ w.grownBy (w.setCells g (i * d.sz) (c x)) (some g) := by
  obtain ⟨cur, B⟩ := F.blk h
  have hn := B.len
  subst hn
  have hle : i * d.sz + d.sz ≤ xs.length * d.sz := by rw [← Nat.succ_mul]; exact Nat.mul_le_mul_right _ hi
  have hcs : xs.length * d.sz ≤ cur.size := by rw [B.size]; exact Nat.mul_le_mul_right _ B.le
  obtain ⟨cur', h1, h2, h3⟩ := setCells_heap (c x) (i * d.sz) w cur B.heap (by rw [F.len]; omega)
  refine ⟨F.row ⟨by simp, B.okg, B.bas, h1, B.le, B.max, by rw [h2, B.size], ?_⟩, setCells_grown g _ _ _⟩
  rw [h3, seg_take _ _ _ _ (by rw [F.len]; exact hle) (by simpa using hcs), B.take, F.ftake, F.len, ← Nat.succ_mul, F.fdrop, List.set_eq_take_append_cons_drop, if_pos hi]
  simp
end Go.Proofs.Ytnepgcbgkhikkaa.H
namespace Go.Proofs.Ytnepgcbgkhikkaa.H
open Go.RowKit Go.Proofs.YtnepgcbgkhikkaaW.PrintWords
def cVar (x : Var) : List Value := [.string x.name, .int .i64 x.n, .int .i64 x.last, .bool x.taint]
theorem flatVar : Flat k54 cVar :=
  ⟨⟨fun h => k54_openM h, fun h => h ▸ k54_mkM _ _ _ _⟩, ⟨fun h => k54_open h, fun h => h ▸ k54_mk _ _⟩, fun _ => rfl, fun x u hu => by
    simp only [cVar, List.mem_cons, List.not_mem_nil, or_false] at hu
    rcases hu with rfl | rfl | rfl | rfl <;> rfl, by decide⟩
end Go.Proofs.Ytnepgcbgkhikkaa.H
/- what a machine's name has: (*machine).of, and the library's IndexFunc at names -/
namespace Go.Proofs.Ytnepgcbgkhikkaa.H
open Go.RowKit Go.Proofs.YtnepgcbgkhikkaaW.PrintWords Go.Proofs.YtnepgcbgkhikkaaW.PrintLast Go.Proofs.YtnepgcbgkhikkaaW.PrintMore
set_option linter.unusedVariables false
set_option maxHeartbeats 4000000 in
/-- slices.IndexFunc, a struct -/
theorem IndexFuncVar (g : Nat) (lb : Array Value) (eg : ∀ args w, (callFunc g args).run Try.prog w = .ok (.enter g args) w) (p : Var → Bool)
    (A0 : Option Addr) (c0 : Nat) (l0 : List Var) (w : World) (hr0 : Kd.C k54 w A0 l0.length l0) (hp : PredA Try.prog g lb k54 p w l0) :
    Calls Try.prog 71 #[.slice A0 l0.length c0, .func (.func g) #[] lb] w fun e w' => e = .returned (.int .i64 (idxP p l0 0)) ∧ Below w.heap.size w w' := by
  have HR := Aside0.mk hr0
  have HP := Aside0.mk hp
  have hl : l0.length ≤ 9223372036854775807 := hr0.2.1
  clear hr0 hp
  go_enter Try.func71, Try.ntmps71
  go_wp2
  go_loopg [5, 8] l0.length (fun gg _ s8 wr => ∃ kk : Nat, kk ≤ l0.length ∧ l0.length - kk ≤ gg ∧ s8 = .int .i64 kk ∧ Aside0 (Below w.heap.size w wr) ∧ Aside0 (idxP p l0 0 = idxP p (l0.drop kk) kk))
  case atStart => exact ⟨0, Nat.zero_le _, by omega, rfl, ⟨Below.refl _ w⟩, ⟨rfl⟩⟩
  case round =>
    obtain ⟨kk, hkk, hg, rfl, BW, A⟩ := hrel
    by_cases hlt : kk < l0.length
    · have hltz : (kk : Int) < (l0.length : Int) := by omega
      obtain ⟨y, hy⟩ := at_some hlt
      have hat := at_Var HR.out hy
      have HA := Aside0.mk (A.out.trans (by rw [drop_cons hy]))
      have hym := List.mem_of_getElem? hy
      clear A hy
      obtain ⟨ad, e1, hx0, hx1, hx2, hx3⟩ := hat
      cases e1
      replace hx0 := Below.old BW.out hx0; replace hx1 := Below.old BW.out hx1; replace hx2 := Below.old BW.out hx2; replace hx3 := Below.old BW.out hx3
      have hcall := HP.out wr y [.string y.name, .int .i64 y.n, .int .i64 y.last, .bool y.taint] hym BW.out (k54_mk wr y )
      cases hq : p y with
      | true =>
        rw [hq] at hcall
        go_wp2_with (go_at_fn g; refine hcall.mono ?_; rintro e w' ⟨rfl, hb'⟩)
        go_ret
        exact ⟨by rw [HA.out, idxP, if_pos hq]; rfl, Below.then BW.out hb'⟩
      | false =>
        rw [hq] at hcall
        go_wp2_with (go_at_fn g; refine hcall.mono ?_; rintro e w' ⟨rfl, hb'⟩)
        go_roundg (l0.length - (kk + 1))
        case measure => omega
        case rel => exact ⟨kk + 1, by omega, by omega, by go_num, ⟨Below.then BW.out hb'⟩, ⟨by rw [HA.out, idxP, if_neg (by rw [hq]; decide)]⟩⟩
    · have hltz : ¬ (kk : Int) < (l0.length : Int) := by omega
      obtain rfl : kk = l0.length := by omega
      go_wp2
      go_ret
      exact ⟨by rw [A.out]; simp [idxP], BW.out⟩
theorem vcell {W w1 : World} (hb : Below W.heap.size W w1) : (∀ b o, b < W.heap.size → w1.cell? ⟨b, o, none⟩ = W.cell? ⟨b, o, none⟩) ∧ (∀ b o, b < W.heap.size → w1.frozen? ⟨b, o, none⟩ = W.frozen? ⟨b, o, none⟩) :=
  ⟨fun b o h => hb.cell (p := ⟨b, o, none⟩) h, fun b o h => hb.frozen (p := ⟨b, o, none⟩) h⟩
theorem ofV1 (w : World) (B : Nat) (s : ByteArray) (l : List Var) (h1 : w.cell? ⟨B, 0, none⟩ = some (.string s)) :
    PredA Try.prog 84 #[.pointer (some ⟨B, 0, none⟩)] k54 (fun p => decide (p.name = s)) w l := by
  intro W x cs _ hb hK
  have hu := Try.underlying54
  obtain rfl := k54_open hK
  have e1 := Below.old hb h1
  have hB : B < W.heap.size := World.block_lt_of_cell? _ _ e1
  clear h1 hb hK
  by_cases hq : x.name = s
  · obtain ⟨q1, q2⟩ := ba_beq hq
    have HQ := Aside0.mk hq
    clear hq
    go_enter Try.func84, Try.ntmps84
    go_wp2
    go_ret
    exact ⟨by simp [HQ.out], below_alloc (Below.refl _ _) _⟩
  · obtain ⟨q1, q2⟩ := ba_bne hq
    have HQ := Aside0.mk hq
    clear hq
    go_enter Try.func84, Try.ntmps84
    go_wp2
    go_ret
    exact ⟨by simp [HQ.out], below_alloc (Below.refl _ _) _⟩
theorem stV1 (w : World) (B : Nat) (s : ByteArray) (l : List Var) (h1 : w.cell? ⟨B, 0, none⟩ = some (.string s)) :
    PredA Try.prog 72 #[.pointer (some ⟨B, 0, none⟩)] k54 (fun p => decide (p.name = s)) w l := by
  intro W x cs _ hb hK
  have hu := Try.underlying54
  obtain rfl := k54_open hK
  have e1 := Below.old hb h1
  have hB : B < W.heap.size := World.block_lt_of_cell? _ _ e1
  clear h1 hb hK
  by_cases hq : x.name = s
  · obtain ⟨q1, q2⟩ := ba_beq hq
    have HQ := Aside0.mk hq
    clear hq
    go_enter Try.func72, Try.ntmps72
    go_wp2
    go_ret
    exact ⟨by simp [HQ.out], below_alloc (Below.refl _ _) _⟩
  · obtain ⟨q1, q2⟩ := ba_bne hq
    have HQ := Aside0.mk hq
    clear hq
    go_enter Try.func72, Try.ntmps72
    go_wp2
    go_ret
    exact ⟨by simp [HQ.out], below_alloc (Below.refl _ _) _⟩
def atV (l : List Var) (s : ByteArray) : Int := idxP (fun p => decide (p.name = s)) l 0
theorem atV_of {l : List Var} {s : ByteArray} {k : Nat} {y : Var} (h : atV l s = (k : Int)) (hy : l[k]? = some y) : True := trivial
set_option maxHeartbeats 1000000 in
/-- what a name has that the machine knows -/
theorem of_calls (w : World) (gm : Nat) (i1 i2 i3 : Value) (A3 : Option Addr) (c3 : Nat) (vs : List Var) (s : ByteArray) (k : Nat) (y : Var) (hm : w.heap[gm]? = some (.cells #[i1, i2, i3, .slice A3 vs.length c3] 73 (0, 0)))
    (hr : Kd.C k54 w A3 vs.length vs) (hk : atV vs s = (k : Int)) (hy : vs[k]? = some y) :
    Calls Try.prog 74 #[.pointer (some ⟨gm, 0, none⟩), .string s] w fun e w' => e = .returned (.agg #[.string y.name, .int .i64 y.n, .int .i64 y.last, .bool y.taint]) ∧ Below w.heap.size w w' := by
  have hu := Try.underlying54
  have hum := Try.underlying73
  have HR := Aside0.mk hr
  have hc : w.cell? ⟨gm, 3, none⟩ = some (.slice A3 vs.length c3) := (blk_cell hm 3).trans rfl
  have hg : gm < w.heap.size := World.block_lt_of_cell? _ _ hc
  clear hr hm
  have eg := enters_of Try.func84 (by kernel_rfl) rfl
  have H1 := Aside0.mk hk
  obtain ⟨ad, e1, hx0, hx1, hx2, hx3⟩ := at_Var HR.out hy
  cases e1
  have hkl := (List.getElem?_eq_some_iff.1 hy).1
  have hk0 : (0 : Int) ≤ (k : Int) := by omega
  clear hk hy
  go_enter Try.func74, Try.ntmps74
  go_wp2_with (go_at_call 71; go_must (refine (IndexFuncVar 84 #[.pointer (some ⟨w.heap.size, 0, none⟩)] eg (fun p => decide (p.name = s)) _ _ _ _ (Kd.C_alloc (Kd.C_alloc HR.out _) _) (ofV1 _ _ _ _ (by go_simp))).mono ?_); rintro e w1 ⟨rfl, hb⟩; rw [show idxP (fun p : Var => decide (p.name = s)) vs 0 = (k : Int) from H1.out]; obtain ⟨hcc, hf⟩ := vcell hb; have HB := Aside0.mk (Below.then (below_alloc (below_alloc (Below.refl w.heap.size w) _) _) hb); have hz : w.heap.size + 1 < w1.heap.size := (by have := hb.size; simp at this; omega); replace hc := Below.old HB.out hc; replace hx0 := Below.old HB.out hx0; replace hx1 := Below.old HB.out hx1; replace hx2 := Below.old HB.out hx2; replace hx3 := Below.old HB.out hx3)
  exact bodyPost_ret (v := .agg #[.string y.name, .int .i64 y.n, .int .i64 y.last, .bool y.taint]) (by simp [results, Try.results74, go_sem, hcc]) rfl ⟨rfl, below_set (below_set (below_set (below_set HB.out (Nat.le_succ _)) (Nat.le_succ _)) (Nat.le_succ _)) (Nat.le_succ _)⟩
end Go.Proofs.Ytnepgcbgkhikkaa.H
/- a machine's block, and what reads of the script make of it -/
namespace Go.Proofs.Ytnepgcbgkhikkaa.H
open Go.RowKit Go.Proofs.YtnepgcbgkhikkaaW.PrintWords Go.Proofs.YtnepgcbgkhikkaaW.PrintLast Go.Proofs.YtnepgcbgkhikkaaW.PrintMore
set_option linter.unusedVariables false
structure Mach (w0 : World) (N : Nat) (w : World) (gm : Nat) (A0 : Option Addr) (c0 : Nat) (l : List Stmt) (ins : List Int) (ora : List Bool) (u : Value) (vs : List Var) : Prop where
  bel : Below w0.heap.size w0 w
  gml : w0.heap.size ≤ gm
  gmN : gm < N
  N_w : N ≤ w.heap.size
  row : ∃ A1 c1 A2 c2, w.heap[gm]? = some (.cells #[.slice A1 ins.length c1, .slice A2 ora.length c2, .slice A0 l.length c0, u] 73 (0, 0)) ∧ Kd.C (Kd.int .i64) w0 A1 ins.length ins ∧ ins.length ≤ c1 ∧ Kd.C Kd.bool w0 A2 ora.length ora ∧ ora.length ≤ c2
  vars : Kd.R k54 54 w w0.heap.size (fun k => k ≠ gm ∧ k < N) u vs
theorem Mach.below {w0 : World} {N : Nat} {w : World} {gm : Nat} {A0 : Option Addr} {c0 : Nat} {l : List Stmt} {ins : List Int} {ora : List Bool} {u : Value} {vs : List Var} (h : Mach w0 N w gm A0 c0 l ins ora u vs) {w' : World} (hb : Below w.heap.size w w') : Mach w0 N w' gm A0 c0 l ins ora u vs := by
  obtain ⟨A1, c1, A2, c2, hm, h1, h2, h3, h4⟩ := h.row
  exact ⟨below_step h.bel hb, h.gml, h.gmN, Nat.le_trans h.N_w hb.size, ⟨A1, c1, A2, c2, blk_below hm hb, h1, h2, h3, h4⟩, Kd.R_below h.vars hb⟩
theorem step_put {w : World} {g j : Nat} {cs : Array Value} {e : Nat} {u : Value} (h : w.heap[g]? = some (.cells cs e (0, 0))) : (w.setCell ⟨g, j, none⟩ u).heap[g]? = some (.cells (cs.setIfInBounds j u) e (0, 0)) := blk_set h j u
/-- the machine behind a store into its own block -/
theorem Mach.put {w0 : World} {N : Nat} {w : World} {gm : Nat} {A0 : Option Addr} {c0 : Nat} {l : List Stmt} {ins ins' : List Int} {ora ora' : List Bool} {u : Value} {vs : List Var} (h : Mach w0 N w gm A0 c0 l ins ora u vs) (j : Nat) (v : Value)
    (hr : ∃ A1 c1 A2 c2, (w.setCell ⟨gm, j, none⟩ v).heap[gm]? = some (.cells #[.slice A1 ins'.length c1, .slice A2 ora'.length c2, .slice A0 l.length c0, u] 73 (0, 0)) ∧ Kd.C (Kd.int .i64) w0 A1 ins'.length ins' ∧ ins'.length ≤ c1 ∧ Kd.C Kd.bool w0 A2 ora'.length ora' ∧ ora'.length ≤ c2) :
    Mach w0 N (w.setCell ⟨gm, j, none⟩ v) gm A0 c0 l ins' ora' u vs := by
  have hs : (w.setCell ⟨gm, j, none⟩ v).heap.size = w.heap.size := by simp [World.setCell]
  refine ⟨below_set h.bel h.gml, h.gml, h.gmN, by rw [hs]; exact h.N_w, hr, ?_⟩
  exact Kd.R_kept h.vars (Kept.setCell (S := fun k => k = gm) (Kept.refl _ _) (.inl rfl) v) (fun k hk => hk.1)
set_option maxRecDepth 100000 in
theorem input_calls (w0 : World) (N : Nat) (w : World) (gm : Nat) (A0 : Option Addr) (c0 : Nat) (l : List Stmt) (ins : List Int) (ora : List Bool) (u : Value) (vs : List Var) (h : Mach w0 N w gm A0 c0 l ins ora u vs) :
    Calls Try.prog 82 #[.pointer (some ⟨gm, 0, none⟩)] w fun e w' => e = .returned (.int .i64 (ins.headD 0)) ∧ Mach w0 N w' gm A0 c0 l ins.tail ora u vs ∧ w.grownBy w' (some gm) := by
  have HM := Aside0.mk h
  obtain ⟨A1, c1, A2, c2, hm, h1, h2, h3, h4⟩ := h.row
  have hul := Try.underlying40
  have hum := Try.underlying73
  have hus := Try.underlying71
  have hc : w.cell? ⟨gm, 0, none⟩ = some (.slice A1 ins.length c1) := (blk_cell hm 0).trans rfl
  have hf : w.frozen? ⟨gm, 0, none⟩ = false := blk_frozen hm 0
  clear h
  cases ins with
  | nil =>
    go_enter Try.func82, Try.ntmps82
    go_wp2
    go_ret
    exact ⟨rfl, HM.out, World.grownBy.refl _ _⟩
  | cons a r =>
    obtain ⟨ad, e1, hx⟩ := at_int (i := 0) h1 rfl
    cases e1
    have hx : w.cell? ad = some (.int .i64 a) := by have := Below.old HM.out.bel hx; rwa [show ad.add 0 = ad from rfl] at this
    have hne : (((r.length : Int) + 1) == 0) = false := by rw [beq_eq_false_iff_ne]; omega
    have HD := Aside0.mk (Kd.C_drop (m := 1) h1 (by simp) h2)
    have h1r : (1 : Nat) ≤ r.length + 1 := by omega
    have HC := Aside0.mk h2
    have HL := Aside0.mk h1.2.1
    go_enter Try.func82, Try.ntmps82
    have HM0 := Aside0.mk hm
    clear hm h1
    go_wp2
    · go_ret
      have hq := HD.out
      rw [if_pos (by assumption)] at hq
      exact ⟨rfl, Mach.put HM.out 0 _ ⟨_, _, A2, c2, (step_put HM0.out).trans rfl, hq, by have := HC.out; simp at this; show r.length ≤ _; omega, h3, h4⟩, grown_set _ _ _ _⟩
    · go_ret
      have hq := HD.out
      rw [if_neg (by assumption)] at hq
      exact ⟨rfl, Mach.put HM.out 0 _ ⟨_, _, A2, c2, (step_put HM0.out).trans rfl, hq, by have := HC.out; simp at this; show r.length ≤ _; omega, h3, h4⟩, grown_set _ _ _ _⟩
set_option maxRecDepth 100000 in
theorem answer_calls (w0 : World) (N : Nat) (w : World) (gm : Nat) (A0 : Option Addr) (c0 : Nat) (l : List Stmt) (ins : List Int) (ora : List Bool) (u : Value) (vs : List Var) (b : Bool) (h : Mach w0 N w gm A0 c0 l ins ora u vs) :
    Calls Try.prog 73 #[.pointer (some ⟨gm, 0, none⟩), .bool b] w fun e w' => e = .returned (.bool (ora.headD b)) ∧ Mach w0 N w' gm A0 c0 l ins ora.tail u vs ∧ w.grownBy w' (some gm) := by
  have HM := Aside0.mk h
  obtain ⟨A1, c1, A2, c2, hm, h1, h2, h3, h4⟩ := h.row
  have hul := Try.underlying41
  have hum := Try.underlying73
  have hus := Try.underlying71
  have hc : w.cell? ⟨gm, 1, none⟩ = some (.slice A2 ora.length c2) := (blk_cell hm 1).trans rfl
  have hf : w.frozen? ⟨gm, 1, none⟩ = false := blk_frozen hm 1
  clear h
  cases ora with
  | nil =>
    go_enter Try.func73, Try.ntmps73
    go_wp2
    go_ret
    exact ⟨rfl, HM.out, World.grownBy.refl _ _⟩
  | cons a r =>
    obtain ⟨ad, e1, hx⟩ := at_bool (i := 0) h3 rfl
    cases e1
    have hx : w.cell? ad = some (.bool a) := by have := Below.old HM.out.bel hx; rwa [show ad.add 0 = ad from rfl] at this
    have hne : (((r.length : Int) + 1) == 0) = false := by rw [beq_eq_false_iff_ne]; omega
    have HD := Aside0.mk (Kd.C_drop (m := 1) h3 (by simp) h4)
    have h1r : (1 : Nat) ≤ r.length + 1 := by omega
    have HC := Aside0.mk h4
    have HL := Aside0.mk h3.2.1
    go_enter Try.func73, Try.ntmps73
    have HM0 := Aside0.mk hm
    clear hm h3
    go_wp2
    · go_ret
      have hq := HD.out
      rw [if_pos (by assumption)] at hq
      exact ⟨rfl, Mach.put HM.out 1 _ ⟨A1, c1, _, _, (step_put HM0.out).trans rfl, h1, h2, hq, by have := HC.out; simp at this; show r.length ≤ _; omega⟩, grown_set _ _ _ _⟩
    · go_ret
      have hq := HD.out
      rw [if_neg (by assumption)] at hq
      exact ⟨rfl, Mach.put HM.out 1 _ ⟨A1, c1, _, _, (step_put HM0.out).trans rfl, h1, h2, hq, by have := HC.out; simp at this; show r.length ≤ _; omega⟩, grown_set _ _ _ _⟩
end Go.Proofs.Ytnepgcbgkhikkaa.H
/- what a statement gives: (*machine).made, kind by kind -/
namespace Go.Proofs.Ytnepgcbgkhikkaa.H
open Go.RowKit Go.Proofs.YtnepgcbgkhikkaaW.PrintWords Go.Proofs.YtnepgcbgkhikkaaW.PrintLast Go.Proofs.YtnepgcbgkhikkaaW.PrintMore
set_option linter.unusedVariables false
def getV (vs : List Var) (s : ByteArray) : Var := (vs.find? fun p => decide (p.name = s)).getD ⟨⟨#[]⟩, 0, 0, false⟩
theorem getV_at {s : ByteArray} : ∀ (vs : List Var) (i : Nat), s ∈ vs.map Var.name → ∃ k y, idxP (fun p : Var => decide (p.name = s)) vs i = ((i + k : Nat) : Int) ∧ vs[k]? = some y ∧ getV vs s = y
  | [], i, h => by simp at h
  | x :: vs, i, h => by
    unfold idxP
    by_cases c : x.name = s
    · exact ⟨0, x, by simp [c], rfl, by simp [getV, c]⟩
    · obtain ⟨k, y, h1, h2, h3⟩ := getV_at vs (i + 1) (by
        rcases List.mem_cons.1 (by simpa using h : s ∈ x.name :: vs.map Var.name) with e | e
        · exact absurd e.symm c
        · exact e)
      refine ⟨k + 1, y, ?_, by simpa using h2, ?_⟩
      · rw [if_neg (by simpa using c), h1]; omega
      · rw [← h3]; simp [getV, c]
/-- what a name has that the machine knows -/
theorem of_named (w0 : World) (N : Nat) (w : World) (gm : Nat) (A0 : Option Addr) (c0 : Nat) (l : List Stmt) (ins : List Int) (ora : List Bool) (u : Value) (vs : List Var) (h : Mach w0 N w gm A0 c0 l ins ora u vs) (s : ByteArray) (hs : s ∈ vs.map Var.name) :
    Calls Try.prog 74 #[.pointer (some ⟨gm, 0, none⟩), .string s] w fun e w' => e = .returned (.agg #[.string (getV vs s).name, .int .i64 (getV vs s).n, .int .i64 (getV vs s).last, .bool (getV vs s).taint]) ∧ Below w.heap.size w w' := by
  obtain ⟨k, y, h1, h2, h3⟩ := getV_at vs 0 hs
  rw [h3]
  obtain ⟨A1, c1, A2, c2, hm, -, -, -, -⟩ := h.row
  obtain ⟨A3, c3, rfl⟩ := Kd.R_slice h.vars
  exact of_calls w gm _ _ _ A3 c3 vs s k y hm (Kd.R_reads' h.vars).2.2 (by rw [atV, h1, Nat.zero_add]) h2
theorem gcell {W w1 : World} {gm : Nat} (hg : W.grownBy w1 (some gm)) : (∀ b o, b < W.heap.size → ¬ b = gm → w1.cell? ⟨b, o, none⟩ = W.cell? ⟨b, o, none⟩) ∧ (∀ b o, b < W.heap.size → ¬ b = gm → w1.frozen? ⟨b, o, none⟩ = W.frozen? ⟨b, o, none⟩) := by
  constructor
  · intro b o h hn
    have := hg.block b h (fun e => hn (Option.some.inj e))
    simp [World.cell?, this]
  · intro b o h hn
    have := hg.block b h (fun e => hn (Option.some.inj e))
    simp [World.frozen?, this]
theorem Mach.far {w0 : World} {N : Nat} {w : World} {gm : Nat} {A0 : Option Addr} {c0 : Nat} {l : List Stmt} {ins : List Int} {ora : List Bool} {u : Value} {vs : List Var} (h : Mach w0 N w gm A0 c0 l ins ora u vs) {b : Nat} (hb : N ≤ b) (j : Nat) (v : Value) : Mach w0 N (w.setCell ⟨b, j, none⟩ v) gm A0 c0 l ins ora u vs := by
  obtain ⟨A1, c1, A2, c2, hm, h1, h2, h3, h4⟩ := h.row
  have hg := h.gml
  have hN := h.gmN
  have hs : (w.setCell ⟨b, j, none⟩ v).heap.size = w.heap.size := by simp [World.setCell]
  have hw := h.N_w
  refine ⟨below_set h.bel (by show _ ≤ b; omega), h.gml, h.gmN, by rw [hs]; exact h.N_w, ⟨A1, c1, A2, c2, ?_, h1, h2, h3, h4⟩, ?_⟩
  · rw [Below.heap_setCell w ⟨b, j, none⟩ v gm (show gm ≠ b by omega)]; exact hm
  · exact Kd.R_kept h.vars (Kept.setCell (S := fun k => k = b) (Kept.refl _ _) (.inl rfl) v) (fun k hk => by have := hk.2; omega)
theorem grown_far {w w1 : World} {g : Option Nat} (h : w.grownBy w1 g) {b : Nat} (hb : w.heap.size ≤ b) (j : Nat) (v : Value) : w.grownBy (w1.setCell ⟨b, j, none⟩ v) g :=
  ⟨h.os, h.tape, h.output, by simpa [World.setCell] using h.size, fun k hk hn => by rw [Below.heap_setCell w1 ⟨b, j, none⟩ v k (show k ≠ b by omega)]; exact h.block k hk hn⟩
theorem grown_allocs {w w' : World} {g : Option Nat} (h : Below w.heap.size w w') : w.grownBy w' g := grown_of_below h g
section
variable (w0 : World) (N : Nat) (w : World) (gm : Nat) (A0 : Option Addr) (c0 : Nat) (l : List Stmt) (ins : List Int) (ora : List Bool) (u : Value) (vs : List Var) (n : Nat) (st : Stmt)
set_option maxRecDepth 100000 in
set_option maxHeartbeats 4000000 in
theorem made1 (h : Mach w0 N w gm A0 c0 l ins ora u vs) (hl : Kd.C k30 w0 A0 l.length l) (hst : l[n]? = some st) (hk : st.kind = 1) :
    Calls Try.prog 70 #[.pointer (some ⟨gm, 0, none⟩), .int .i64 n] w fun e w' => e = .returned (.agg #[.string st.x, .int .i64 (st.n), .int .i64 n, .bool (false)]) ∧ Mach w0 N w' gm A0 c0 l (ins) ora u vs ∧ w.grownBy w' (some gm) := by
  have HM := Aside0.mk h
  obtain ⟨A1, c1, A2, c2, hm, h1, h2, h3, h4⟩ := h.row
  have hum := Try.underlying73
  have huv := Try.underlying54
  have hut := Try.underlying30
  have hul := Try.underlying22
  have hc : w.cell? ⟨gm, 2, none⟩ = some (.slice A0 l.length c0) := (blk_cell hm 2).trans rfl
  have hnl := (List.getElem?_eq_some_iff.1 hst).1
  have hn0 : (0 : Int) ≤ (n : Int) := by omega
  have hn1 : (n : Int) < (l.length : Int) := by omega
  obtain ⟨ad, e1, x0, x1, x2, x3, x4, x5, x6, x7⟩ := at_Stmt (Kd.C_below hl h.bel) hst
  cases e1
  have hab : (ad.add (n * 8)).block < w.heap.size := World.block_lt_of_cell? _ _ x0
  have hgm : gm < w.heap.size := World.block_lt_of_cell? _ _ hc
  have n0 : ¬ w.heap.size = gm := by omega
  have n1 : ¬ w.heap.size + 1 = gm := by omega
  have n2 : ¬ w.heap.size + 1 + 1 = gm := by omega
  clear h hm h1 h2 h3 h4 hl hst
  go_enter Try.func70, Try.ntmps70
  go_wp2
  have hb := below_alloc (below_alloc (below_alloc (Below.refl w.heap.size w) (.cells #[.string st.x, .int .i64 st.n, .int .i64 n, .bool false] 54)) (.cells #[.int .i64 1, .string st.x, .string st.y, .string st.z, .string st.op, .int .i64 st.n, .int .i64 st.a, .int .i64 st.b] 30)) (.cells #[.string st.x, .int .i64 st.n, .int .i64 n, .bool false] 54)
  exact bodyPost_ret (v := .agg #[.string st.x, .int .i64 (st.n), .int .i64 n, .bool false]) (by simp [results, Try.results70, go_sem]) rfl ⟨rfl, HM.out.below hb, grown_allocs hb⟩
set_option maxRecDepth 100000 in
set_option maxHeartbeats 4000000 in
theorem made0 (h : Mach w0 N w gm A0 c0 l ins ora u vs) (hl : Kd.C k30 w0 A0 l.length l) (hst : l[n]? = some st) (k1 : ¬ st.kind = 1) (k2 : ¬ st.kind = 2) (k3 : ¬ st.kind = 3) (k4 : ¬ st.kind = 4) (k5 : ¬ st.kind = 5) :
    Calls Try.prog 70 #[.pointer (some ⟨gm, 0, none⟩), .int .i64 n] w fun e w' => e = .returned (.agg #[.string st.x, .int .i64 (0), .int .i64 n, .bool (false)]) ∧ Mach w0 N w' gm A0 c0 l (ins) ora u vs ∧ w.grownBy w' (some gm) := by
  have HM := Aside0.mk h
  obtain ⟨A1, c1, A2, c2, hm, h1, h2, h3, h4⟩ := h.row
  have hum := Try.underlying73
  have huv := Try.underlying54
  have hut := Try.underlying30
  have hul := Try.underlying22
  have hc : w.cell? ⟨gm, 2, none⟩ = some (.slice A0 l.length c0) := (blk_cell hm 2).trans rfl
  have hnl := (List.getElem?_eq_some_iff.1 hst).1
  have hn0 : (0 : Int) ≤ (n : Int) := by omega
  have hn1 : (n : Int) < (l.length : Int) := by omega
  obtain ⟨ad, e1, x0, x1, x2, x3, x4, x5, x6, x7⟩ := at_Stmt (Kd.C_below hl h.bel) hst
  cases e1
  have hab : (ad.add (n * 8)).block < w.heap.size := World.block_lt_of_cell? _ _ x0
  have hgm : gm < w.heap.size := World.block_lt_of_cell? _ _ hc
  have n0 : ¬ w.heap.size = gm := by omega
  have n1 : ¬ w.heap.size + 1 = gm := by omega
  have n2 : ¬ w.heap.size + 1 + 1 = gm := by omega
  clear h hm h1 h2 h3 h4 hl hst
  go_enter Try.func70, Try.ntmps70
  have j1 : (st.kind == 1) = false := beq_eq_false_iff_ne.2 k1
  have j2 : (st.kind == 2) = false := beq_eq_false_iff_ne.2 k2
  have j3 : (st.kind == 3) = false := beq_eq_false_iff_ne.2 k3
  have j4 : (st.kind == 4) = false := beq_eq_false_iff_ne.2 k4
  have j5 : (st.kind == 5) = false := beq_eq_false_iff_ne.2 k5
  go_wp2
  have hb := below_alloc (below_alloc (below_alloc (Below.refl w.heap.size w) (.cells #[.string st.x, .int .i64 0, .int .i64 n, .bool false] 54)) (.cells #[.int .i64 st.kind, .string st.x, .string st.y, .string st.z, .string st.op, .int .i64 st.n, .int .i64 st.a, .int .i64 st.b] 30)) (.cells #[.string st.x, .int .i64 0, .int .i64 n, .bool false] 54)
  exact bodyPost_ret (v := .agg #[.string st.x, .int .i64 (0), .int .i64 n, .bool false]) (by simp [results, Try.results70, go_sem]) rfl ⟨rfl, HM.out.below hb, grown_allocs hb⟩
set_option maxRecDepth 100000 in
set_option maxHeartbeats 4000000 in
theorem made4 (h : Mach w0 N w gm A0 c0 l ins ora u vs) (hl : Kd.C k30 w0 A0 l.length l) (hst : l[n]? = some st) (hk : st.kind = 4) :
    Calls Try.prog 70 #[.pointer (some ⟨gm, 0, none⟩), .int .i64 n] w fun e w' => e = .returned (.agg #[.string st.x, .int .i64 (ins.headD 0), .int .i64 n, .bool (true)]) ∧ Mach w0 N w' gm A0 c0 l (ins.tail) ora u vs ∧ w.grownBy w' (some gm) := by
  have HM := Aside0.mk h
  obtain ⟨A1, c1, A2, c2, hm, h1, h2, h3, h4⟩ := h.row
  have hum := Try.underlying73
  have huv := Try.underlying54
  have hut := Try.underlying30
  have hul := Try.underlying22
  have hc : w.cell? ⟨gm, 2, none⟩ = some (.slice A0 l.length c0) := (blk_cell hm 2).trans rfl
  have hnl := (List.getElem?_eq_some_iff.1 hst).1
  have hn0 : (0 : Int) ≤ (n : Int) := by omega
  have hn1 : (n : Int) < (l.length : Int) := by omega
  obtain ⟨ad, e1, x0, x1, x2, x3, x4, x5, x6, x7⟩ := at_Stmt (Kd.C_below hl h.bel) hst
  cases e1
  have hab : (ad.add (n * 8)).block < w.heap.size := World.block_lt_of_cell? _ _ x0
  have hgm : gm < w.heap.size := World.block_lt_of_cell? _ _ hc
  have n0 : ¬ w.heap.size = gm := by omega
  have n1 : ¬ w.heap.size + 1 = gm := by omega
  have n2 : ¬ w.heap.size + 1 + 1 = gm := by omega
  clear h hm h1 h2 h3 h4 hl hst
  go_enter Try.func70, Try.ntmps70
  have hb := fun o => below_alloc (below_alloc (below_alloc (Below.refl w.heap.size w) (.cells #[.string ⟨#[]⟩, .int .i64 0, .int .i64 0, .bool false] 54)) (.cells #[.int .i64 4, .string st.x, .string st.y, .string st.z, .string st.op, .int .i64 st.n, .int .i64 st.a, .int .i64 st.b] 30)) o
  go_wp2_with (go_at_call 82; go_must (refine (input_calls w0 N _ gm _ c0 l ins ora u vs (HM.out.below (hb _))).mono ?_); rintro e w1 ⟨rfl, hM, hg⟩; obtain ⟨hcc, hff⟩ := gcell hg)
  have hN := HM.out.N_w
  have hz : w.heap.size + 1 + 1 + 1 ≤ w1.heap.size := by have := hg.size; simpa using this
  have k0 : w1.cell? ⟨w.heap.size, 0, none⟩ = some (.string ⟨#[]⟩) := by rw [hcc _ _ (by simp; omega) n0]; go_simp
  have k1 : w1.cell? ⟨w.heap.size, 1, none⟩ = some (.int .i64 0) := by rw [hcc _ _ (by simp; omega) n0]; go_simp
  have k2 : w1.cell? ⟨w.heap.size, 2, none⟩ = some (.int .i64 0) := by rw [hcc _ _ (by simp; omega) n0]; go_simp
  have k3 : w1.cell? ⟨w.heap.size, 3, none⟩ = some (.bool false) := by rw [hcc _ _ (by simp; omega) n0]; go_simp
  have hw : w.grownBy w1 (some gm) := grown_trans (grown_allocs (hb _)) hg
  exact bodyPost_ret (v := .agg #[.string st.x, .int .i64 (ins.headD 0), .int .i64 n, .bool true]) (by simp [results, Try.results70, go_sem, k0, k1, k2, k3]) rfl ⟨by simp, Mach.far (Mach.far (Mach.far (Mach.far (Mach.far (Mach.far hM (by omega) _ _) (by omega) _ _) (by omega) _ _) (by omega) _ _) (by omega) _ _) (by omega) _ _, grown_far (grown_far (grown_far (grown_far (grown_far (grown_far hw (by omega) _ _) (by omega) _ _) (by omega) _ _) (by omega) _ _) (by omega) _ _) (by omega) _ _⟩
set_option maxRecDepth 100000 in
set_option maxHeartbeats 4000000 in
theorem made5 (h : Mach w0 N w gm A0 c0 l ins ora u vs) (hl : Kd.C k30 w0 A0 l.length l) (hst : l[n]? = some st) (hk : st.kind = 5) (hy : st.y ∈ vs.map Var.name) :
    Calls Try.prog 70 #[.pointer (some ⟨gm, 0, none⟩), .int .i64 n] w fun e w' => e = .returned (.agg #[.string st.x, .int .i64 ((getV vs st.y).n), .int .i64 n, .bool (false)]) ∧ Mach w0 N w' gm A0 c0 l (ins) ora u vs ∧ w.grownBy w' (some gm) := by
  have HM := Aside0.mk h
  obtain ⟨A1, c1, A2, c2, hm, h1, h2, h3, h4⟩ := h.row
  have hum := Try.underlying73
  have huv := Try.underlying54
  have hut := Try.underlying30
  have hul := Try.underlying22
  have hc : w.cell? ⟨gm, 2, none⟩ = some (.slice A0 l.length c0) := (blk_cell hm 2).trans rfl
  have hnl := (List.getElem?_eq_some_iff.1 hst).1
  have hn0 : (0 : Int) ≤ (n : Int) := by omega
  have hn1 : (n : Int) < (l.length : Int) := by omega
  obtain ⟨ad, e1, x0, x1, x2, x3, x4, x5, x6, x7⟩ := at_Stmt (Kd.C_below hl h.bel) hst
  cases e1
  have hab : (ad.add (n * 8)).block < w.heap.size := World.block_lt_of_cell? _ _ x0
  have hgm : gm < w.heap.size := World.block_lt_of_cell? _ _ hc
  have n0 : ¬ w.heap.size = gm := by omega
  have n1 : ¬ w.heap.size + 1 = gm := by omega
  have n2 : ¬ w.heap.size + 1 + 1 = gm := by omega
  clear h hm h1 h2 h3 h4 hl hst
  go_enter Try.func70, Try.ntmps70
  have hb := fun o => below_alloc (below_alloc (below_alloc (Below.refl w.heap.size w) (.cells #[.string ⟨#[]⟩, .int .i64 0, .int .i64 0, .bool false] 54)) (.cells #[.int .i64 5, .string st.x, .string st.y, .string st.z, .string st.op, .int .i64 st.n, .int .i64 st.a, .int .i64 st.b] 30)) o
  have qf : ∀ (W : World) (a b c d : Value), (Instr.field 54 (.agg #[a, b, c, d]) 1).run Try.prog W = .ok b W := fun _ _ _ _ _ => rfl
  go_wp2_with (go_at_call 74; go_must (refine (of_named w0 N _ gm _ c0 l ins ora u vs (HM.out.below (hb _)) st.y hy).mono ?_); rintro e w1 ⟨rfl, hB⟩; obtain ⟨hcc, hff⟩ := vcell hB)
  have hN := HM.out.N_w
  have hz : w.heap.size + 1 + 1 + 1 ≤ w1.heap.size := by have := hB.size; simpa using this
  have hM := (HM.out.below (hb (.cells #[.string st.x, .int .i64 0, .int .i64 n, .bool false] 54))).below hB
  have k0 : w1.cell? ⟨w.heap.size, 0, none⟩ = some (.string ⟨#[]⟩) := by rw [hcc _ _ (by simp; omega)]; go_simp
  have k1 : w1.cell? ⟨w.heap.size, 1, none⟩ = some (.int .i64 0) := by rw [hcc _ _ (by simp; omega)]; go_simp
  have k2 : w1.cell? ⟨w.heap.size, 2, none⟩ = some (.int .i64 0) := by rw [hcc _ _ (by simp; omega)]; go_simp
  have k3 : w1.cell? ⟨w.heap.size, 3, none⟩ = some (.bool false) := by rw [hcc _ _ (by simp; omega)]; go_simp
  have hw : w.grownBy w1 (some gm) := grown_trans (grown_allocs (hb _)) (grown_allocs hB)
  exact bodyPost_ret (v := .agg #[.string st.x, .int .i64 (getV vs st.y).n, .int .i64 n, .bool false]) (by simp [results, Try.results70, go_sem, k0, k1, k2, k3]) rfl ⟨rfl, Mach.far (Mach.far (Mach.far (Mach.far (Mach.far hM (by omega) _ _) (by omega) _ _) (by omega) _ _) (by omega) _ _) (by omega) _ _, grown_far (grown_far (grown_far (grown_far (grown_far hw (by omega) _ _) (by omega) _ _) (by omega) _ _) (by omega) _ _) (by omega) _ _⟩
end
end Go.Proofs.Ytnepgcbgkhikkaa.H
namespace Go.Proofs.Ytnepgcbgkhikkaa.H
open Go.RowKit Go.Proofs.YtnepgcbgkhikkaaW.PrintWords Go.Proofs.YtnepgcbgkhikkaaW.PrintLast Go.Proofs.YtnepgcbgkhikkaaW.PrintMore
attribute [local go_sem] max2_int min2_int max_two min_two max_three min_three max_four min_four
set_option linter.unusedVariables false
set_option linter.unusedSimpArgs false
def interp_bit.f (a0 : Bool) : Option (Int) := if a0 = true then (some 1) else (some 0)
set_option maxHeartbeats 8000000 in
set_option maxRecDepth 100000 in
theorem interp_bit.calls (a0 : Bool) (r : Int) (w : World) (h : interp_bit.f a0 = some r) :
  Calls Try.prog 105 #[.bool a0] w fun e w' => e = .returned (.int .i64 r) ∧ Drawn0 w w' := by
 have H : (if a0 = true then (some 1) else (some 0)) = some r := h
 clear h
 by_cases c2 : a0 = true
 ·subst c2
  have H1 : (some 1) = some r := by rw [if_pos rfl] at H; exact H
  clear H
  have H := H1
  clear H1
  obtain rfl := Option.some.inj H
  go_enter Try.func105, Try.ntmps105
  go_wp2
  go_ret
  exact ⟨by first | rfl | (simp; done) | (simp [*]; done), by repeat (first | exact Drawn0.refl _ | apply Drawn0.step)⟩
 ·replace c2 := Bool.eq_false_iff.mpr c2
  subst c2
  have H1 : (some 0) = some r := by rw [if_neg (show ¬ (false = true) by decide)] at H; exact H
  clear H
  have H := H1
  clear H1
  obtain rfl := Option.some.inj H
  go_enter Try.func105, Try.ntmps105
  go_wp2
  go_ret
  exact ⟨by first | rfl | (simp; done) | (simp [*]; done), by repeat (first | exact Drawn0.refl _ | apply Drawn0.step)⟩
end Go.Proofs.Ytnepgcbgkhikkaa.H
namespace Go.Proofs.Ytnepgcbgkhikkaa.H
open Go.RowKit Go.Proofs.YtnepgcbgkhikkaaW.PrintWords Go.Proofs.YtnepgcbgkhikkaaW.PrintLast Go.Proofs.YtnepgcbgkhikkaaW.PrintMore
attribute [local go_sem] max2_int min2_int max_two min_two max_three min_three max_four min_four
set_option linter.unusedVariables false
set_option linter.unusedSimpArgs false
def interp_operated.f (a0 : ByteArray) (a1 : Int) (a2 : Int) : Option (Int) := if a0.toList = ([43] : List UInt8) then (some (wrap64 (a1 + a2))) else (if a0.toList = ([45] : List UInt8) then (some (wrap64 (a1 - a2))) else (if a0.toList = ([42] : List UInt8) then (some (wrap64 (a1 * a2))) else (if a0.toList = ([60] : List UInt8) then ((interp_bit.f (decide (a1 < a2))).bind fun t101 => (some t101)) else (if a0.toList = ([61] : List UInt8) then ((interp_bit.f (a1 == a2)).bind fun t102 => (some t102)) else (some 0)))))
set_option maxHeartbeats 8000000 in
set_option maxRecDepth 100000 in
theorem interp_operated.calls (a0 : ByteArray) (a1 : Int) (a2 : Int) (r : Int) (w : World) (h : interp_operated.f a0 a1 a2 = some r) :
  Calls Try.prog 83 #[.string a0, .int .i64 a1, .int .i64 a2] w fun e w' => e = .returned (.int .i64 r) ∧ Drawn0 w w' := by
 have H : (if a0.toList = ([43] : List UInt8) then (some (wrap64 (a1 + a2))) else (if a0.toList = ([45] : List UInt8) then (some (wrap64 (a1 - a2))) else (if a0.toList = ([42] : List UInt8) then (some (wrap64 (a1 * a2))) else (if a0.toList = ([60] : List UInt8) then ((interp_bit.f (decide (a1 < a2))).bind fun t101 => (some t101)) else (if a0.toList = ([61] : List UInt8) then ((interp_bit.f (a1 == a2)).bind fun t102 => (some t102)) else (some 0)))))) = some r := h
 clear h
 by_cases c4 : a0.toList = ([43] : List UInt8)
 ·rw [if_pos c4] at H
  have c4b0 : (a0.toList == ([43] : List UInt8)) = true := beq_iff_eq.mpr c4
  have c4b1 : (a0.toList != ([43] : List UInt8)) = false := bne_eq_false_iff_eq.mpr c4
  clear c4
  obtain rfl := Option.some.inj H
  go_enter Try.func83, Try.ntmps83
  go_wp2
  go_ret
  exact ⟨by first | rfl | (simp; done) | (simp [*]; done), by repeat (first | exact Drawn0.refl _ | apply Drawn0.step)⟩
 ·rw [if_neg c4] at H
  have c4b0 : (a0.toList == ([43] : List UInt8)) = false := beq_eq_false_iff_ne.mpr c4
  have c4b1 : (a0.toList != ([43] : List UInt8)) = true := bne_iff_ne.mpr c4
  by_cases c5 : a0.toList = ([45] : List UInt8)
  ·rw [if_pos c5] at H
   have c5b0 : (a0.toList == ([45] : List UInt8)) = true := beq_iff_eq.mpr c5
   have c5b1 : (a0.toList != ([45] : List UInt8)) = false := bne_eq_false_iff_eq.mpr c5
   clear c5
   obtain rfl := Option.some.inj H
   go_enter Try.func83, Try.ntmps83
   go_wp2
   go_ret
   exact ⟨by first | rfl | (simp; done) | (simp [*]; done), by repeat (first | exact Drawn0.refl _ | apply Drawn0.step)⟩
  ·rw [if_neg c5] at H
   have c5b0 : (a0.toList == ([45] : List UInt8)) = false := beq_eq_false_iff_ne.mpr c5
   have c5b1 : (a0.toList != ([45] : List UInt8)) = true := bne_iff_ne.mpr c5
   by_cases c6 : a0.toList = ([42] : List UInt8)
   ·rw [if_pos c6] at H
    have c6b0 : (a0.toList == ([42] : List UInt8)) = true := beq_iff_eq.mpr c6
    have c6b1 : (a0.toList != ([42] : List UInt8)) = false := bne_eq_false_iff_eq.mpr c6
    clear c6
    obtain rfl := Option.some.inj H
    go_enter Try.func83, Try.ntmps83
    go_wp2
    go_ret
    exact ⟨by first | rfl | (simp; done) | (simp [*]; done), by repeat (first | exact Drawn0.refl _ | apply Drawn0.step)⟩
   ·rw [if_neg c6] at H
    have c6b0 : (a0.toList == ([42] : List UInt8)) = false := beq_eq_false_iff_ne.mpr c6
    have c6b1 : (a0.toList != ([42] : List UInt8)) = true := bne_iff_ne.mpr c6
    by_cases c7 : a0.toList = ([60] : List UInt8)
    ·rw [if_pos c7] at H
     have c7b0 : (a0.toList == ([60] : List UInt8)) = true := beq_iff_eq.mpr c7
     have c7b1 : (a0.toList != ([60] : List UInt8)) = false := bne_eq_false_iff_eq.mpr c7
     clear c7
     replace H := Option.bind_eq_some_iff.mp H
     obtain ⟨t101, A80, H⟩ := H
     replace H : (some t101) = some r := H
     have A8 := Aside0.mk A80
     clear A80
     obtain rfl := Option.some.inj H
     go_enter Try.func83, Try.ntmps83
     go_wp2_with (first | ((with_reducible refine gate_callee (f := 105) rfl ?_); refine goesL_ (some 28) rfl rfl Try.func105 (by kernel_rfl) rfl #[.bool (decide (a1 < a2))] rfl (by (try simp only [List.map_toArray, List.map_cons, List.map_nil]); first | done | rfl | (simp only [List.length_drop, List.length_take]; rfl)) ?_; (with_reducible refine (interp_bit.calls (decide (a1 < a2)) t101 _ A8.out).mono ?_); rintro e w' ⟨rfl, ⟨nd, rfl⟩⟩; refine ⟨_, rfl, ?_⟩))
     go_ret
     exact ⟨by first | rfl | (simp; done) | (simp [*]; done), by repeat (first | exact Drawn0.refl _ | apply Drawn0.step)⟩
    ·rw [if_neg c7] at H
     have c7b0 : (a0.toList == ([60] : List UInt8)) = false := beq_eq_false_iff_ne.mpr c7
     have c7b1 : (a0.toList != ([60] : List UInt8)) = true := bne_iff_ne.mpr c7
     by_cases c9 : a0.toList = ([61] : List UInt8)
     ·rw [if_pos c9] at H
      have c9b0 : (a0.toList == ([61] : List UInt8)) = true := beq_iff_eq.mpr c9
      have c9b1 : (a0.toList != ([61] : List UInt8)) = false := bne_eq_false_iff_eq.mpr c9
      clear c9
      replace H := Option.bind_eq_some_iff.mp H
      obtain ⟨t102, A100, H⟩ := H
      replace H : (some t102) = some r := H
      have A10 := Aside0.mk A100
      clear A100
      obtain rfl := Option.some.inj H
      go_enter Try.func83, Try.ntmps83
      go_wp2_with (first | ((with_reducible refine gate_callee (f := 105) rfl ?_); refine goesL_ (some 34) rfl rfl Try.func105 (by kernel_rfl) rfl #[.bool (a1 == a2)] rfl (by (try simp only [List.map_toArray, List.map_cons, List.map_nil]); first | done | rfl | (simp only [List.length_drop, List.length_take]; rfl)) ?_; (with_reducible refine (interp_bit.calls (a1 == a2) t102 _ A10.out).mono ?_); rintro e w' ⟨rfl, ⟨nd, rfl⟩⟩; refine ⟨_, rfl, ?_⟩))
      go_ret
      exact ⟨by first | rfl | (simp; done) | (simp [*]; done), by repeat (first | exact Drawn0.refl _ | apply Drawn0.step)⟩
     ·rw [if_neg c9] at H
      have c9b0 : (a0.toList == ([61] : List UInt8)) = false := beq_eq_false_iff_ne.mpr c9
      have c9b1 : (a0.toList != ([61] : List UInt8)) = true := bne_iff_ne.mpr c9
      obtain rfl := Option.some.inj H
      go_enter Try.func83, Try.ntmps83
      go_wp2
      go_ret
      exact ⟨by first | rfl | (simp; done) | (simp [*]; done), by repeat (first | exact Drawn0.refl _ | apply Drawn0.step)⟩
end Go.Proofs.Ytnepgcbgkhikkaa.H
/- what a copy and an operation give: regions that draw their order -/
namespace Go.Proofs.Ytnepgcbgkhikkaa.H
open Go.RowKit Go.Proofs.YtnepgcbgkhikkaaW.PrintWords Go.Proofs.YtnepgcbgkhikkaaW.PrintLast Go.Proofs.YtnepgcbgkhikkaaW.PrintMore
set_option linter.unusedVariables false
/-- what holds of each world within such a region -/
structure HeldM (w0 : World) (N : Nat) (gm : Nat) (A0 : Option Addr) (c0 : Nat) (l : List Stmt) (ins : List Int) (ora : List Bool) (u : Value) (vs : List Var) (n : Nat) (st : Stmt) (w w' : World) : Prop where
  mach : Mach w0 N w' gm A0 c0 l ins ora u vs
  gr : w.grownBy w' (some gm)
  b4 : w'.heap[w.heap.size]? = some (.cells #[.string ⟨#[]⟩, .int .i64 0, .int .i64 0, .bool false] 54 (0, 0))
  b5 : w'.heap[w.heap.size + 1]? = some (.cells #[.int .i64 st.kind, .string st.x, .string st.y, .string st.z, .string st.op, .int .i64 st.n, .int .i64 st.a, .int .i64 st.b] 30 (0, 0))
  b6 : ∃ a c, w'.heap[w.heap.size + 1 + 1]? = some (.cells #[.string st.x, a, .int .i64 n, c] 54 (0, 0))
  ne : gm < w.heap.size
  nw : N ≤ w.heap.size
abbrev SeesM (w0 : World) (N : Nat) (gm : Nat) (A0 : Option Addr) (c0 : Nat) (l : List Stmt) (ins : List Int) (ora : List Bool) (u : Value) (vs : List Var) (n : Nat) (st : Stmt) (w w' : World) : Prop :=
  HeldM w0 N gm A0 c0 l ins ora u vs n st w w' ∧ w'.cell? ⟨w.heap.size + 1, 2, none⟩ = some (.string st.y) ∧ w'.cell? ⟨w.heap.size + 1, 3, none⟩ = some (.string st.z) ∧ w'.cell? ⟨w.heap.size + 1, 4, none⟩ = some (.string st.op)
section
variable {w0 : World} {N : Nat} {gm : Nat} {A0 : Option Addr} {c0 : Nat} {l : List Stmt} {ins : List Int} {ora : List Bool} {u : Value} {vs : List Var} {n : Nat} {st : Stmt} {w w1 w' : World}
theorem HeldM.sees (h : HeldM w0 N gm A0 c0 l ins ora u vs n st w w') : SeesM w0 N gm A0 c0 l ins ora u vs n st w w' := by
  exact ⟨h, (blk_cell h.b5 2).trans rfl, (blk_cell h.b5 3).trans rfl, (blk_cell h.b5 4).trans rfl⟩
theorem HeldM.below (h : HeldM w0 N gm A0 c0 l ins ora u vs n st w w1) (hb : Below w1.heap.size w1 w') : HeldM w0 N gm A0 c0 l ins ora u vs n st w w' := by
  obtain ⟨a, c, h6⟩ := h.b6
  exact ⟨h.mach.below hb, grown_trans h.gr (grown_allocs hb), blk_below h.b4 hb, blk_below h.b5 hb, ⟨a, c, blk_below h6 hb⟩, h.ne, h.nw⟩
theorem blk_new2 {w : World} {n : Nat} (h : w.heap.size = n) (o : Obj) : (w.alloc o).heap[n]? = some o := by subst h; exact blk_new w o
theorem HeldM.start (h : Mach w0 N w gm A0 c0 l ins ora u vs) (hg : gm < w.heap.size) : HeldM w0 N gm A0 c0 l ins ora u vs n st w (((w.alloc (.cells #[.string ⟨#[]⟩, .int .i64 0, .int .i64 0, .bool false] 54)).alloc (.cells #[.int .i64 st.kind, .string st.x, .string st.y, .string st.z, .string st.op, .int .i64 st.n, .int .i64 st.a, .int .i64 st.b] 30)).alloc (.cells #[.string st.x, .int .i64 0, .int .i64 n, .bool false] 54)) := by
  have hb := below_alloc (below_alloc (below_alloc (Below.refl w.heap.size w) (.cells #[.string ⟨#[]⟩, .int .i64 0, .int .i64 0, .bool false] 54)) (.cells #[.int .i64 st.kind, .string st.x, .string st.y, .string st.z, .string st.op, .int .i64 st.n, .int .i64 st.a, .int .i64 st.b] 30)) (.cells #[.string st.x, .int .i64 0, .int .i64 n, .bool false] 54)
  exact ⟨h.below hb, grown_allocs hb, blk_alloc (blk_alloc (blk_new _ _) _) _, blk_alloc (blk_new2 (by simp) _) _, ⟨_, _, blk_new2 (by simp) _⟩, hg, h.N_w⟩
theorem HeldM.put (h : HeldM w0 N gm A0 c0 l ins ora u vs n st w w1) {j : Nat} (hj : j = 1 ∨ j = 3) (v : Value) : HeldM w0 N gm A0 c0 l ins ora u vs n st w (w1.setCell ⟨w.heap.size + 1 + 1, j, none⟩ v) := by
  obtain ⟨a, c, h6⟩ := h.b6
  have hn := h.nw
  have hf : ∀ k, k ≠ w.heap.size + 1 + 1 → (w1.setCell ⟨w.heap.size + 1 + 1, j, none⟩ v).heap[k]? = w1.heap[k]? := fun k hk => Below.heap_setCell w1 ⟨w.heap.size + 1 + 1, j, none⟩ v k hk
  refine ⟨h.mach.far (by omega) j v, grown_far h.gr (by omega) j v, (hf _ (by omega)).trans h.b4, (hf _ (by omega)).trans h.b5, ?_, h.ne, h.nw⟩
  rcases hj with rfl | rfl
  · exact ⟨v, c, (step_put h6).trans rfl⟩
  · exact ⟨a, v, (step_put h6).trans rfl⟩
theorem HeldM.far (h : HeldM w0 N gm A0 c0 l ins ora u vs n st w w') : ∃ a c, (w'.cell? ⟨w.heap.size + 1 + 1, 0, none⟩ = some (.string st.x) ∧ w'.cell? ⟨w.heap.size + 1 + 1, 1, none⟩ = some a ∧ w'.cell? ⟨w.heap.size + 1 + 1, 2, none⟩ = some (.int .i64 n) ∧ w'.cell? ⟨w.heap.size + 1 + 1, 3, none⟩ = some c) ∧
    (∀ o, w'.frozen? ⟨w.heap.size + 1 + 1, o, none⟩ = false) ∧ (∀ o, w'.frozen? ⟨w.heap.size, o, none⟩ = false) ∧ w'.cell? ⟨w.heap.size, 0, none⟩ = some (.string ⟨#[]⟩) ∧ w'.cell? ⟨w.heap.size, 1, none⟩ = some (.int .i64 0) ∧ w'.cell? ⟨w.heap.size, 2, none⟩ = some (.int .i64 0) ∧ w'.cell? ⟨w.heap.size, 3, none⟩ = some (.bool false) := by
  obtain ⟨a, c, h6⟩ := h.b6
  exact ⟨a, c, ⟨(blk_cell h6 0).trans rfl, (blk_cell h6 1).trans rfl, (blk_cell h6 2).trans rfl, (blk_cell h6 3).trans rfl⟩, fun o => blk_frozen h6 o, fun o => blk_frozen h.b4 o, (blk_cell h.b4 0).trans rfl, (blk_cell h.b4 1).trans rfl, (blk_cell h.b4 2).trans rfl, (blk_cell h.b4 3).trans rfl⟩
end
section
variable (w0 : World) (N : Nat) (w : World) (gm : Nat) (A0 : Option Addr) (c0 : Nat) (l : List Stmt) (ins : List Int) (ora : List Bool) (u : Value) (vs : List Var) (n : Nat) (st : Stmt)
set_option maxRecDepth 100000 in
set_option maxHeartbeats 4000000 in
theorem made3 (h : Mach w0 N w gm A0 c0 l ins ora u vs) (hl : Kd.C k30 w0 A0 l.length l) (hst : l[n]? = some st) (hk : st.kind = 3) (hy : st.y ∈ vs.map Var.name) :
    Calls Try.prog 70 #[.pointer (some ⟨gm, 0, none⟩), .int .i64 n] w fun e w' => e = .returned (.agg #[.string st.x, .int .i64 ((getV vs st.y).n), .int .i64 n, .bool ((getV vs st.y).taint)]) ∧ Mach w0 N w' gm A0 c0 l (ins) ora u vs ∧ w.grownBy w' (some gm) := by
  have HM := Aside0.mk h
  obtain ⟨A1, c1, A2, c2, hm, h1, h2, h3, h4⟩ := h.row
  have hum := Try.underlying73
  have huv := Try.underlying54
  have hut := Try.underlying30
  have hul := Try.underlying22
  have hc : w.cell? ⟨gm, 2, none⟩ = some (.slice A0 l.length c0) := (blk_cell hm 2).trans rfl
  have hnl := (List.getElem?_eq_some_iff.1 hst).1
  have hn0 : (0 : Int) ≤ (n : Int) := by omega
  have hn1 : (n : Int) < (l.length : Int) := by omega
  obtain ⟨ad, e1, x0, x1, x2, x3, x4, x5, x6, x7⟩ := at_Stmt (Kd.C_below hl h.bel) hst
  cases e1
  have hab : (ad.add (n * 8)).block < w.heap.size := World.block_lt_of_cell? _ _ x0
  have hgm : gm < w.heap.size := World.block_lt_of_cell? _ _ hc
  have n0 : ¬ w.heap.size = gm := by omega
  have n1 : ¬ w.heap.size + 1 = gm := by omega
  have n2 : ¬ w.heap.size + 1 + 1 = gm := by omega
  clear h hm h1 h2 h3 h4 hl hst
  go_enter Try.func70, Try.ntmps70
  have qf1 : ∀ (W : World) (a b c d : Value), (Instr.field 54 (.agg #[a, b, c, d]) 1).run Try.prog W = .ok b W := fun _ _ _ _ _ => rfl
  have qf3 : ∀ (W : World) (a b c d : Value), (Instr.field 54 (.agg #[a, b, c, d]) 3).run Try.prog W = .ok d W := fun _ _ _ _ _ => rfl
  have HK := Aside0.mk (HeldM.start (n := n) (st := st) HM.out hgm)
  rw [hk] at HK
  go_wp2
  go_region_held3 (fun w' => SeesM w0 N gm (some ad) c0 l ins ora u vs n st w w') (first | exact (HeldM.below HK.out (below_drew (Below.refl _ _))).sees | exact (HeldM.below (And.left (by assumption)) (by assumption)).sees | exact (HeldM.put (And.left (by assumption)) (.inl rfl) _).sees | exact (HeldM.put (And.left (by assumption)) (.inr rfl) _).sees) ((go_at_call 74; go_must (refine (of_named w0 N _ gm _ c0 l ins ora u vs (HeldM.mach (And.left (by assumption))) st.y hy).mono ?_); rintro e w1 ⟨rfl, hb⟩; have hh := HeldM.below (And.left (by assumption)) hb; obtain ⟨a6, c6, k6, f6, f4, k40, k41, k42, k43⟩ := hh.far))
  go_wp2
  have hN := HM.out.N_w
  exact bodyPost_ret (v := .agg #[.string st.x, .int .i64 (getV vs st.y).n, .int .i64 n, .bool (getV vs st.y).taint]) (by simp [results, Try.results70, go_sem, k40, k41, k42, k43]) rfl ⟨rfl, Mach.far (Mach.far (Mach.far (Mach.far (Mach.far (Mach.far hh.mach (by omega) _ _) (by omega) _ _) (by omega) _ _) (by omega) _ _) (by omega) _ _) (by omega) _ _, grown_far (grown_far (grown_far (grown_far (grown_far (grown_far hh.gr (by omega) _ _) (by omega) _ _) (by omega) _ _) (by omega) _ _) (by omega) _ _) (by omega) _ _⟩
end
end Go.Proofs.Ytnepgcbgkhikkaa.H
namespace Go.Proofs.Ytnepgcbgkhikkaa.H
open Go.RowKit Go.Proofs.YtnepgcbgkhikkaaW.PrintWords Go.Proofs.YtnepgcbgkhikkaaW.PrintLast Go.Proofs.YtnepgcbgkhikkaaW.PrintMore
abbrev tt : Bool := true
abbrev ff : Bool := false
/-- a table of bools, told as a number -/
def bls : Nat → Nat → List Bool
  | 0, _ => []
  | n + 1, b => (b % 2 == 1) :: bls n (b / 2)
def bl (n b : Nat) : Array Bool := ⟨bls n b⟩
theorem sA {α : Type _} (l : List α) (i : Nat) (a : α) : l.toArray.setIfInBounds i a = (l.set i a).toArray := List.setIfInBounds_toArray ..
theorem sZ {α : Type _} {xs : List α} {a b : α} : (a :: xs).set 0 b = b :: xs := List.set_cons_zero
theorem sS {α : Type _} {xs : List α} {n : Nat} {a b : α} : (a :: xs).set (n + 1) b = a :: xs.set n b := List.set_cons_succ
theorem am {p : Prop} (h : p) : Aside0 p := Aside0.mk h
abbrev Va := @Kd.V_alloc
abbrev Vn := @Kd.V_drewN
abbrev Vd := @Kd.V_drew
abbrev Ra := @Kd.R_alloc
abbrev Rn := @Kd.R_drewN
abbrev Rd := @Kd.R_drew
abbrev bN := @blk_drewN
abbrev bD := @blk_drew
abbrev bA := @blk_alloc
abbrev lA := @below_alloc
abbrev lN := @pw_below_drewN
abbrev lD := @below_drew1
abbrev lS := @below_set
end Go.Proofs.Ytnepgcbgkhikkaa.H
/- what an operation gives -/
namespace Go.Proofs.Ytnepgcbgkhikkaa.H
open Go.RowKit Go.Proofs.YtnepgcbgkhikkaaW.PrintWords Go.Proofs.YtnepgcbgkhikkaaW.PrintLast Go.Proofs.YtnepgcbgkhikkaaW.PrintMore
set_option linter.unusedVariables false
section
variable {w0 : World} {N : Nat} {gm : Nat} {A0 : Option Addr} {c0 : Nat} {l : List Stmt} {ins : List Int} {ora : List Bool} {u : Value} {vs : List Var} {n : Nat} {st : Stmt} {w w1 w' : World}
theorem HeldM.size (h : HeldM w0 N gm A0 c0 l ins ora u vs n st w w1) : w.heap.size + 1 + 1 < w1.heap.size := by
  obtain ⟨a, c, h6⟩ := h.b6
  exact blk_lt h6
theorem HeldM.put1 (h : HeldM w0 N gm A0 c0 l ins ora u vs n st w w1) {b : Nat} (hb : w.heap.size + 1 + 1 < b) (j : Nat) (v : Value) : HeldM w0 N gm A0 c0 l ins ora u vs n st w (w1.setCell ⟨b, j, none⟩ v) := by
  obtain ⟨a, c, h6⟩ := h.b6
  have hn := h.nw
  have hf : ∀ k, k ≠ b → (w1.setCell ⟨b, j, none⟩ v).heap[k]? = w1.heap[k]? := fun k hk => Below.heap_setCell w1 ⟨b, j, none⟩ v k hk
  exact ⟨h.mach.far (by omega) j v, grown_far h.gr (by omega) j v, (hf _ (by omega)).trans h.b4, (hf _ (by omega)).trans h.b5, ⟨a, c, (hf _ (by omega)).trans h6⟩, h.ne, h.nw⟩
theorem HeldM.alloc (h : HeldM w0 N gm A0 c0 l ins ora u vs n st w w1) (o : Obj) : HeldM w0 N gm A0 c0 l ins ora u vs n st w (w1.alloc o) := h.below (below_alloc (Below.refl _ _) o)
theorem HeldM.drew (h : HeldM w0 N gm A0 c0 l ins ora u vs n st w w1) : HeldM w0 N gm A0 c0 l ins ora u vs n st w w1.drew := h.below (below_drew (Below.refl _ _))
theorem HeldM.put4 (h : HeldM w0 N gm A0 c0 l ins ora u vs n st w w1) {b : Nat} (hb : w.heap.size + 1 + 1 < b) (v0 v1 v2 v3 : Value) : HeldM w0 N gm A0 c0 l ins ora u vs n st w ((((w1.setCell ⟨b, 0, none⟩ v0).setCell ⟨b, 1, none⟩ v1).setCell ⟨b, 2, none⟩ v2).setCell ⟨b, 3, none⟩ v3) :=
  (((h.put1 hb 0 v0).put1 hb 1 v1).put1 hb 2 v2).put1 hb 3 v3
abbrev Sees14 (w0 : World) (N : Nat) (gm : Nat) (A0 : Option Addr) (c0 : Nat) (l : List Stmt) (ins : List Int) (ora : List Bool) (u : Value) (vs : List Var) (n : Nat) (st : Stmt) (w : World) (b7 b8 : Nat) (ty : Bool) (w' : World) : Prop :=
  (HeldM w0 N gm A0 c0 l ins ora u vs n st w w' ∧ w.heap.size + 1 + 1 < b7 ∧ w.heap.size + 1 + 1 < b8) ∧ w'.cell? ⟨w.heap.size + 1, 4, none⟩ = some (.string st.op) ∧
  w'.cell? ⟨b7, 1, none⟩ = some (.int .i64 (getV vs st.y).n) ∧ w'.cell? ⟨b7, 3, none⟩ = some (.bool ty) ∧ w'.cell? ⟨b8, 1, none⟩ = some (.int .i64 (getV vs st.z).n) ∧ w'.cell? ⟨b8, 3, none⟩ = some (.bool (getV vs st.z).taint)
theorem Sees14.mk {b7 b8 : Nat} {ty : Bool} (h : HeldM w0 N gm A0 c0 l ins ora u vs n st w w') (h7 : w.heap.size + 1 + 1 < b7) (h8 : w.heap.size + 1 + 1 < b8)
    (hc : w'.cell? ⟨b7, 1, none⟩ = some (.int .i64 (getV vs st.y).n) ∧ w'.cell? ⟨b7, 3, none⟩ = some (.bool ty) ∧ w'.cell? ⟨b8, 1, none⟩ = some (.int .i64 (getV vs st.z).n) ∧ w'.cell? ⟨b8, 3, none⟩ = some (.bool (getV vs st.z).taint)) :
    Sees14 w0 N gm A0 c0 l ins ora u vs n st w b7 b8 ty w' := ⟨⟨h, h7, h8⟩, h.sees.2.2.2, hc⟩
theorem Sees14.below {b7 b8 : Nat} {ty : Bool} (h : Sees14 w0 N gm A0 c0 l ins ora u vs n st w b7 b8 ty w1) (hb : Below w1.heap.size w1 w') : Sees14 w0 N gm A0 c0 l ins ora u vs n st w b7 b8 ty w' :=
  Sees14.mk (h.1.1.below hb) h.1.2.1 h.1.2.2 ⟨Below.old hb h.2.2.1, Below.old hb h.2.2.2.1, Below.old hb h.2.2.2.2.1, Below.old hb h.2.2.2.2.2⟩
theorem Sees14.put {b7 b8 : Nat} {ty : Bool} (h : Sees14 w0 N gm A0 c0 l ins ora u vs n st w b7 b8 ty w1) {j : Nat} (hj : j = 1 ∨ j = 3) (v : Value) : Sees14 w0 N gm A0 c0 l ins ora u vs n st w b7 b8 ty (w1.setCell ⟨w.heap.size + 1 + 1, j, none⟩ v) := by
  obtain ⟨⟨h1, h7, h8⟩, h2, h3, h4, h5, h6⟩ := h
  have hf : ∀ b o, w.heap.size + 1 + 1 < b → (w1.setCell ⟨w.heap.size + 1 + 1, j, none⟩ v).cell? ⟨b, o, none⟩ = w1.cell? ⟨b, o, none⟩ := fun b o hb => World.cell?_setCell_other _ _ _ _ (by intro e; injection e with e; omega)
  exact Sees14.mk (h1.put hj v) h7 h8 ⟨(hf _ _ h7).trans h3, (hf _ _ h7).trans h4, (hf _ _ h8).trans h5, (hf _ _ h8).trans h6⟩
end
section
variable (w0 : World) (N : Nat) (w : World) (gm : Nat) (A0 : Option Addr) (c0 : Nat) (l : List Stmt) (ins : List Int) (ora : List Bool) (u : Value) (vs : List Var) (n : Nat) (st : Stmt)
set_option maxRecDepth 100000 in
set_option maxHeartbeats 4000000 in
theorem made2 (h : Mach w0 N w gm A0 c0 l ins ora u vs) (hl : Kd.C k30 w0 A0 l.length l) (hst : l[n]? = some st) (hk : st.kind = 2) (hy : st.y ∈ vs.map Var.name) (hz : st.z ∈ vs.map Var.name) (r : Int) (ho : interp_operated.f st.op (getV vs st.y).n (getV vs st.z).n = some r) :
    Calls Try.prog 70 #[.pointer (some ⟨gm, 0, none⟩), .int .i64 n] w fun e w' => e = .returned (.agg #[.string st.x, .int .i64 (r), .int .i64 n, .bool ((or (getV vs st.y).taint (getV vs st.z).taint))]) ∧ Mach w0 N w' gm A0 c0 l (ins) ora u vs ∧ w.grownBy w' (some gm) := by
  have HM := Aside0.mk h
  obtain ⟨A1, c1, A2, c2, hm, h1, h2, h3, h4⟩ := h.row
  have hum := Try.underlying73
  have huv := Try.underlying54
  have hut := Try.underlying30
  have hul := Try.underlying22
  have hc : w.cell? ⟨gm, 2, none⟩ = some (.slice A0 l.length c0) := (blk_cell hm 2).trans rfl
  have hnl := (List.getElem?_eq_some_iff.1 hst).1
  have hn0 : (0 : Int) ≤ (n : Int) := by omega
  have hn1 : (n : Int) < (l.length : Int) := by omega
  obtain ⟨ad, e1, x0, x1, x2, x3, x4, x5, x6, x7⟩ := at_Stmt (Kd.C_below hl h.bel) hst
  cases e1
  have hab : (ad.add (n * 8)).block < w.heap.size := World.block_lt_of_cell? _ _ x0
  have hgm : gm < w.heap.size := World.block_lt_of_cell? _ _ hc
  have n0 : ¬ w.heap.size = gm := by omega
  have n1 : ¬ w.heap.size + 1 = gm := by omega
  have n2 : ¬ w.heap.size + 1 + 1 = gm := by omega
  clear h hm h1 h2 h3 h4 hl hst
  go_enter Try.func70, Try.ntmps70
  have HK := Aside0.mk (HeldM.start (n := n) (st := st) HM.out hgm)
  rw [hk] at HK
  have HO := Aside0.mk ho
  clear ho
  go_wp2
  go_cut [7, 8] (fun v7 v8 wc => ∃ b7 b8 : Nat, v7 = .pointer (some ⟨b7, 0, none⟩) ∧ v8 = .pointer (some ⟨b8, 0, none⟩) ∧ Aside0 (HeldM w0 N gm (some ad) c0 l ins ora u vs n st w wc) ∧ Aside0 (w.heap.size + 1 + 1 < b7) ∧ Aside0 (w.heap.size + 1 + 1 < b8) ∧
    Aside0 (wc.cell? ⟨b7, 1, none⟩ = some (.int .i64 (getV vs st.y).n) ∧ wc.cell? ⟨b7, 3, none⟩ = some (.bool (getV vs st.y).taint) ∧ wc.cell? ⟨b8, 1, none⟩ = some (.int .i64 (getV vs st.z).n) ∧ wc.cell? ⟨b8, 3, none⟩ = some (.bool (getV vs st.z).taint)))
  case first =>
    go_region_held3 (fun w' => SeesM w0 N gm (some ad) c0 l ins ora u vs n st w w') ((refine HeldM.sees ?_; repeat (with_reducible first | assumption | exact HK.out | apply HeldM.alloc | apply HeldM.drew | refine HeldM.put1 ?_ (by omega) _ _ | exact And.left (by assumption)))) ((go_at_call 74; go_must (refine (of_named w0 N _ gm _ c0 l ins ora u vs (HeldM.mach (And.left (by assumption))) _ (by first | exact hy | exact hz)).mono ?_); rintro e w1 ⟨rfl, hb⟩; have hh := HeldM.below (And.left (by assumption)) hb; have hs := hh.size; obtain ⟨hcc, hff⟩ := vcell hb; have hlt := fun k hk => Nat.lt_of_lt_of_le (n := k) hk hb.size; have hsz := hb.size; (try simp at hsz); (try have g3 := fun j => hcc (w.heap.size + 1 + 1 + 1) j (by first | (simp; done) | (simp; omega) | omega)); (try have f3 := fun j => hff (w.heap.size + 1 + 1 + 1) j (by first | (simp; done) | (simp; omega) | omega)); (try have l3 : w.heap.size + 1 + 1 + 1 < w1.heap.size := by omega); (try have g4 := fun j => hcc (w.heap.size + 1 + 1 + 1 + 1) j (by first | (simp; done) | (simp; omega) | omega)); (try have f4 := fun j => hff (w.heap.size + 1 + 1 + 1 + 1) j (by first | (simp; done) | (simp; omega) | omega)); (try have l4 : w.heap.size + 1 + 1 + 1 + 1 < w1.heap.size := by omega)))
    all_goals (try go_wp2)
    all_goals go_meet
    all_goals (refine ⟨_, _, rfl, rfl, ⟨?_⟩, ⟨?_⟩, ⟨?_⟩, ⟨?_, ?_, ?_, ?_⟩⟩)
    all_goals first
      | (with_reducible exact And.left (by assumption))
      | omega
      | (go_simp; done)
      | (simp (maxDischargeDepth := 8) [go_sem, hcc, hlt]; done)
      | skip
  case rest =>
    obtain ⟨b7, b8, rfl, rfl, HH, L7, L8, HC⟩ := hcut
    have hh := HH.out
    obtain ⟨a6, c6, k6, f6, f4, k40, k41, k42, k43⟩ := hh.far
    have S0 := Aside0.mk (Sees14.mk hh L7.out L8.out HC.out)
    have hN := HM.out.N_w
    cases hty : (getV vs st.y).taint
    case false =>
      rw [hty] at S0
      go_wp2
      go_region_held3 (fun w' => Sees14 w0 N gm (some ad) c0 l ins ora u vs n st w b7 b8 false w') (first | exact (Sees14.below S0.out (below_drew (Below.refl _ _))) | exact (Sees14.below S0.out (pw_below_drewN (Below.refl _ _) _)) | exact (Sees14.put (by assumption) (.inl rfl) _) | exact (Sees14.put (by assumption) (.inr rfl) _) | exact (Sees14.below (by assumption) (pw_below_drewN (Below.refl _ _) _))) ((go_at_call 83; go_must (refine (interp_operated.calls _ _ _ r _ HO.out).mono ?_); rintro e w1 ⟨rfl, nd, rfl⟩))
      all_goals go_wp2
      all_goals exact bodyPost_ret (v := .agg #[.string st.x, .int .i64 r, .int .i64 n, .bool (or (getV vs st.y).taint (getV vs st.z).taint)]) (by simp [results, Try.results70, go_sem, k40, k41, k42, k43, hty]) rfl ⟨rfl, Mach.far (Mach.far (Mach.far (Mach.far (HeldM.mach (And.left (And.left (by assumption)))) (by omega) _ _) (by omega) _ _) (by omega) _ _) (by omega) _ _, grown_far (grown_far (grown_far (grown_far (HeldM.gr (And.left (And.left (by assumption)))) (by omega) _ _) (by omega) _ _) (by omega) _ _) (by omega) _ _⟩
    case true =>
      rw [hty] at S0
      go_wp2
      refine start_ (n := 17) (S := fun w' => Sees14 w0 N gm (some ad) c0 l ins ora u vs n st w b7 b8 true w') (ds := []) (bl 17 0) (by kernel_rfl) rfl rfl (Sees14.below S0.out (below_drew (Below.refl _ _))) (fun hHeld => ?_)
      generalize wc.drew = ww at hHeld ⊢
      clear k6 f6 f4 k40 k41 k42 k43
      obtain ⟨q6, z6, k6, f6, f4, k40, k41, k42, k43⟩ := hHeld.1.1.far
      refine pure_ (i := 0) (N := some 67) (v := ?_) (a' := ?_) (bl 17 1) rfl rfl (by kernel_rfl) (fun _ _ _ h => h) (Or.inl ⟨by rfl, ?_⟩) ?_ ?_
      rotate_left
      · intro w'
        go_simp
        with_reducible rfl
      rotate_left
      · simp only [Act.put, sA, sZ, sS, i64_w, i32_w]
        rfl
      refine pure_ (i := 2) (N := some 69) (v := ?_) (a' := ?_) (bl 17 5) rfl rfl (by kernel_rfl) (fun _ _ _ h => h) (Or.inl ⟨by rfl, ?_⟩) ?_ ?_
      rotate_left
      · intro w'
        go_simp
        with_reducible rfl
      rotate_left
      · simp only [Act.put, sA, sZ, sS, i64_w, i32_w]
        rfl
      refine pure_ (i := 4) (N := some 71) (v := ?_) (a' := ?_) (bl 17 21) rfl rfl (by kernel_rfl) (fun _ _ _ h => h) (Or.inl ⟨by rfl, ?_⟩) ?_ ?_
      rotate_left
      · intro w'
        go_simp
        with_reducible rfl
      rotate_left
      · simp only [Act.put, sA, sZ, sS, i64_w, i32_w]
        rfl
      refine pure_ (i := 7) (N := some 74) (v := ?_) (a' := ?_) (bl 17 149) rfl rfl (by kernel_rfl) (fun _ _ _ h => h) (Or.inl ⟨by rfl, ?_⟩) ?_ ?_
      rotate_left
      · intro w'
        go_simp
        with_reducible rfl
      rotate_left
      · simp only [Act.put, sA, sZ, sS, i64_w, i32_w]
        rfl
      refine take_ (i := 1) (N := some 68) (v := ?_) (a' := ?_) (bl 17 151) rfl rfl (by kernel_rfl) (fun _ _ _ h => h) (Or.inl ⟨by rfl, ?_⟩) hHeld ?_ ?_
      rotate_left
      · intro w' hSw
        (try dsimp only at hSw)
        go_split_ands
        go_simp
        with_reducible rfl
      rotate_left
      · simp only [Act.put, sA, sZ, sS, i64_w, i32_w]
        rfl
      refine take_ (i := 3) (N := some 70) (v := ?_) (a' := ?_) (bl 17 159) rfl rfl (by kernel_rfl) (fun _ _ _ h => h) (Or.inl ⟨by rfl, ?_⟩) hHeld ?_ ?_
      rotate_left
      · intro w' hSw
        (try dsimp only at hSw)
        go_split_ands
        go_simp
        with_reducible rfl
      rotate_left
      · simp only [Act.put, sA, sZ, sS, i64_w, i32_w]
        rfl
      refine take_ (i := 5) (N := some 72) (v := ?_) (a' := ?_) (bl 17 191) rfl rfl (by kernel_rfl) (fun _ _ _ h => h) (Or.inl ⟨by rfl, ?_⟩) hHeld ?_ ?_
      rotate_left
      · intro w' hSw
        (try dsimp only at hSw)
        go_split_ands
        go_simp
        with_reducible rfl
      rotate_left
      · simp only [Act.put, sA, sZ, sS, i64_w, i32_w]
        rfl
      refine take_ (i := 8) (N := some 75) (v := ?_) (a' := ?_) (bl 17 447) rfl rfl (by kernel_rfl) (fun _ _ _ h => h) (Or.inl ⟨by rfl, ?_⟩) hHeld ?_ ?_
      rotate_left
      · intro w' hSw
        (try dsimp only at hSw)
        go_split_ands
        go_simp
        with_reducible rfl
      rotate_left
      · simp only [Act.put, sA, sZ, sS, i64_w, i32_w]
        rfl
      refine one_ (i := 6) (N := some 73) (bl 17 511) rfl rfl (by kernel_rfl) (by decide) (fun K hK => ?_)
      refine goes_ Try.func83 (by kernel_rfl) rfl #[.string st.op, .int .i64 (getV vs st.y).n, .int .i64 (getV vs st.z).n] (by rfl) rfl rfl (by (try simp only [List.map_toArray, List.map_cons, List.map_nil]); first | done | rfl) ?_
      refine (interp_operated.calls _ _ _ r _ HO.out).mono ?_
      rintro e w1 ⟨rfl, nd, rfl⟩
      refine ⟨_, rfl, ?_⟩
      refine hK.out _ _ (Sees14.below hHeld (pw_below_drewN (Below.refl _ _) _)) (fun hHeld => ?_)
      clear hK K
      refine norm_ (a' := ?_) ?_ ?_
      rotate_left
      · show Act.put _ (some 73) _ = _
        simp only [Act.put, sA, sZ, sS, i64_w, i32_w]
        rfl
      refine pure_ (i := 9) (N := some 76) (v := ?_) (a' := ?_) (bl 17 1023) rfl rfl (by kernel_rfl) (fun _ _ _ h => h) (Or.inl ⟨by rfl, ?_⟩) ?_ ?_
      rotate_left
      · intro w'
        go_simp
        with_reducible rfl
      rotate_left
      · simp only [Act.put, sA, sZ, sS, i64_w, i32_w]
        rfl
      refine pure_ (i := 10) (N := some 77) (v := undef) (a' := ?_) (bl 17 2047) rfl rfl (by kernel_rfl) (fun _ _ _ h => h) (Or.inr ⟨by rfl, rfl⟩) ?_ ?_
      rotate_left
      · simp only [Act.put, sA, sZ, sS, i64_w, i32_w]
        rfl
      refine pure_ (i := 11) (N := some 78) (v := undef) (a' := ?_) (bl 17 4095) rfl rfl (by kernel_rfl) (fun _ _ _ h => h) (Or.inr ⟨by rfl, rfl⟩) ?_ ?_
      rotate_left
      · simp only [Act.put, sA, sZ, sS, i64_w, i32_w]
        rfl
      refine pure_ (i := 12) (N := some 79) (v := ?_) (a' := ?_) (bl 17 8191) rfl rfl (by kernel_rfl) (fun _ _ _ h => h) (Or.inl ⟨by rfl, ?_⟩) ?_ ?_
      rotate_left
      · intro w'
        go_simp
        with_reducible rfl
      rotate_left
      · simp only [Act.put, sA, sZ, sS, i64_w, i32_w]
        rfl
      refine pure_ (i := 13) (N := some 80) (v := ?_) (a' := ?_) (bl 17 16383) rfl rfl (by kernel_rfl) (fun _ _ _ h => h) (Or.inl ⟨by rfl, ?_⟩) ?_ ?_
      rotate_left
      · intro w'
        go_simp
        with_reducible rfl
      rotate_left
      · simp only [Act.put, sA, sZ, sS, i64_w, i32_w]
        rfl
      refine one_ (i := 14) (N := none) (bl 17 32767) rfl rfl (by kernel_rfl) (by decide) (fun K hK => ?_)
      refine skip_ (w1 := ?_) (by rfl) rfl ?_ ?_
      rotate_left
      · go_simp
        rfl
      refine hK.out _ _ (Sees14.put hHeld (.inl rfl) _) (fun hHeld => ?_)
      clear hK K
      refine pure_ (i := 15) (N := some 81) (v := ?_) (a' := ?_) (bl 17 65535) rfl rfl (by kernel_rfl) (fun _ _ _ h => h) (Or.inl ⟨by rfl, ?_⟩) ?_ ?_
      rotate_left
      · intro w'
        go_simp
        with_reducible rfl
      rotate_left
      · simp only [Act.put, sA, sZ, sS, i64_w, i32_w]
        rfl
      refine one_ (i := 16) (N := none) (bl 17 131071) rfl rfl (by kernel_rfl) (by decide) (fun K hK => ?_)
      refine skip_ (w1 := ?_) (by rfl) rfl ?_ ?_
      rotate_left
      · go_simp
        rfl
      refine hK.out _ _ (Sees14.put hHeld (.inr rfl) _) (fun hHeld => ?_)
      clear hK K
      refine done_ (by kernel_rfl) ?_
      all_goals go_wp2
      all_goals exact bodyPost_ret (v := .agg #[.string st.x, .int .i64 r, .int .i64 n, .bool (or (getV vs st.y).taint (getV vs st.z).taint)]) (by simp [results, Try.results70, go_sem, k40, k41, k42, k43, hty]) rfl ⟨rfl, Mach.far (Mach.far (Mach.far (Mach.far (HeldM.mach (And.left (And.left (by assumption)))) (by omega) _ _) (by omega) _ _) (by omega) _ _) (by omega) _ _, grown_far (grown_far (grown_far (grown_far (HeldM.gr (And.left (And.left (by assumption)))) (by omega) _ _) (by omega) _ _) (by omega) _ _) (by omega) _ _⟩
end
end Go.Proofs.Ytnepgcbgkhikkaa.H
namespace Go.Proofs.Ytnepgcbgkhikkaa.H
open Go.RowKit Go.Proofs.YtnepgcbgkhikkaaW.PrintWords Go.Proofs.YtnepgcbgkhikkaaW.PrintLast Go.Proofs.YtnepgcbgkhikkaaW.PrintMore
attribute [local go_sem] max2_int min2_int max_two min_two max_three min_three max_four min_four
set_option linter.unusedVariables false
set_option linter.unusedSimpArgs false
def cfg_Def.f (a0_0 : Int) (a0_1 : ByteArray) (a0_2 : ByteArray) (a0_3 : ByteArray) (a0_4 : ByteArray) (a0_5 : Int) (a0_6 : Int) (a0_7 : Int) : Option (ByteArray × Bool) := if a0_0 = 1 then (some (a0_1, true)) else (if a0_0 = 2 then (some (a0_1, true)) else (if a0_0 = 3 then (some (a0_1, true)) else (if a0_0 = 4 then (some (a0_1, true)) else (if a0_0 = 5 then (some (a0_1, true)) else (some ((⟨#[]⟩ : ByteArray), false))))))
set_option maxHeartbeats 8000000 in
set_option maxRecDepth 100000 in
theorem cfg_Def.calls (a0_0 : Int) (a0_1 : ByteArray) (a0_2 : ByteArray) (a0_3 : ByteArray) (a0_4 : ByteArray) (a0_5 : Int) (a0_6 : Int) (a0_7 : Int) (r1 : ByteArray) (r2 : Bool) (w : World) (h : cfg_Def.f a0_0 a0_1 a0_2 a0_3 a0_4 a0_5 a0_6 a0_7 = some (r1, r2)) :
  Calls Try.prog 20 #[.agg #[.int .i64 a0_0, .string a0_1, .string a0_2, .string a0_3, .string a0_4, .int .i64 a0_5, .int .i64 a0_6, .int .i64 a0_7]] w fun e w' => e = .returned (.tuple #[.string r1, .bool r2]) ∧ Below w.heap.size w w' := by
 have hu30 := Try.underlying30
 have HB := Aside0.mk (Below.refl w.heap.size w)
 have H : (if a0_0 = 1 then (some (a0_1, true)) else (if a0_0 = 2 then (some (a0_1, true)) else (if a0_0 = 3 then (some (a0_1, true)) else (if a0_0 = 4 then (some (a0_1, true)) else (if a0_0 = 5 then (some (a0_1, true)) else (some ((⟨#[]⟩ : ByteArray), false))))))) = some (r1, r2) := h
 clear h
 by_cases c2 : a0_0 = 1
 ·rw [if_pos c2] at H
  have c2b0 : (a0_0 == 1) = true := beq_iff_eq.mpr c2
  have c2b1 : (a0_0 != 1) = false := bne_eq_false_iff_eq.mpr c2
  clear c2
  simp only [Option.some.injEq, Prod.mk.injEq] at H
  obtain ⟨rfl, rfl⟩ := H
  go_enter Try.func20, Try.ntmps20
  go_wp2_with (first | ((with_reducible refine gate_dst (N := 1) rfl ?_); refine box_event ?hg (N := 1) ?hd (cs := #[.int .i64 a0_0, .string a0_1, .string a0_2, .string a0_3, .string a0_4, .int .i64 a0_5, .int .i64 a0_6, .int .i64 a0_7]) (t := 30) ?hr ?_; (case hd => rfl); (case hg => rfl); (case hr => first | (go_simp; done) | (go_simp; rfl)); intro gb101 hg w3 hbox hb; have n0_ := Aside0.mk (below_step (by repeat (first | (with_reducible first | exact HB.out | apply below_alloc | apply pw_below_drewN | apply below_drew1) | exact HB.out)) hb); have n1_ := Aside0.mk (hbox); have n2_ := Aside0.mk ((by rw [hg]; exact (below_size (by repeat (first | (with_reducible first | exact HB.out | apply below_alloc | apply pw_below_drewN | apply below_drew1) | exact HB.out))) : w.heap.size ≤ gb101)); have n3_ := Aside0.mk ((by rw [hg]; exact (below_size (by repeat (first | (with_reducible first | exact HB.out | apply below_alloc | apply pw_below_drewN | apply below_drew1) | exact HB.out))) : w.heap.size ≤ gb101)); clear HB; have HB := n0_; have BK101 := n1_; have GW101 := n2_; have GE101 := n3_; clear n0_ n1_ n2_ n3_; clear hb hbox hg; have hcz4_0 : w3.cell? ⟨gb101, 0, none⟩ = some (.int .i64 a0_0) := (blk_cell BK101.out 0).trans rfl; have hcz4_1 : w3.cell? ⟨gb101, 1, none⟩ = some (.string a0_1) := (blk_cell BK101.out 1).trans rfl; have hcz4_2 : w3.cell? ⟨gb101, 2, none⟩ = some (.string a0_2) := (blk_cell BK101.out 2).trans rfl; have hcz4_3 : w3.cell? ⟨gb101, 3, none⟩ = some (.string a0_3) := (blk_cell BK101.out 3).trans rfl; have hcz4_4 : w3.cell? ⟨gb101, 4, none⟩ = some (.string a0_4) := (blk_cell BK101.out 4).trans rfl; have hcz4_5 : w3.cell? ⟨gb101, 5, none⟩ = some (.int .i64 a0_5) := (blk_cell BK101.out 5).trans rfl; have hcz4_6 : w3.cell? ⟨gb101, 6, none⟩ = some (.int .i64 a0_6) := (blk_cell BK101.out 6).trans rfl; have hcz4_7 : w3.cell? ⟨gb101, 7, none⟩ = some (.int .i64 a0_7) := (blk_cell BK101.out 7).trans rfl; have hfz4_0 := blk_frozen BK101.out 0; have hfz4_1 := blk_frozen BK101.out 1; have hfz4_2 := blk_frozen BK101.out 2; have hfz4_3 := blk_frozen BK101.out 3; have hfz4_4 := blk_frozen BK101.out 4; have hfz4_5 := blk_frozen BK101.out 5; have hfz4_6 := blk_frozen BK101.out 6; have hfz4_7 := blk_frozen BK101.out 7))
  go_ret2
  exact ⟨by first | rfl | (simp [errW_none, errW_some] <;> rfl) | (simp [*, errW_none, errW_some] <;> rfl), by repeat (first | (with_reducible first | exact HB.out | apply below_alloc | apply pw_below_drewN | apply below_drew1 | refine below_set ?_ GE101.out) | exact HB.out)⟩
 ·rw [if_neg c2] at H
  have c2b0 : (a0_0 == 1) = false := beq_eq_false_iff_ne.mpr c2
  have c2b1 : (a0_0 != 1) = true := bne_iff_ne.mpr c2
  by_cases c5 : a0_0 = 2
  ·rw [if_pos c5] at H
   have c5b0 : (a0_0 == 2) = true := beq_iff_eq.mpr c5
   have c5b1 : (a0_0 != 2) = false := bne_eq_false_iff_eq.mpr c5
   clear c5
   simp only [Option.some.injEq, Prod.mk.injEq] at H
   obtain ⟨rfl, rfl⟩ := H
   go_enter Try.func20, Try.ntmps20
   go_wp2_with (first | ((with_reducible refine gate_dst (N := 1) rfl ?_); refine box_event ?hg (N := 1) ?hd (cs := #[.int .i64 a0_0, .string a0_1, .string a0_2, .string a0_3, .string a0_4, .int .i64 a0_5, .int .i64 a0_6, .int .i64 a0_7]) (t := 30) ?hr ?_; (case hd => rfl); (case hg => rfl); (case hr => first | (go_simp; done) | (go_simp; rfl)); intro gb101 hg w6 hbox hb; have n0_ := Aside0.mk (below_step (by repeat (first | (with_reducible first | exact HB.out | apply below_alloc | apply pw_below_drewN | apply below_drew1) | exact HB.out)) hb); have n1_ := Aside0.mk (hbox); have n2_ := Aside0.mk ((by rw [hg]; exact (below_size (by repeat (first | (with_reducible first | exact HB.out | apply below_alloc | apply pw_below_drewN | apply below_drew1) | exact HB.out))) : w.heap.size ≤ gb101)); have n3_ := Aside0.mk ((by rw [hg]; exact (below_size (by repeat (first | (with_reducible first | exact HB.out | apply below_alloc | apply pw_below_drewN | apply below_drew1) | exact HB.out))) : w.heap.size ≤ gb101)); clear HB; have HB := n0_; have BK101 := n1_; have GW101 := n2_; have GE101 := n3_; clear n0_ n1_ n2_ n3_; clear hb hbox hg; have hcz7_0 : w6.cell? ⟨gb101, 0, none⟩ = some (.int .i64 a0_0) := (blk_cell BK101.out 0).trans rfl; have hcz7_1 : w6.cell? ⟨gb101, 1, none⟩ = some (.string a0_1) := (blk_cell BK101.out 1).trans rfl; have hcz7_2 : w6.cell? ⟨gb101, 2, none⟩ = some (.string a0_2) := (blk_cell BK101.out 2).trans rfl; have hcz7_3 : w6.cell? ⟨gb101, 3, none⟩ = some (.string a0_3) := (blk_cell BK101.out 3).trans rfl; have hcz7_4 : w6.cell? ⟨gb101, 4, none⟩ = some (.string a0_4) := (blk_cell BK101.out 4).trans rfl; have hcz7_5 : w6.cell? ⟨gb101, 5, none⟩ = some (.int .i64 a0_5) := (blk_cell BK101.out 5).trans rfl; have hcz7_6 : w6.cell? ⟨gb101, 6, none⟩ = some (.int .i64 a0_6) := (blk_cell BK101.out 6).trans rfl; have hcz7_7 : w6.cell? ⟨gb101, 7, none⟩ = some (.int .i64 a0_7) := (blk_cell BK101.out 7).trans rfl; have hfz7_0 := blk_frozen BK101.out 0; have hfz7_1 := blk_frozen BK101.out 1; have hfz7_2 := blk_frozen BK101.out 2; have hfz7_3 := blk_frozen BK101.out 3; have hfz7_4 := blk_frozen BK101.out 4; have hfz7_5 := blk_frozen BK101.out 5; have hfz7_6 := blk_frozen BK101.out 6; have hfz7_7 := blk_frozen BK101.out 7))
   go_ret2
   exact ⟨by first | rfl | (simp [errW_none, errW_some] <;> rfl) | (simp [*, errW_none, errW_some] <;> rfl), by repeat (first | (with_reducible first | exact HB.out | apply below_alloc | apply pw_below_drewN | apply below_drew1 | refine below_set ?_ GE101.out) | exact HB.out)⟩
  ·rw [if_neg c5] at H
   have c5b0 : (a0_0 == 2) = false := beq_eq_false_iff_ne.mpr c5
   have c5b1 : (a0_0 != 2) = true := bne_iff_ne.mpr c5
   by_cases c8 : a0_0 = 3
   ·rw [if_pos c8] at H
    have c8b0 : (a0_0 == 3) = true := beq_iff_eq.mpr c8
    have c8b1 : (a0_0 != 3) = false := bne_eq_false_iff_eq.mpr c8
    clear c8
    simp only [Option.some.injEq, Prod.mk.injEq] at H
    obtain ⟨rfl, rfl⟩ := H
    go_enter Try.func20, Try.ntmps20
    go_wp2_with (first | ((with_reducible refine gate_dst (N := 1) rfl ?_); refine box_event ?hg (N := 1) ?hd (cs := #[.int .i64 a0_0, .string a0_1, .string a0_2, .string a0_3, .string a0_4, .int .i64 a0_5, .int .i64 a0_6, .int .i64 a0_7]) (t := 30) ?hr ?_; (case hd => rfl); (case hg => rfl); (case hr => first | (go_simp; done) | (go_simp; rfl)); intro gb101 hg w9 hbox hb; have n0_ := Aside0.mk (below_step (by repeat (first | (with_reducible first | exact HB.out | apply below_alloc | apply pw_below_drewN | apply below_drew1) | exact HB.out)) hb); have n1_ := Aside0.mk (hbox); have n2_ := Aside0.mk ((by rw [hg]; exact (below_size (by repeat (first | (with_reducible first | exact HB.out | apply below_alloc | apply pw_below_drewN | apply below_drew1) | exact HB.out))) : w.heap.size ≤ gb101)); have n3_ := Aside0.mk ((by rw [hg]; exact (below_size (by repeat (first | (with_reducible first | exact HB.out | apply below_alloc | apply pw_below_drewN | apply below_drew1) | exact HB.out))) : w.heap.size ≤ gb101)); clear HB; have HB := n0_; have BK101 := n1_; have GW101 := n2_; have GE101 := n3_; clear n0_ n1_ n2_ n3_; clear hb hbox hg; have hcz10_0 : w9.cell? ⟨gb101, 0, none⟩ = some (.int .i64 a0_0) := (blk_cell BK101.out 0).trans rfl; have hcz10_1 : w9.cell? ⟨gb101, 1, none⟩ = some (.string a0_1) := (blk_cell BK101.out 1).trans rfl; have hcz10_2 : w9.cell? ⟨gb101, 2, none⟩ = some (.string a0_2) := (blk_cell BK101.out 2).trans rfl; have hcz10_3 : w9.cell? ⟨gb101, 3, none⟩ = some (.string a0_3) := (blk_cell BK101.out 3).trans rfl; have hcz10_4 : w9.cell? ⟨gb101, 4, none⟩ = some (.string a0_4) := (blk_cell BK101.out 4).trans rfl; have hcz10_5 : w9.cell? ⟨gb101, 5, none⟩ = some (.int .i64 a0_5) := (blk_cell BK101.out 5).trans rfl; have hcz10_6 : w9.cell? ⟨gb101, 6, none⟩ = some (.int .i64 a0_6) := (blk_cell BK101.out 6).trans rfl; have hcz10_7 : w9.cell? ⟨gb101, 7, none⟩ = some (.int .i64 a0_7) := (blk_cell BK101.out 7).trans rfl; have hfz10_0 := blk_frozen BK101.out 0; have hfz10_1 := blk_frozen BK101.out 1; have hfz10_2 := blk_frozen BK101.out 2; have hfz10_3 := blk_frozen BK101.out 3; have hfz10_4 := blk_frozen BK101.out 4; have hfz10_5 := blk_frozen BK101.out 5; have hfz10_6 := blk_frozen BK101.out 6; have hfz10_7 := blk_frozen BK101.out 7))
    go_ret2
    exact ⟨by first | rfl | (simp [errW_none, errW_some] <;> rfl) | (simp [*, errW_none, errW_some] <;> rfl), by repeat (first | (with_reducible first | exact HB.out | apply below_alloc | apply pw_below_drewN | apply below_drew1 | refine below_set ?_ GE101.out) | exact HB.out)⟩
   ·rw [if_neg c8] at H
    have c8b0 : (a0_0 == 3) = false := beq_eq_false_iff_ne.mpr c8
    have c8b1 : (a0_0 != 3) = true := bne_iff_ne.mpr c8
    by_cases c11 : a0_0 = 4
    ·rw [if_pos c11] at H
     have c11b0 : (a0_0 == 4) = true := beq_iff_eq.mpr c11
     have c11b1 : (a0_0 != 4) = false := bne_eq_false_iff_eq.mpr c11
     clear c11
     simp only [Option.some.injEq, Prod.mk.injEq] at H
     obtain ⟨rfl, rfl⟩ := H
     go_enter Try.func20, Try.ntmps20
     go_wp2_with (first | ((with_reducible refine gate_dst (N := 1) rfl ?_); refine box_event ?hg (N := 1) ?hd (cs := #[.int .i64 a0_0, .string a0_1, .string a0_2, .string a0_3, .string a0_4, .int .i64 a0_5, .int .i64 a0_6, .int .i64 a0_7]) (t := 30) ?hr ?_; (case hd => rfl); (case hg => rfl); (case hr => first | (go_simp; done) | (go_simp; rfl)); intro gb101 hg w12 hbox hb; have n0_ := Aside0.mk (below_step (by repeat (first | (with_reducible first | exact HB.out | apply below_alloc | apply pw_below_drewN | apply below_drew1) | exact HB.out)) hb); have n1_ := Aside0.mk (hbox); have n2_ := Aside0.mk ((by rw [hg]; exact (below_size (by repeat (first | (with_reducible first | exact HB.out | apply below_alloc | apply pw_below_drewN | apply below_drew1) | exact HB.out))) : w.heap.size ≤ gb101)); have n3_ := Aside0.mk ((by rw [hg]; exact (below_size (by repeat (first | (with_reducible first | exact HB.out | apply below_alloc | apply pw_below_drewN | apply below_drew1) | exact HB.out))) : w.heap.size ≤ gb101)); clear HB; have HB := n0_; have BK101 := n1_; have GW101 := n2_; have GE101 := n3_; clear n0_ n1_ n2_ n3_; clear hb hbox hg; have hcz13_0 : w12.cell? ⟨gb101, 0, none⟩ = some (.int .i64 a0_0) := (blk_cell BK101.out 0).trans rfl; have hcz13_1 : w12.cell? ⟨gb101, 1, none⟩ = some (.string a0_1) := (blk_cell BK101.out 1).trans rfl; have hcz13_2 : w12.cell? ⟨gb101, 2, none⟩ = some (.string a0_2) := (blk_cell BK101.out 2).trans rfl; have hcz13_3 : w12.cell? ⟨gb101, 3, none⟩ = some (.string a0_3) := (blk_cell BK101.out 3).trans rfl; have hcz13_4 : w12.cell? ⟨gb101, 4, none⟩ = some (.string a0_4) := (blk_cell BK101.out 4).trans rfl; have hcz13_5 : w12.cell? ⟨gb101, 5, none⟩ = some (.int .i64 a0_5) := (blk_cell BK101.out 5).trans rfl; have hcz13_6 : w12.cell? ⟨gb101, 6, none⟩ = some (.int .i64 a0_6) := (blk_cell BK101.out 6).trans rfl; have hcz13_7 : w12.cell? ⟨gb101, 7, none⟩ = some (.int .i64 a0_7) := (blk_cell BK101.out 7).trans rfl; have hfz13_0 := blk_frozen BK101.out 0; have hfz13_1 := blk_frozen BK101.out 1; have hfz13_2 := blk_frozen BK101.out 2; have hfz13_3 := blk_frozen BK101.out 3; have hfz13_4 := blk_frozen BK101.out 4; have hfz13_5 := blk_frozen BK101.out 5; have hfz13_6 := blk_frozen BK101.out 6; have hfz13_7 := blk_frozen BK101.out 7))
     go_ret2
     exact ⟨by first | rfl | (simp [errW_none, errW_some] <;> rfl) | (simp [*, errW_none, errW_some] <;> rfl), by repeat (first | (with_reducible first | exact HB.out | apply below_alloc | apply pw_below_drewN | apply below_drew1 | refine below_set ?_ GE101.out) | exact HB.out)⟩
    ·rw [if_neg c11] at H
     have c11b0 : (a0_0 == 4) = false := beq_eq_false_iff_ne.mpr c11
     have c11b1 : (a0_0 != 4) = true := bne_iff_ne.mpr c11
     by_cases c14 : a0_0 = 5
     ·rw [if_pos c14] at H
      have c14b0 : (a0_0 == 5) = true := beq_iff_eq.mpr c14
      have c14b1 : (a0_0 != 5) = false := bne_eq_false_iff_eq.mpr c14
      clear c14
      simp only [Option.some.injEq, Prod.mk.injEq] at H
      obtain ⟨rfl, rfl⟩ := H
      go_enter Try.func20, Try.ntmps20
      go_wp2_with (first | ((with_reducible refine gate_dst (N := 1) rfl ?_); refine box_event ?hg (N := 1) ?hd (cs := #[.int .i64 a0_0, .string a0_1, .string a0_2, .string a0_3, .string a0_4, .int .i64 a0_5, .int .i64 a0_6, .int .i64 a0_7]) (t := 30) ?hr ?_; (case hd => rfl); (case hg => rfl); (case hr => first | (go_simp; done) | (go_simp; rfl)); intro gb101 hg w15 hbox hb; have n0_ := Aside0.mk (below_step (by repeat (first | (with_reducible first | exact HB.out | apply below_alloc | apply pw_below_drewN | apply below_drew1) | exact HB.out)) hb); have n1_ := Aside0.mk (hbox); have n2_ := Aside0.mk ((by rw [hg]; exact (below_size (by repeat (first | (with_reducible first | exact HB.out | apply below_alloc | apply pw_below_drewN | apply below_drew1) | exact HB.out))) : w.heap.size ≤ gb101)); have n3_ := Aside0.mk ((by rw [hg]; exact (below_size (by repeat (first | (with_reducible first | exact HB.out | apply below_alloc | apply pw_below_drewN | apply below_drew1) | exact HB.out))) : w.heap.size ≤ gb101)); clear HB; have HB := n0_; have BK101 := n1_; have GW101 := n2_; have GE101 := n3_; clear n0_ n1_ n2_ n3_; clear hb hbox hg; have hcz16_0 : w15.cell? ⟨gb101, 0, none⟩ = some (.int .i64 a0_0) := (blk_cell BK101.out 0).trans rfl; have hcz16_1 : w15.cell? ⟨gb101, 1, none⟩ = some (.string a0_1) := (blk_cell BK101.out 1).trans rfl; have hcz16_2 : w15.cell? ⟨gb101, 2, none⟩ = some (.string a0_2) := (blk_cell BK101.out 2).trans rfl; have hcz16_3 : w15.cell? ⟨gb101, 3, none⟩ = some (.string a0_3) := (blk_cell BK101.out 3).trans rfl; have hcz16_4 : w15.cell? ⟨gb101, 4, none⟩ = some (.string a0_4) := (blk_cell BK101.out 4).trans rfl; have hcz16_5 : w15.cell? ⟨gb101, 5, none⟩ = some (.int .i64 a0_5) := (blk_cell BK101.out 5).trans rfl; have hcz16_6 : w15.cell? ⟨gb101, 6, none⟩ = some (.int .i64 a0_6) := (blk_cell BK101.out 6).trans rfl; have hcz16_7 : w15.cell? ⟨gb101, 7, none⟩ = some (.int .i64 a0_7) := (blk_cell BK101.out 7).trans rfl; have hfz16_0 := blk_frozen BK101.out 0; have hfz16_1 := blk_frozen BK101.out 1; have hfz16_2 := blk_frozen BK101.out 2; have hfz16_3 := blk_frozen BK101.out 3; have hfz16_4 := blk_frozen BK101.out 4; have hfz16_5 := blk_frozen BK101.out 5; have hfz16_6 := blk_frozen BK101.out 6; have hfz16_7 := blk_frozen BK101.out 7))
      go_ret2
      exact ⟨by first | rfl | (simp [errW_none, errW_some] <;> rfl) | (simp [*, errW_none, errW_some] <;> rfl), by repeat (first | (with_reducible first | exact HB.out | apply below_alloc | apply pw_below_drewN | apply below_drew1 | refine below_set ?_ GE101.out) | exact HB.out)⟩
     ·rw [if_neg c14] at H
      have c14b0 : (a0_0 == 5) = false := beq_eq_false_iff_ne.mpr c14
      have c14b1 : (a0_0 != 5) = true := bne_iff_ne.mpr c14
      simp only [Option.some.injEq, Prod.mk.injEq] at H
      obtain ⟨rfl, rfl⟩ := H
      go_enter Try.func20, Try.ntmps20
      go_wp2_with (first | ((with_reducible refine gate_dst (N := 1) rfl ?_); refine box_event ?hg (N := 1) ?hd (cs := #[.int .i64 a0_0, .string a0_1, .string a0_2, .string a0_3, .string a0_4, .int .i64 a0_5, .int .i64 a0_6, .int .i64 a0_7]) (t := 30) ?hr ?_; (case hd => rfl); (case hg => rfl); (case hr => first | (go_simp; done) | (go_simp; rfl)); intro gb101 hg w17 hbox hb; have n0_ := Aside0.mk (below_step (by repeat (first | (with_reducible first | exact HB.out | apply below_alloc | apply pw_below_drewN | apply below_drew1) | exact HB.out)) hb); have n1_ := Aside0.mk (hbox); have n2_ := Aside0.mk ((by rw [hg]; exact (below_size (by repeat (first | (with_reducible first | exact HB.out | apply below_alloc | apply pw_below_drewN | apply below_drew1) | exact HB.out))) : w.heap.size ≤ gb101)); have n3_ := Aside0.mk ((by rw [hg]; exact (below_size (by repeat (first | (with_reducible first | exact HB.out | apply below_alloc | apply pw_below_drewN | apply below_drew1) | exact HB.out))) : w.heap.size ≤ gb101)); clear HB; have HB := n0_; have BK101 := n1_; have GW101 := n2_; have GE101 := n3_; clear n0_ n1_ n2_ n3_; clear hb hbox hg; have hcz18_0 : w17.cell? ⟨gb101, 0, none⟩ = some (.int .i64 a0_0) := (blk_cell BK101.out 0).trans rfl; have hcz18_1 : w17.cell? ⟨gb101, 1, none⟩ = some (.string a0_1) := (blk_cell BK101.out 1).trans rfl; have hcz18_2 : w17.cell? ⟨gb101, 2, none⟩ = some (.string a0_2) := (blk_cell BK101.out 2).trans rfl; have hcz18_3 : w17.cell? ⟨gb101, 3, none⟩ = some (.string a0_3) := (blk_cell BK101.out 3).trans rfl; have hcz18_4 : w17.cell? ⟨gb101, 4, none⟩ = some (.string a0_4) := (blk_cell BK101.out 4).trans rfl; have hcz18_5 : w17.cell? ⟨gb101, 5, none⟩ = some (.int .i64 a0_5) := (blk_cell BK101.out 5).trans rfl; have hcz18_6 : w17.cell? ⟨gb101, 6, none⟩ = some (.int .i64 a0_6) := (blk_cell BK101.out 6).trans rfl; have hcz18_7 : w17.cell? ⟨gb101, 7, none⟩ = some (.int .i64 a0_7) := (blk_cell BK101.out 7).trans rfl; have hfz18_0 := blk_frozen BK101.out 0; have hfz18_1 := blk_frozen BK101.out 1; have hfz18_2 := blk_frozen BK101.out 2; have hfz18_3 := blk_frozen BK101.out 3; have hfz18_4 := blk_frozen BK101.out 4; have hfz18_5 := blk_frozen BK101.out 5; have hfz18_6 := blk_frozen BK101.out 6; have hfz18_7 := blk_frozen BK101.out 7))
      go_ret2
      exact ⟨by first | rfl | (simp [errW_none, errW_some] <;> rfl) | (simp [*, errW_none, errW_some] <;> rfl), by repeat (first | (with_reducible first | exact HB.out | apply below_alloc | apply pw_below_drewN | apply below_drew1 | refine below_set ?_ GE101.out) | exact HB.out)⟩
end Go.Proofs.Ytnepgcbgkhikkaa.H
/- a machine's step, kind by kind -/
namespace Go.Proofs.Ytnepgcbgkhikkaa.H
open Go.RowKit Go.Proofs.YtnepgcbgkhikkaaW.PrintWords Go.Proofs.YtnepgcbgkhikkaaW.PrintLast Go.Proofs.YtnepgcbgkhikkaaW.PrintMore
set_option linter.unusedVariables false
section
variable (w0 : World) (N : Nat) (w : World) (gm : Nat) (A0 : Option Addr) (c0 : Nat) (l : List Stmt) (ins : List Int) (ora : List Bool) (u : Value) (vs : List Var) (n : Nat) (st : Stmt)
set_option maxRecDepth 100000 in
set_option maxHeartbeats 4000000 in
theorem step0 (h : Mach w0 N w gm A0 c0 l ins ora u vs) (hl : Kd.C k30 w0 A0 l.length l) (hst : l[n]? = some st) (hd : cfg_Def.f st.kind st.x st.y st.z st.op st.n st.a st.b = some (⟨#[]⟩, false)) (k7 : ¬ st.kind = 7) (k8 : ¬ st.kind = 8) (k9 : ¬ st.kind = 9) :
    Calls Try.prog 56 #[.pointer (some ⟨gm, 0, none⟩), .int .i64 n] w fun e w' => e = .returned (.int .i64 (wrap64 (n + 1))) ∧ Mach w0 N w' gm A0 c0 l ins ora u vs ∧ w.grownBy w' (some gm) := by
  have HM := Aside0.mk h
  have HD := Aside0.mk hd
  obtain ⟨A1, c1, A2, c2, hm, h1, h2, h3, h4⟩ := h.row
  have hum := Try.underlying73
  have huv := Try.underlying54
  have hut := Try.underlying30
  have hul := Try.underlying22
  have hc : w.cell? ⟨gm, 2, none⟩ = some (.slice A0 l.length c0) := (blk_cell hm 2).trans rfl
  have hnl := (List.getElem?_eq_some_iff.1 hst).1
  have hn0 : (0 : Int) ≤ (n : Int) := by omega
  have hn1 : (n : Int) < (l.length : Int) := by omega
  obtain ⟨ad, e1, x0, x1, x2, x3, x4, x5, x6, x7⟩ := at_Stmt (Kd.C_below hl h.bel) hst
  cases e1
  have hab : (ad.add (n * 8)).block < w.heap.size := World.block_lt_of_cell? _ _ x0
  have hgm : gm < w.heap.size := World.block_lt_of_cell? _ _ hc
  clear h hm h1 h2 h3 h4 hl hst hd
  go_enter Try.func56, Try.ntmps56
  have j7 : (st.kind == 7) = false := beq_eq_false_iff_ne.2 k7
  have j8 : (st.kind == 8) = false := beq_eq_false_iff_ne.2 k8
  have j9 : (st.kind == 9) = false := beq_eq_false_iff_ne.2 k9
  go_wp2_with (go_at_call 20; go_must (refine (cfg_Def.calls st.kind st.x st.y st.z st.op st.n st.a st.b _ _ _ HD.out).mono ?_); rintro e w1 ⟨rfl, hB⟩; have b5 := blk_below (blk_new w _) hB; have hs5 := blk_lt b5; have p0 := (blk_cell b5 0).trans rfl; have p2 := (blk_cell b5 2).trans rfl; have p6 := (blk_cell b5 6).trans rfl; have p7 := (blk_cell b5 7).trans rfl)
  go_ret
  have hb := below_alloc (Below.then (below_alloc (Below.refl w.heap.size w) _) hB) (.cells #[.string ⟨#[]⟩] 9)
  exact ⟨rfl, HM.out.below hb, grown_allocs hb⟩
set_option maxRecDepth 100000 in
set_option maxHeartbeats 4000000 in
theorem step8 (h : Mach w0 N w gm A0 c0 l ins ora u vs) (hl : Kd.C k30 w0 A0 l.length l) (hst : l[n]? = some st) (hd : cfg_Def.f st.kind st.x st.y st.z st.op st.n st.a st.b = some (⟨#[]⟩, false)) (hk : st.kind = 8) :
    Calls Try.prog 56 #[.pointer (some ⟨gm, 0, none⟩), .int .i64 n] w fun e w' => e = .returned (.int .i64 (st.a)) ∧ Mach w0 N w' gm A0 c0 l ins ora u vs ∧ w.grownBy w' (some gm) := by
  have HM := Aside0.mk h
  have HD := Aside0.mk hd
  obtain ⟨A1, c1, A2, c2, hm, h1, h2, h3, h4⟩ := h.row
  have hum := Try.underlying73
  have huv := Try.underlying54
  have hut := Try.underlying30
  have hul := Try.underlying22
  have hc : w.cell? ⟨gm, 2, none⟩ = some (.slice A0 l.length c0) := (blk_cell hm 2).trans rfl
  have hnl := (List.getElem?_eq_some_iff.1 hst).1
  have hn0 : (0 : Int) ≤ (n : Int) := by omega
  have hn1 : (n : Int) < (l.length : Int) := by omega
  obtain ⟨ad, e1, x0, x1, x2, x3, x4, x5, x6, x7⟩ := at_Stmt (Kd.C_below hl h.bel) hst
  cases e1
  have hab : (ad.add (n * 8)).block < w.heap.size := World.block_lt_of_cell? _ _ x0
  have hgm : gm < w.heap.size := World.block_lt_of_cell? _ _ hc
  clear h hm h1 h2 h3 h4 hl hst hd
  go_enter Try.func56, Try.ntmps56
  rw [hk] at HD
  go_wp2_with (go_at_call 20; go_must (refine (cfg_Def.calls 8 st.x st.y st.z st.op st.n st.a st.b _ _ _ HD.out).mono ?_); rintro e w1 ⟨rfl, hB⟩; have b5 := blk_below (blk_new w _) hB; have hs5 := blk_lt b5; have p0 := (blk_cell b5 0).trans rfl; have p2 := (blk_cell b5 2).trans rfl; have p6 := (blk_cell b5 6).trans rfl; have p7 := (blk_cell b5 7).trans rfl)
  go_ret
  have hb := below_alloc (Below.then (below_alloc (Below.refl w.heap.size w) _) hB) (.cells #[.string ⟨#[]⟩] 9)
  exact ⟨rfl, HM.out.below hb, grown_allocs hb⟩
set_option maxRecDepth 100000 in
set_option maxHeartbeats 4000000 in
theorem step9 (h : Mach w0 N w gm A0 c0 l ins ora u vs) (hl : Kd.C k30 w0 A0 l.length l) (hst : l[n]? = some st) (hd : cfg_Def.f st.kind st.x st.y st.z st.op st.n st.a st.b = some (⟨#[]⟩, false)) (hk : st.kind = 9) :
    Calls Try.prog 56 #[.pointer (some ⟨gm, 0, none⟩), .int .i64 n] w fun e w' => e = .returned (.int .i64 (-1)) ∧ Mach w0 N w' gm A0 c0 l ins ora u vs ∧ w.grownBy w' (some gm) := by
  have HM := Aside0.mk h
  have HD := Aside0.mk hd
  obtain ⟨A1, c1, A2, c2, hm, h1, h2, h3, h4⟩ := h.row
  have hum := Try.underlying73
  have huv := Try.underlying54
  have hut := Try.underlying30
  have hul := Try.underlying22
  have hc : w.cell? ⟨gm, 2, none⟩ = some (.slice A0 l.length c0) := (blk_cell hm 2).trans rfl
  have hnl := (List.getElem?_eq_some_iff.1 hst).1
  have hn0 : (0 : Int) ≤ (n : Int) := by omega
  have hn1 : (n : Int) < (l.length : Int) := by omega
  obtain ⟨ad, e1, x0, x1, x2, x3, x4, x5, x6, x7⟩ := at_Stmt (Kd.C_below hl h.bel) hst
  cases e1
  have hab : (ad.add (n * 8)).block < w.heap.size := World.block_lt_of_cell? _ _ x0
  have hgm : gm < w.heap.size := World.block_lt_of_cell? _ _ hc
  clear h hm h1 h2 h3 h4 hl hst hd
  go_enter Try.func56, Try.ntmps56
  rw [hk] at HD
  go_wp2_with (go_at_call 20; go_must (refine (cfg_Def.calls 9 st.x st.y st.z st.op st.n st.a st.b _ _ _ HD.out).mono ?_); rintro e w1 ⟨rfl, hB⟩; have b5 := blk_below (blk_new w _) hB; have hs5 := blk_lt b5; have p0 := (blk_cell b5 0).trans rfl; have p2 := (blk_cell b5 2).trans rfl; have p6 := (blk_cell b5 6).trans rfl; have p7 := (blk_cell b5 7).trans rfl)
  go_ret
  have hb := below_alloc (Below.then (below_alloc (Below.refl w.heap.size w) _) hB) (.cells #[.string ⟨#[]⟩] 9)
  exact ⟨rfl, HM.out.below hb, grown_allocs hb⟩
end
end Go.Proofs.Ytnepgcbgkhikkaa.H
/- a machine's step at a branch -/
namespace Go.Proofs.Ytnepgcbgkhikkaa.H
open Go.RowKit Go.Proofs.YtnepgcbgkhikkaaW.PrintWords Go.Proofs.YtnepgcbgkhikkaaW.PrintLast Go.Proofs.YtnepgcbgkhikkaaW.PrintMore
set_option linter.unusedVariables false
/-- the statement's own block, as it stands beside the machine's -/
def StB (st : Stmt) (b : Nat) (w : World) : Prop := w.heap[b]? = some (.cells #[.int .i64 st.kind, .string st.x, .string st.y, .string st.z, .string st.op, .int .i64 st.n, .int .i64 st.a, .int .i64 st.b] 30 (0, 0))
theorem StB.below {st : Stmt} {b : Nat} {w w' : World} (h : StB st b w) (hb : Below w.heap.size w w') : StB st b w' := blk_below h hb
theorem StB.grown {st : Stmt} {b gm : Nat} {w w' : World} (h : StB st b w) (hg : w.grownBy w' (some gm)) (hn : gm ≠ b) : StB st b w' := (hg.block b (blk_lt h) (fun e => hn (Option.some.inj e).symm)).trans h
abbrev SeesB (st : Stmt) (b : Nat) (w : World) : Prop := StB st b w ∧ w.cell? ⟨b, 2, none⟩ = some (.string st.y)
theorem StB.sees {st : Stmt} {b : Nat} {w : World} (h : StB st b w) : SeesB st b w := ⟨h, (blk_cell h 2).trans rfl⟩
section
variable (w0 : World) (N : Nat) (w : World) (gm : Nat) (A0 : Option Addr) (c0 : Nat) (l : List Stmt) (ins : List Int) (ora : List Bool) (u : Value) (vs : List Var) (n : Nat) (st : Stmt)
set_option maxRecDepth 100000 in
set_option maxHeartbeats 4000000 in
theorem step7a (h : Mach w0 N w gm A0 c0 l ins ora u vs) (hl : Kd.C k30 w0 A0 l.length l) (hst : l[n]? = some st) (hd : cfg_Def.f st.kind st.x st.y st.z st.op st.n st.a st.b = some (⟨#[]⟩, false)) (hk : st.kind = 7) (hy : st.y ∈ vs.map Var.name) (hq : ora.headD ((getV vs st.y).n != 0) = true) :
    Calls Try.prog 56 #[.pointer (some ⟨gm, 0, none⟩), .int .i64 n] w fun e w' => e = .returned (.int .i64 (st.a)) ∧ Mach w0 N w' gm A0 c0 l ins ora.tail u vs ∧ w.grownBy w' (some gm) := by
  have HM := Aside0.mk h
  have HD := Aside0.mk hd
  obtain ⟨A1, c1, A2, c2, hm, h1, h2, h3, h4⟩ := h.row
  have hum := Try.underlying73
  have huv := Try.underlying54
  have hut := Try.underlying30
  have hul := Try.underlying22
  have hc : w.cell? ⟨gm, 2, none⟩ = some (.slice A0 l.length c0) := (blk_cell hm 2).trans rfl
  have hnl := (List.getElem?_eq_some_iff.1 hst).1
  have hn0 : (0 : Int) ≤ (n : Int) := by omega
  have hn1 : (n : Int) < (l.length : Int) := by omega
  obtain ⟨ad, e1, x0, x1, x2, x3, x4, x5, x6, x7⟩ := at_Stmt (Kd.C_below hl h.bel) hst
  cases e1
  have hab : (ad.add (n * 8)).block < w.heap.size := World.block_lt_of_cell? _ _ x0
  have hgm : gm < w.heap.size := World.block_lt_of_cell? _ _ hc
  clear h hm h1 h2 h3 h4 hl hst hd
  go_enter Try.func56, Try.ntmps56
  rw [hk] at HD
  have HQ := Aside0.mk hq
  clear hq
  have qf1 : ∀ (W : World) (a b c d : Value), (Instr.field 54 (.agg #[a, b, c, d]) 1).run Try.prog W = .ok b W := fun _ _ _ _ _ => rfl
  go_wp2_with (go_at_call 20; go_must (refine (cfg_Def.calls 7 st.x st.y st.z st.op st.n st.a st.b _ _ _ HD.out).mono ?_); rintro e w1 ⟨rfl, hB⟩; have b5 := blk_below (blk_new w _) hB; have hs5 := blk_lt b5; have p0 := (blk_cell b5 0).trans rfl; have p2 := (blk_cell b5 2).trans rfl; have p6 := (blk_cell b5 6).trans rfl; have p7 := (blk_cell b5 7).trans rfl)
  have hb := below_alloc (Below.then (below_alloc (Below.refl w.heap.size w) _) hB) (.cells #[.string ⟨#[]⟩] 9)
  have HMr := Aside0.mk (HM.out.below hb)
  have HSr : Aside0 (StB st w.heap.size (w1.alloc (.cells #[.string ⟨#[]⟩] 9))) := ⟨blk_alloc (by rw [hk]; exact b5) _⟩
  have hgb : gm ≠ w.heap.size := by omega
  go_region_held3 (fun w' => SeesB st w.heap.size w') (first | exact (StB.below HSr.out (below_drew (Below.refl _ _))).sees | exact (StB.below (And.left (by assumption)) (by assumption)).sees | exact (StB.grown (And.left (by assumption)) (by assumption) hgb).sees) ((first | (go_at_call 74; go_must (refine (of_named w0 N _ gm _ c0 l ins ora u vs (HMr.out.below (below_drew (Below.refl _ _))) st.y hy).mono ?_); rintro e w2 ⟨rfl, hB2⟩; have HM2 := Aside0.mk ((HMr.out.below (below_drew (Below.refl _ _))).below hB2)) | (go_at_call 73; go_must (refine (answer_calls w0 N _ gm _ c0 l ins ora u vs _ HM2.out).mono ?_); rintro e w3 ⟨rfl, hM3, hg3⟩; rw [HQ.out])))
  have hS3 : StB st w.heap.size w3 := And.left (by assumption)
  have q6 := (blk_cell hS3 6).trans rfl
  have q7 := (blk_cell hS3 7).trans rfl
  go_wp2
  go_ret
  exact ⟨rfl, hM3, grown_trans (grown_allocs (Below.then (Below.then hb (below_drew (Below.refl _ _))) hB2)) hg3⟩
set_option maxRecDepth 100000 in
set_option maxHeartbeats 4000000 in
theorem step7b (h : Mach w0 N w gm A0 c0 l ins ora u vs) (hl : Kd.C k30 w0 A0 l.length l) (hst : l[n]? = some st) (hd : cfg_Def.f st.kind st.x st.y st.z st.op st.n st.a st.b = some (⟨#[]⟩, false)) (hk : st.kind = 7) (hy : st.y ∈ vs.map Var.name) (hq : ora.headD ((getV vs st.y).n != 0) = false) :
    Calls Try.prog 56 #[.pointer (some ⟨gm, 0, none⟩), .int .i64 n] w fun e w' => e = .returned (.int .i64 (st.b)) ∧ Mach w0 N w' gm A0 c0 l ins ora.tail u vs ∧ w.grownBy w' (some gm) := by
  have HM := Aside0.mk h
  have HD := Aside0.mk hd
  obtain ⟨A1, c1, A2, c2, hm, h1, h2, h3, h4⟩ := h.row
  have hum := Try.underlying73
  have huv := Try.underlying54
  have hut := Try.underlying30
  have hul := Try.underlying22
  have hc : w.cell? ⟨gm, 2, none⟩ = some (.slice A0 l.length c0) := (blk_cell hm 2).trans rfl
  have hnl := (List.getElem?_eq_some_iff.1 hst).1
  have hn0 : (0 : Int) ≤ (n : Int) := by omega
  have hn1 : (n : Int) < (l.length : Int) := by omega
  obtain ⟨ad, e1, x0, x1, x2, x3, x4, x5, x6, x7⟩ := at_Stmt (Kd.C_below hl h.bel) hst
  cases e1
  have hab : (ad.add (n * 8)).block < w.heap.size := World.block_lt_of_cell? _ _ x0
  have hgm : gm < w.heap.size := World.block_lt_of_cell? _ _ hc
  clear h hm h1 h2 h3 h4 hl hst hd
  go_enter Try.func56, Try.ntmps56
  rw [hk] at HD
  have HQ := Aside0.mk hq
  clear hq
  have qf1 : ∀ (W : World) (a b c d : Value), (Instr.field 54 (.agg #[a, b, c, d]) 1).run Try.prog W = .ok b W := fun _ _ _ _ _ => rfl
  go_wp2_with (go_at_call 20; go_must (refine (cfg_Def.calls 7 st.x st.y st.z st.op st.n st.a st.b _ _ _ HD.out).mono ?_); rintro e w1 ⟨rfl, hB⟩; have b5 := blk_below (blk_new w _) hB; have hs5 := blk_lt b5; have p0 := (blk_cell b5 0).trans rfl; have p2 := (blk_cell b5 2).trans rfl; have p6 := (blk_cell b5 6).trans rfl; have p7 := (blk_cell b5 7).trans rfl)
  have hb := below_alloc (Below.then (below_alloc (Below.refl w.heap.size w) _) hB) (.cells #[.string ⟨#[]⟩] 9)
  have HMr := Aside0.mk (HM.out.below hb)
  have HSr : Aside0 (StB st w.heap.size (w1.alloc (.cells #[.string ⟨#[]⟩] 9))) := ⟨blk_alloc (by rw [hk]; exact b5) _⟩
  have hgb : gm ≠ w.heap.size := by omega
  go_region_held3 (fun w' => SeesB st w.heap.size w') (first | exact (StB.below HSr.out (below_drew (Below.refl _ _))).sees | exact (StB.below (And.left (by assumption)) (by assumption)).sees | exact (StB.grown (And.left (by assumption)) (by assumption) hgb).sees) ((first | (go_at_call 74; go_must (refine (of_named w0 N _ gm _ c0 l ins ora u vs (HMr.out.below (below_drew (Below.refl _ _))) st.y hy).mono ?_); rintro e w2 ⟨rfl, hB2⟩; have HM2 := Aside0.mk ((HMr.out.below (below_drew (Below.refl _ _))).below hB2)) | (go_at_call 73; go_must (refine (answer_calls w0 N _ gm _ c0 l ins ora u vs _ HM2.out).mono ?_); rintro e w3 ⟨rfl, hM3, hg3⟩; rw [HQ.out])))
  have hS3 : StB st w.heap.size w3 := And.left (by assumption)
  have q6 := (blk_cell hS3 6).trans rfl
  have q7 := (blk_cell hS3 7).trans rfl
  go_wp2
  go_ret
  exact ⟨rfl, hM3, grown_trans (grown_allocs (Below.then (Below.then hb (below_drew (Below.refl _ _))) hB2)) hg3⟩
end
end Go.Proofs.Ytnepgcbgkhikkaa.H
/- a machine's step at a statement that defines a name -/
namespace Go.Proofs.Ytnepgcbgkhikkaa.H
open Go.RowKit Go.Proofs.YtnepgcbgkhikkaaW.PrintWords Go.Proofs.YtnepgcbgkhikkaaW.PrintLast Go.Proofs.YtnepgcbgkhikkaaW.PrintMore
set_option linter.unusedVariables false
theorem R_own {w : World} {base : Nat} {ok : Nat → Prop} {u : Value} {vs : List Var} (h : Kd.R k54 54 w base ok u vs) (hn : 0 < vs.length) : ∃ g c, u = .slice (some ⟨g, 0, none⟩) vs.length c ∧ ok g ∧ base ≤ g ∧ ∃ cur, w.heap[g]? = some (.cells cur 54 (0, 0)) := by
  obtain ⟨A, c, rfl⟩ := Kd.R_slice h
  obtain ⟨hok, inner, ⟨hlen, ho⟩, hr⟩ := h
  rcases ho with ⟨he, h0⟩ | ⟨g, cap, cur, he, hb, hh, hnc, hcm, hcs, htk⟩
  · exfalso
    injection he with e1 e2 e3
    omega
  · injection he with e1 e2 e3
    subst e1
    exact ⟨g, c, rfl, hok g rfl, hb, cur, hh⟩
structure HeldV (gm b5 b8 gu : Nat) (cm : Array Value) (st : Stmt) (v : Var) (w' : World) : Prop where
  m : w'.heap[gm]? = some (.cells cm 73 (0, 0))
  s : StB st b5 w'
  b : w'.heap[b8]? = some (.cells #[.string v.name, .int .i64 v.n, .int .i64 v.last, .bool v.taint] 54 (0, 0))
  n1 : gm ≠ gu
  n2 : b5 ≠ gu
  n3 : b8 ≠ gu
theorem HeldV.put {gm b5 b8 gu : Nat} {cm : Array Value} {st : Stmt} {v : Var} {w : World} (h : HeldV gm b5 b8 gu cm st v w) (j : Nat) (x : Value) : HeldV gm b5 b8 gu cm st v (w.setCell ⟨gu, j, none⟩ x) :=
  ⟨(Below.heap_setCell w ⟨gu, j, none⟩ x gm h.n1).trans h.m, (Below.heap_setCell w ⟨gu, j, none⟩ x b5 h.n2).trans h.s, (Below.heap_setCell w ⟨gu, j, none⟩ x b8 h.n3).trans h.b, h.n1, h.n2, h.n3⟩
theorem HeldV.below {gm b5 b8 gu : Nat} {cm : Array Value} {st : Stmt} {v : Var} {w w' : World} (h : HeldV gm b5 b8 gu cm st v w) (hb : Below w.heap.size w w') : HeldV gm b5 b8 gu cm st v w' :=
  ⟨blk_below h.m hb, h.s.below hb, blk_below h.b hb, h.n1, h.n2, h.n3⟩
abbrev SeesV (gm b5 b8 gu : Nat) (cm : Array Value) (st : Stmt) (v : Var) (u : Value) (w' : World) : Prop :=
  HeldV gm b5 b8 gu cm st v w' ∧ w'.cell? ⟨gm, 3, none⟩ = some u ∧ w'.cell? ⟨b8, 0, none⟩ = some (.string v.name) ∧ w'.cell? ⟨b8, 1, none⟩ = some (.int .i64 v.n) ∧ w'.cell? ⟨b8, 2, none⟩ = some (.int .i64 v.last) ∧ w'.cell? ⟨b8, 3, none⟩ = some (.bool v.taint)
theorem HeldV.sees {gm b5 b8 gu : Nat} {x0 x1 x2 u : Value} {st : Stmt} {v : Var} {w : World} (h : HeldV gm b5 b8 gu #[x0, x1, x2, u] st v w) : SeesV gm b5 b8 gu #[x0, x1, x2, u] st v u w :=
  ⟨h, (blk_cell h.m 3).trans rfl, (blk_cell h.b 0).trans rfl, (blk_cell h.b 1).trans rfl, (blk_cell h.b 2).trans rfl, (blk_cell h.b 3).trans rfl⟩
theorem Mach.store {w0 : World} {N : Nat} {w : World} {gm : Nat} {A0 : Option Addr} {c0 : Nat} {l : List Stmt} {ins : List Int} {ora : List Bool} {gu cu : Nat} {vs : List Var} (h : Mach w0 N w gm A0 c0 l ins ora (.slice (some ⟨gu, 0, none⟩) vs.length cu) vs) {k : Nat} (hk : k < vs.length) (v : Var) :
    Mach w0 N (w.setCells gu (k * 4) (cVar v)) gm A0 c0 l ins ora (.slice (some ⟨gu, 0, none⟩) vs.length cu) (vs.set k v) ∧ w.grownBy (w.setCells gu (k * 4) (cVar v)) (some gu) := by
  obtain ⟨g, c, e, hok, hbas, cur, hcur⟩ := R_own h.vars (by omega)
  injection e with e1 e2 e3
  injection e1 with e1
  injection e1 with e1
  subst e1
  obtain ⟨h1, hg⟩ := flatVar.put h.vars hk v
  obtain ⟨A1, c1, A2, c2, hm, r1, r2, r3, r4⟩ := h.row
  refine ⟨⟨pw_below_grown h.bel _ h.bel.size hg (fun i hi => by cases hi; exact hbas), h.gml, h.gmN, Nat.le_trans h.N_w hg.size, ⟨A1, c1, A2, c2, ?_, r1, r2, r3, r4⟩, h1⟩, hg⟩
  exact (hg.block gm (blk_lt hm) (fun e => hok.1 (Option.some.inj e).symm)).trans hm
section
variable (w0 : World) (N : Nat) (w : World) (gm : Nat) (A0 : Option Addr) (c0 : Nat) (l : List Stmt) (ins : List Int) (ora : List Bool) (u : Value) (vs : List Var) (n : Nat) (st : Stmt)
set_option maxRecDepth 100000 in
set_option maxHeartbeats 4000000 in
theorem stepD (h : Mach w0 N w gm A0 c0 l ins ora u vs) (hl : Kd.C k30 w0 A0 l.length l) (hst : l[n]? = some st) (hd : cfg_Def.f st.kind st.x st.y st.z st.op st.n st.a st.b = some (st.x, true)) (k7 : ¬ st.kind = 7) (k8 : ¬ st.kind = 8) (k9 : ¬ st.kind = 9) (v : Var) (ins' : List Int) (hmade : ∀ W, Mach w0 N W gm A0 c0 l ins ora u vs → Calls Try.prog 70 #[.pointer (some ⟨gm, 0, none⟩), .int .i64 n] W fun e w' => e = .returned (.agg #[.string v.name, .int .i64 v.n, .int .i64 v.last, .bool v.taint]) ∧ Mach w0 N w' gm A0 c0 l ins' ora u vs ∧ W.grownBy w' (some gm)) (k : Nat) (y : Var) (hx : atV vs st.x = (k : Int)) (hy : vs[k]? = some y) :
    Calls Try.prog 56 #[.pointer (some ⟨gm, 0, none⟩), .int .i64 n] w fun e w' => e = .returned (.int .i64 (wrap64 (n + 1))) ∧ Mach w0 N w' gm A0 c0 l ins' ora u (vs.set k v) ∧ Kept w w' (fun i => w0.heap.size ≤ i ∧ i < N) := by
  have HM := Aside0.mk h
  have HD := Aside0.mk hd
  obtain ⟨A1, c1, A2, c2, hm, h1, h2, h3, h4⟩ := h.row
  have hum := Try.underlying73
  have huv := Try.underlying54
  have hut := Try.underlying30
  have hul := Try.underlying22
  have hc : w.cell? ⟨gm, 2, none⟩ = some (.slice A0 l.length c0) := (blk_cell hm 2).trans rfl
  have hnl := (List.getElem?_eq_some_iff.1 hst).1
  have hn0 : (0 : Int) ≤ (n : Int) := by omega
  have hn1 : (n : Int) < (l.length : Int) := by omega
  obtain ⟨ad, e1, x0, x1, x2, x3, x4, x5, x6, x7⟩ := at_Stmt (Kd.C_below hl h.bel) hst
  cases e1
  have hab : (ad.add (n * 8)).block < w.heap.size := World.block_lt_of_cell? _ _ x0
  have hgm : gm < w.heap.size := World.block_lt_of_cell? _ _ hc
  clear h hm h1 h2 h3 h4 hl hst hd
  go_enter Try.func56, Try.ntmps56
  have j7 : (st.kind == 7) = false := beq_eq_false_iff_ne.2 k7
  have j8 : (st.kind == 8) = false := beq_eq_false_iff_ne.2 k8
  have j9 : (st.kind == 9) = false := beq_eq_false_iff_ne.2 k9
  have hkl : k < vs.length := (List.getElem?_eq_some_iff.1 hy).1
  have hk0 : (0 : Int) ≤ (k : Int) := by omega
  have hk1 : (k : Int) < (vs.length : Int) := by omega
  obtain ⟨gu, cu, rfl, hgu, hgb, -⟩ := R_own HM.out.vars (by omega)
  have hNw := HM.out.N_w
  have hgl := HM.out.gml
  have hul2 := Try.underlying50
  have HX := Aside0.mk hx
  clear hx
  have eg := enters_of Try.func72 (by kernel_rfl) rfl
  go_wp2_with (first
    | (go_at_call 20; go_must (refine (cfg_Def.calls st.kind st.x st.y st.z st.op st.n st.a st.b _ _ _ HD.out).mono ?_); rintro e w1 ⟨rfl, hB⟩; have b5 := blk_below (blk_new w _) hB; have hs5 := blk_lt b5; have p0 := (blk_cell b5 0).trans rfl; have hb := below_alloc (Below.then (below_alloc (Below.refl w.heap.size w) _) hB) (.cells #[.string st.x] 9); have HMr := Aside0.mk (HM.out.below hb); have B6 := Aside0.mk (blk_new w1 (.cells #[.string st.x] 9)))
    | (go_at_call 70; go_must (refine (hmade _ HMr.out).mono ?_); rintro e w2 ⟨rfl, hM2, hg2⟩; have HM2 := Aside0.mk hM2; have hb5 := StB.grown (st := st) (blk_alloc b5 (.cells #[.string st.x] 9)) hg2 (by omega); have hb6 := (hg2.block w1.heap.size (blk_lt B6.out) (fun e => (by have := Option.some.inj e; omega))).trans B6.out; have hs6 := blk_lt hb6; obtain ⟨A1', c1', A2', c2', hm', -, -, -, -⟩ := hM2.row; have hc3 := (blk_cell hm' 3).trans rfl; have hs2 := blk_lt hm'; have HC := Aside0.mk (Kd.R_reads' hM2.vars).2.2)
    | (go_at_call 71; go_must (refine (IndexFuncVar 72 #[.pointer (some ⟨w1.heap.size, 0, none⟩)] eg (fun p => decide (p.name = st.x)) _ _ _ _ (Kd.C_alloc HC.out _) (stV1 _ _ _ _ ((blk_cell (blk_alloc hb6 _) 0).trans rfl))).mono ?_); rintro e w3 ⟨rfl, hB3⟩; rw [show idxP (fun p : Var => decide (p.name = st.x)) vs 0 = (k : Int) from HX.out]))
  have hsz : w.heap.size + 1 + 1 ≤ w2.heap.size := by omega
  have hb8 := blk_below (blk_new w2 (.cells #[.string v.name, .int .i64 v.n, .int .i64 v.last, .bool v.taint] 54)) hB3
  have HM3 := Aside0.mk ((HM2.out.below (below_alloc (Below.refl _ _) (.cells #[.string v.name, .int .i64 v.n, .int .i64 v.last, .bool v.taint] 54))).below hB3)
  have HV : Aside0 (HeldV gm w.heap.size w2.heap.size gu #[.slice A1' ins'.length c1', .slice A2' ora.length c2', .slice (some ad) l.length c0, .slice (some ⟨gu, 0, none⟩) vs.length cu] st v w3) :=
    ⟨⟨blk_below (blk_alloc hm' _) hB3, StB.below (StB.below hb5 (below_alloc (Below.refl _ _) _)) hB3, hb8, fun e => hgu.1 e.symm, by have := hgu.2; omega, by have := hgu.2; omega⟩⟩
  obtain ⟨ad3, e3, y0, y1, y2, y3⟩ := at_Var (Kd.R_reads' HM3.out.vars).2.2 hy
  cases e3
  obtain ⟨curv, hcurv⟩ := R_blk HM3.out.vars
  have fz : ∀ o, w3.frozen? ⟨gu, o, none⟩ = false := fun o => blk_frozen hcurv o
  have ea : (⟨gu, 0, none⟩ : Addr).add (k * 4) = ⟨gu, k * 4, none⟩ := by
    simp only [Addr.add]
    split
    · rename_i h0; rw [h0]
    · simp
  rw [ea] at y0 y1 y2 y3
  dsimp only at y0 y1 y2 y3
  go_region_held3 (fun w' => SeesV gm w.heap.size w2.heap.size gu #[.slice A1' ins'.length c1', .slice A2' ora.length c2', .slice (some ad) l.length c0, .slice (some ⟨gu, 0, none⟩) vs.length cu] st v (.slice (some ⟨gu, 0, none⟩) vs.length cu) w') (first | exact (HeldV.below HV.out (below_drew (Below.refl _ _))).sees | exact (HeldV.put (HeldV.put (HeldV.put (HeldV.put (HeldV.below HV.out (below_drew (Below.refl _ _))) _ _) _ _) _ _) _ _).sees) (fail)
  obtain ⟨hMf, hgf⟩ := HM3.out.store hkl v
  have eW : w3.setCells gu (k * 4) (cVar v) = (((w3.setCell ⟨gu, k * 4, none⟩ (.string v.name)).setCell ⟨gu, k * 4 + 1, none⟩ (.int .i64 v.n)).setCell ⟨gu, k * 4 + 2, none⟩ (.int .i64 v.last)).setCell ⟨gu, k * 4 + 3, none⟩ (.bool v.taint) := rfl
  have hV4 := HeldV.put (HeldV.put (HeldV.put (HeldV.put HV.out (k * 4) (.string v.name)) (k * 4 + 1) (.int .i64 v.n)) (k * 4 + 2) (.int .i64 v.last)) (k * 4 + 3) (.bool v.taint)
  have q0 := (blk_cell hV4.s 0).trans rfl
  rw [eW] at hMf hgf
  have K1 : Kept w w2 (fun i => w0.heap.size ≤ i ∧ i < N) := Kept.of_grown hg2 (Kept.of_below hb _) (fun i hi => .inl (by cases hi; exact ⟨HM.out.gml, HM.out.gmN⟩))
  have K2 : Kept w w3 (fun i => w0.heap.size ≤ i ∧ i < N) := (K1.below (below_alloc (Below.refl _ _) _)).below hB3
  have K3 := Kept.of_grown hgf K2 (fun i hi => .inl (by cases hi; exact ⟨hgb, hgu.2⟩))
  have HF := Aside0.mk hMf
  have HK := Aside0.mk K3
  clear hMf hgf K1 K2 K3 eW
  go_wp2
  go_ret
  exact ⟨rfl, HF.out.below (below_drew (Below.refl _ _)), HK.out.drew⟩
end
end Go.Proofs.Ytnepgcbgkhikkaa.H
/- a machine's step, of any statement of the flow whose names the machine knows -/
namespace Go.Proofs.Ytnepgcbgkhikkaa.H
open Go.RowKit Go.Proofs.YtnepgcbgkhikkaaW.PrintWords Go.Proofs.YtnepgcbgkhikkaaW.PrintLast Go.Proofs.YtnepgcbgkhikkaaW.PrintMore
set_option linter.unusedVariables false
def opV (op : ByteArray) (a b : Int) : Int := (interp_operated.f op a b).getD 0
theorem opV_some (op : ByteArray) (a b : Int) : interp_operated.f op a b = some (opV op a b) := by
  have hb : ∀ c : Bool, ∃ x, interp_bit.f c = some x := by intro c; cases c <;> exact ⟨_, rfl⟩
  obtain ⟨x1, h1⟩ := hb (decide (a < b))
  obtain ⟨x2, h2⟩ := hb (a == b)
  have : (interp_operated.f op a b).isSome = true := by
    unfold interp_operated.f
    rw [h1, h2]
    repeat' split
    all_goals rfl
  obtain ⟨x, hx⟩ := Option.isSome_iff_exists.1 this
  unfold opV
  rw [hx]; rfl
def madeV (st : Stmt) (n : Nat) (vs : List Var) (ins : List Int) : Var :=
  if st.kind = 1 then ⟨st.x, st.n, n, false⟩ else if st.kind = 2 then ⟨st.x, opV st.op (getV vs st.y).n (getV vs st.z).n, n, or (getV vs st.y).taint (getV vs st.z).taint⟩
  else if st.kind = 3 then ⟨st.x, (getV vs st.y).n, n, (getV vs st.y).taint⟩ else if st.kind = 4 then ⟨st.x, ins.headD 0, n, true⟩ else ⟨st.x, (getV vs st.y).n, n, false⟩
def stepI (st : Stmt) (ins : List Int) : List Int := if st.kind = 4 then ins.tail else ins
def stepO (st : Stmt) (ora : List Bool) : List Bool := if st.kind = 7 then ora.tail else ora
def stepN (st : Stmt) (n : Nat) (vs : List Var) (ora : List Bool) : Int :=
  if st.kind = 7 then (if ora.headD ((getV vs st.y).n != 0) = true then st.a else st.b) else if st.kind = 8 then st.a else if st.kind = 9 then -1 else wrap64 (n + 1)
def defK (st : Stmt) : Prop := st.kind = 1 ∨ st.kind = 2 ∨ st.kind = 3 ∨ st.kind = 4 ∨ st.kind = 5
instance (st : Stmt) : Decidable (defK st) := by unfold defK; infer_instance
def stepV (st : Stmt) (n : Nat) (vs : List Var) (ins : List Int) : List Var := if defK st then vs.set (atV vs st.x).toNat (madeV st n vs ins) else vs
/-- the names of a statement are known -/
structure KnownBy (st : Stmt) (names : List ByteArray) : Prop where
  x : defK st → st.x ∈ names
  y : st.kind = 2 ∨ st.kind = 3 ∨ st.kind = 5 ∨ st.kind = 6 ∨ st.kind = 7 → st.y ∈ names
  z : st.kind = 2 → st.z ∈ names
section
variable (w0 : World) (N : Nat) (w : World) (gm : Nat) (A0 : Option Addr) (c0 : Nat) (l : List Stmt) (ins : List Int) (ora : List Bool) (u : Value) (vs : List Var) (n : Nat) (st : Stmt)
theorem made_calls (h : Mach w0 N w gm A0 c0 l ins ora u vs) (hl : Kd.C k30 w0 A0 l.length l) (hst : l[n]? = some st) (hk : defK st) (hn : KnownBy st (vs.map Var.name)) :
    Calls Try.prog 70 #[.pointer (some ⟨gm, 0, none⟩), .int .i64 n] w fun e w' => e = .returned (.agg #[.string (madeV st n vs ins).name, .int .i64 (madeV st n vs ins).n, .int .i64 (madeV st n vs ins).last, .bool (madeV st n vs ins).taint]) ∧ Mach w0 N w' gm A0 c0 l (stepI st ins) ora u vs ∧ w.grownBy w' (some gm) := by
  rcases hk with hk | hk | hk | hk | hk
  · have e1 : madeV st n vs ins = ⟨st.x, st.n, n, false⟩ := by simp [madeV, hk]
    have e2 : stepI st ins = ins := by simp [stepI, hk]
    rw [e1, e2]
    exact made1 w0 N w gm A0 c0 l ins ora u vs n st h hl hst hk
  · have e1 : madeV st n vs ins = ⟨st.x, opV st.op (getV vs st.y).n (getV vs st.z).n, n, or (getV vs st.y).taint (getV vs st.z).taint⟩ := by simp [madeV, hk]
    have e2 : stepI st ins = ins := by simp [stepI, hk]
    rw [e1, e2]
    exact made2 w0 N w gm A0 c0 l ins ora u vs n st h hl hst hk (hn.y (by omega)) (hn.z hk) _ (opV_some _ _ _)
  · have e1 : madeV st n vs ins = ⟨st.x, (getV vs st.y).n, n, (getV vs st.y).taint⟩ := by simp [madeV, hk]
    have e2 : stepI st ins = ins := by simp [stepI, hk]
    rw [e1, e2]
    exact made3 w0 N w gm A0 c0 l ins ora u vs n st h hl hst hk (hn.y (by omega))
  · have e1 : madeV st n vs ins = ⟨st.x, ins.headD 0, n, true⟩ := by simp [madeV, hk]
    have e2 : stepI st ins = ins.tail := by simp [stepI, hk]
    rw [e1, e2]
    exact made4 w0 N w gm A0 c0 l ins ora u vs n st h hl hst hk
  · have e1 : madeV st n vs ins = ⟨st.x, (getV vs st.y).n, n, false⟩ := by simp [madeV, hk]
    have e2 : stepI st ins = ins := by simp [stepI, hk]
    rw [e1, e2]
    exact made5 w0 N w gm A0 c0 l ins ora u vs n st h hl hst hk (hn.y (by omega))
theorem Mach.kept {w' : World} {ins' : List Int} {ora' : List Bool} {vs' : List Var} (h : Mach w0 N w gm A0 c0 l ins ora u vs) (hg : w.grownBy w' (some gm)) : Kept w w' (fun i => w0.heap.size ≤ i ∧ i < N) :=
  Kept.of_grown hg (Kept.refl _ _) (fun i hi => .inl (by cases hi; exact ⟨h.gml, h.gmN⟩))
theorem step_calls (h : Mach w0 N w gm A0 c0 l ins ora u vs) (hl : Kd.C k30 w0 A0 l.length l) (hst : l[n]? = some st) (hn : KnownBy st (vs.map Var.name)) :
    Calls Try.prog 56 #[.pointer (some ⟨gm, 0, none⟩), .int .i64 n] w fun e w' => e = .returned (.int .i64 (stepN st n vs ora)) ∧ Mach w0 N w' gm A0 c0 l (stepI st ins) (stepO st ora) u (stepV st n vs ins) ∧ Kept w w' (fun i => w0.heap.size ≤ i ∧ i < N) := by
  by_cases hk : defK st
  · obtain ⟨k, y, h1, h2, h3⟩ := getV_at vs 0 (hn.x hk)
    have ha : atV vs st.x = (k : Int) := by rw [atV, h1, Nat.zero_add]
    have e1 : stepN st n vs ora = wrap64 (n + 1) := by unfold defK at hk; unfold stepN; rw [if_neg (by omega), if_neg (by omega), if_neg (by omega)]
    have e2 : stepO st ora = ora := by unfold defK at hk; unfold stepO; rw [if_neg (by omega)]
    have e3 : stepV st n vs ins = vs.set k (madeV st n vs ins) := by unfold stepV; rw [if_pos hk, ha]; rfl
    rw [e1, e2, e3]
    have hd : cfg_Def.f st.kind st.x st.y st.z st.op st.n st.a st.b = some (st.x, true) := by
      unfold cfg_Def.f
      unfold defK at hk
      repeat' split
      all_goals first | rfl | (exfalso; omega)
    exact stepD w0 N w gm A0 c0 l ins ora u vs n st h hl hst hd (by unfold defK at hk; omega) (by unfold defK at hk; omega) (by unfold defK at hk; omega) _ _ (fun W hW => made_calls w0 N W gm A0 c0 l ins ora u vs n st hW hl hst hk hn) k y ha h2
  · have hd : cfg_Def.f st.kind st.x st.y st.z st.op st.n st.a st.b = some (⟨#[]⟩, false) := by
      unfold cfg_Def.f
      unfold defK at hk
      repeat' split
      all_goals first | rfl | (exfalso; omega)
    have e3 : stepV st n vs ins = vs := by unfold stepV; rw [if_neg hk]
    have e4 : stepI st ins = ins := by unfold defK at hk; unfold stepI; rw [if_neg (by omega)]
    rw [e3, e4]
    have post : ∀ {a : Int} {o : List Bool}, a = stepN st n vs ora → o = stepO st ora → (∀ (e : Ending) (w' : World), e = .returned (.int .i64 a) ∧ Mach w0 N w' gm A0 c0 l ins o u vs ∧ w.grownBy w' (some gm) → e = .returned (.int .i64 (stepN st n vs ora)) ∧ Mach w0 N w' gm A0 c0 l ins (stepO st ora) u vs ∧ Kept w w' (fun i => w0.heap.size ≤ i ∧ i < N)) := by
      rintro a o rfl rfl e w' ⟨h1, h2, h3⟩
      exact ⟨h1, h2, Kept.of_grown h3 (Kept.refl _ _) (fun i hi => .inl (by cases hi; exact ⟨h.gml, h.gmN⟩))⟩
    by_cases k7 : st.kind = 7
    · have e2 : stepO st ora = ora.tail := by unfold stepO; rw [if_pos k7]
      cases hq : ora.headD ((getV vs st.y).n != 0) with
      | true => exact (step7a w0 N w gm A0 c0 l ins ora u vs n st h hl hst hd k7 (hn.y (by omega)) hq).mono (post (by unfold stepN; rw [if_pos k7, if_pos hq]) e2.symm)
      | false => exact (step7b w0 N w gm A0 c0 l ins ora u vs n st h hl hst hd k7 (hn.y (by omega)) hq).mono (post (by unfold stepN; rw [if_pos k7, if_neg (by rw [hq]; decide)]) e2.symm)
    · have e2 : stepO st ora = ora := by unfold stepO; rw [if_neg k7]
      by_cases k8 : st.kind = 8
      · exact (step8 w0 N w gm A0 c0 l ins ora u vs n st h hl hst hd k8).mono (post (by unfold stepN; rw [if_neg k7, if_pos k8]) e2.symm)
      · by_cases k9 : st.kind = 9
        · exact (step9 w0 N w gm A0 c0 l ins ora u vs n st h hl hst hd k9).mono (post (by unfold stepN; rw [if_neg k7, if_neg k8, if_pos k9]) e2.symm)
        · exact (step0 w0 N w gm A0 c0 l ins ora u vs n st h hl hst hd k7 k8 k9).mono (post (by unfold stepN; rw [if_neg k7, if_neg k8, if_neg k9]) e2.symm)
end
end Go.Proofs.Ytnepgcbgkhikkaa.H
namespace Go.Proofs.Ytnepgcbgkhikkaa.H
open Go.RowKit Go.Proofs.YtnepgcbgkhikkaaW.PrintWords Go.Proofs.YtnepgcbgkhikkaaW.PrintLast Go.Proofs.YtnepgcbgkhikkaaW.PrintMore
set_option linter.unusedVariables false
theorem R_emptyV (e : Nat) (w : World) (base : Nat) (hb : base ≤ w.heap.size) : k54.R e (w.alloc (.cells #[] e)) base (fun _ => True) (.slice (some ⟨w.heap.size, 0, none⟩) 0 0) [] :=
  flatVar.row (cur := #[]) ⟨rfl, trivial, hb, blk_new _ _, Nat.le_refl _, by decide, by simp, by simp⟩
set_option maxRecDepth 100000 in
theorem cloneV (A0 : Option Addr) (c0 : Nat) (l0 : List Var) (w : World) (hr0 : Kd.C k54 w A0 l0.length l0) (_ : l0.length ≤ c0) (hz : l0.length * 40 ≤ 140737488355328) :
    Calls Try.prog 55 #[.slice A0 l0.length c0] w fun e w' => ∃ v0_ : Value, e = .returned v0_ ∧ Kd.R k54 54 w' w.heap.size (fun _ => True) v0_ l0 ∧ Below w.heap.size w w' := by
  have HR := Aside0.mk hr0
  clear hr0
  have q1 : ∀ (W : World) (n c : Nat), (binOp .eql 50 (.slice none n c) (.slice none 0 0)).run Try.prog W = .ok (.bool true) W := fun _ _ _ => rfl
  have q2 : ∀ (W : World) (a : Addr) (n c : Nat), (binOp .eql 50 (.slice (some a) n c) (.slice none 0 0)).run Try.prog W = .ok (.bool false) W := fun _ _ _ _ => rfl
  cases A0 with
  | none =>
    have h0 : l0 = [] := by
      rcases Nat.eq_zero_or_pos l0.length with h0 | h0
      · exact List.length_eq_zero_iff.1 h0
      · obtain ⟨ad, e, _⟩ := HR.out.2.2 h0
        cases e
    subst h0
    go_enter Try.func55, Try.ntmps55
    go_wp2
    go_ret
    exact ⟨_, rfl, Kd.R_nil _ _ _ _ _, Below.refl _ _⟩
  | some a =>
    go_enter Try.func55, Try.ntmps55
    have HE := Aside0.mk (R_emptyV 54 w w.heap.size (Nat.le_refl _))
    have HB := Aside0.mk (below_alloc (Below.refl w.heap.size w) (.cells #[] 54))
    go_wp2_with (at_builtin; go_must (refine Kd.R_append_rows k54 (Rr := k54.K (w.alloc (.cells #[] 54))) (w0 := w) w.heap.size rfl (.tmp 5) (.tmp 6) 50 54 _ 40 rfl Try.underlying50 info54 rfl (by decide) (by omega) (.slice (some ⟨w.heap.size, 0, none⟩) 0 0) [] l0 (some a) l0.length c0 (fun _ => True) (fun _ => False) (by go_simp) (by go_simp) HE.out (Kd.C_alloc HR.out _) (fun x cs hk => flatVar.M.2 (flatVar.K.1 hk)) (fun _ h => h.elim) (fun _ _ => trivial) HB.out (by simp) (by simp; omega) ?_); intro v1 w1 hr1 hb1 hg1 hat1; have HR1 := Aside0.mk hr1; have HB1 := Aside0.mk hb1; clear hr1 hb1 hg1 hat1)
    go_ret
    exact ⟨_, rfl, HR1.out, HB1.out⟩
end Go.Proofs.Ytnepgcbgkhikkaa.H
namespace Go.Proofs.Ytnepgcbgkhikkaa.H
open Go.RowKit Go.Proofs.YtnepgcbgkhikkaaW.PrintWords
set_option linter.unusedVariables false
theorem lib_ba_eq {a b : ByteArray} : (a.toList = b.toList) ↔ a = b := by
  constructor
  · intro h
    have h1 : a.data.toList = b.data.toList := by
      have := congrArg id h
      rwa [ByteArray.toList_eq, ByteArray.toList_eq] at this
    cases a; cases b; simp_all
  · rintro rfl; rfl
theorem drop_end {α : Type} {l : List α} {n : Nat} (h : l.drop n = []) : ¬ (n : Int) < (l.length : Int) := by
  have := congrArg List.length h
  simp at this
  omega
theorem drop_more {α : Type} {l : List α} {n : Nat} {y : α} {r : List α} (h : l.drop n = y :: r) (hl : l.length ≤ 9223372036854775807) :
    (n : Int) < (l.length : Int) ∧ (0 : Int) ≤ (n : Int) ∧ (∀ d, l.getD (n : Int).toNat d = y) ∧ l.drop (n + 1) = r ∧ wrap64 ((n : Int) + 1) = ((n + 1 : Nat) : Int) := by
  have h1 := congrArg List.length h
  simp at h1
  have h2 : l.drop (n + 1) = r := by
    have := congrArg (List.drop 1) h
    simpa [List.drop_drop, Nat.add_comm] using this
  have h3 : l[n]? = some y := by
    have := congrArg (fun z => z[0]?) h
    simpa using this
  refine ⟨by omega, by omega, fun d => ?_, h2, ?_⟩
  · rw [Int.toNat_natCast, List.getD_eq_getElem?_getD, h3]; rfl
  · unfold wrap64; omega
theorem at_more {α : Type} {l : List α} {n : Nat} (h : n < l.length) : ∃ y r, l.drop n = y :: r ∧ l[n]? = some y :=
  ⟨l[n], l.drop (n + 1), List.drop_eq_getElem_cons h, List.getElem?_eq_getElem h⟩
theorem getD_at {α : Type} {l : List α} {n : Nat} {y : α} (h : l[n]? = some y) (d : α) : l.getD (n : Int).toNat d = y := by
  rw [Int.toNat_natCast, List.getD_eq_getElem?_getD, h]; rfl
theorem wrap_up {n : Nat} (h : n < 9223372036854775807) : wrap64 ((n : Int) + 1) = ((n + 1 : Nat) : Int) := by unfold wrap64; omega
theorem ite_t {α : Type} {c : Prop} [Decidable c] (h : c) (a b : α) : (if c then a else b) = a := if_pos h
theorem Ev.iff {α : Type} {g : Nat → Option α} {r r' : α} (h : Ev g r) (e : r = r') : Ev g r' := e ▸ h
theorem Ev.some {α : Type} {r r' : α} (e : r = r') : Ev (fun _ => some r) r' := e ▸ Ev.now r
theorem Ev.pure {α β : Type} {o : Option α} {f : Nat → α → Option β} {a : α} {r : β} (h : o = .some a) (k : Ev (fun n => f n a) r) : Ev (fun n => o.bind (f n)) r := by
  subst h; exact k
theorem Ev.pos {α : Type} {c : Prop} [Decidable c] {g f : Nat → Option α} {r : α} (h : c) (k : Ev g r) : Ev (fun n => if c then g n else f n) r := by
  simp only [if_pos h]; exact k
theorem Ev.neg {α : Type} {c : Prop} [Decidable c] {g f : Nat → Option α} {r : α} (h : ¬ c) (k : Ev f r) : Ev (fun n => if c then g n else f n) r := by
  simp only [if_neg h]; exact k
theorem Ev.cases {α : Type} {c : Prop} [Decidable c] {g f : Nat → Option α} {r r' : α} (h1 : c → Ev g r) (h2 : ¬ c → Ev f r') : Ev (fun n => if c then g n else f n) (if c then r else r') := by
  by_cases h : c
  · simp only [if_pos h]; exact h1 h
  · simp only [if_neg h]; exact h2 h
end Go.Proofs.Ytnepgcbgkhikkaa.H
namespace Go.Proofs.Ytnepgcbgkhikkaa.H
def toL (b : ByteArray) : List UInt8 := b.data.toList
def ofL (l : List UInt8) : ByteArray := ⟨l.toArray⟩
theorem ofL_toL (b : ByteArray) : ofL (toL b) = b := by simp [ofL, toL]
theorem toL_ofL (l : List UInt8) : toL (ofL l) = l := by simp [ofL, toL]
end Go.Proofs.Ytnepgcbgkhikkaa.H
namespace Go.Proofs.Ytnepgcbgkhikkaa.H
open Go.RowKit Go.Sort Go.Proofs.YtnepgcbgkhikkaaW.PrintWords Go.Proofs.YtnepgcbgkhikkaaW.PrintLast Go.Proofs.YtnepgcbgkhikkaaW.PrintMore
set_option linter.unusedVariables false
section
variable {α : Type} [Inhabited α] {enc : α → Value}
theorem so_heap {w : World} {g n : Nat} {os : Array Obj} {cur : Array Value} {e : TypeId} {fr : Nat × Nat} (d : Array α) (hb : w.heap[g]? = some (.cells cur e fr)) :
    (grow (putRow enc (Sort.ahead w n) g 0 d) os).heap[g]? = some (.cells (putCells enc 0 d cur) e fr) := by
  have hg : g < w.heap.size := (Array.getElem?_eq_some_iff.1 hb).1
  rw [heap_grow_old _ _ (by simpa using hg)]
  simp [putRow, mapBlock, Sort.ahead, Array.getElem?_modify, hb, onCells]
theorem so_grown {w : World} {g n : Nat} {os : Array Obj} (d : Array α) : w.grownBy (grow (putRow enc (Sort.ahead w n) g 0 d) os) (some g) := by
  refine ⟨rfl, rfl, rfl, by simp, fun k hk hne => ?_⟩
  rw [heap_grow_old _ _ (by simpa using hk)]
  have : g ≠ k := fun e => hne (by rw [e])
  simp [putRow, mapBlock, Sort.ahead, Array.getElem?_modify, this]
theorem so_take (cur : Array Value) (ts : List α) (m : Nat) (hm : m ≤ ts.length) (h : ts.length ≤ cur.size) : (putCells enc 0 ts.toArray cur).toList.take m = (ts.take m).map enc := by
  apply List.ext_getElem?
  intro j
  by_cases hj : j < m
  · rw [List.getElem?_take_of_lt hj, Array.getElem?_toList]
    simp [putCells, show j < ts.length by omega, show j < cur.size by omega, hj]
  · rw [List.getElem?_take_eq_none (by omega), List.getElem?_eq_none (by simp; omega)]
theorem so_holds {w : World} {g : Nat} {cur : Array Value} {e : TypeId} {ss : List α} (hb : w.heap[g]? = some (.cells cur e (0, 0))) (ht : cur.toList.take ss.length = ss.map enc) : Holds enc w g 0 ss.toArray := by
  intro j hj
  have hj' : j < ss.length := by simpa using hj
  refine ⟨?_, by simp [World.frozen?, hb]⟩
  have h1 : (cur.toList.take ss.length)[j]? = (ss.map enc)[j]? := by rw [ht]
  rw [List.getElem?_take_of_lt hj'] at h1
  simp only [World.cell?, hb, Nat.zero_add]
  simp only [Option.isSome_none, Bool.false_eq_true, if_false]
  rw [← Array.getElem?_toList, h1]
  simp [hj']
/-- behind a sort (or a compacting): the row owns the first elements of what was laid -/
theorem so_owns {w : World} {base g cap n m : Nat} {e : TypeId} {os : Array Obj} {cur : Array Value} {ss ts : List α} (hl : ts.length = ss.length) (hm : m ≤ ts.length) (hbase : base ≤ g) (hb : w.heap[g]? = some (.cells cur e (0, 0)))
    (h1 : ss.length ≤ cap) (h2 : cap ≤ maxLen) (h3 : cur.size = cap * 1) :
    (grow (putRow enc (Sort.ahead w n) g 0 ts.toArray) os).ownsRow base e 1 (.slice (some ⟨g, 0, none⟩) m cap) m ((ts.take m).map enc) :=
  ⟨by simp; omega, .inr ⟨g, cap, _, rfl, hbase, so_heap _ hb, by omega, h2, by simp [putCells, h3], by rw [Nat.mul_one]; exact so_take cur ts m hm (by omega)⟩⟩
end
/-- what a function that writes a row of the caller's leaves -/
theorem so_kept {w w' : World} {g : Nat} {P : Nat → Prop} (hg : w.grownBy w' (some g)) (hP : P g) : Kept w w' P :=
  ⟨hg.size, fun i hi hn => hg.block i hi (fun e => hn (by cases e; exact hP))⟩
theorem so_below {w0 w w' : World} {g : Nat} (hB : Below w0.heap.size w0 w) (hg : w.grownBy w' (some g)) (hb : w0.heap.size ≤ g) : Below w0.heap.size w0 w' :=
  pw_below_grown hB (some g) hB.size hg (fun k e => by cases e; exact hb)
theorem encs_toL (xs : List ByteArray) : xs.map Value.string = (xs.map toL).map encStr := by
  rw [List.map_map]
  exact List.map_congr_left fun x _ => by simp [encStr, toL]
theorem encs_ofL (ls : List (List UInt8)) : ls.map encStr = (ls.map ofL).map Value.string := by
  rw [List.map_map]
  exact List.map_congr_left fun x _ => by simp [encStr, ofL]
def sortS (l : List ByteArray) : List ByteArray := ((l.map toL).mergeSort fun x y => decide (x ≤ y)).map ofL
def compactS (l : List ByteArray) : List ByteArray := (Go.Lib.compact (l.map toL)).map ofL
theorem sortS_len (l : List ByteArray) : (sortS l).length = l.length := by simp [sortS]
theorem compactS_len (l : List ByteArray) : (compactS l).length ≤ l.length := by
  unfold compactS Go.Lib.compact Go.Lib.compactUpTo
  simp only [List.length_map]
  exact Nat.le_trans (List.length_filter_le _ _) (by simp)
def sortI (l : List Int) : List Int := l.mergeSort fun x y => decide (x ≤ y)
def compactI (l : List Int) : List Int := Go.Lib.compact l
theorem sortI_len (l : List Int) : (sortI l).length = l.length := by simp [sortI]
theorem compactI_len (l : List Int) : (compactI l).length ≤ l.length := by
  unfold compactI Go.Lib.compact Go.Lib.compactUpTo
  simp only [List.length_map]
  exact Nat.le_trans (List.length_filter_le _ _) (by simp)
end Go.Proofs.Ytnepgcbgkhikkaa.H
/-
  DERIVED: THE SHELF's CONTRACTS AT THIS DUMP, IN PLAIN WORDS (tools/lay-plain.mjs out of 'TryShelf.lean', which tools/lay-shelf.mjs wrote): THE SAME DECLARATIONS UNDER THE SAME NAMES: 'import', 'namespace', 'open', 'def', 'theorem' AND NOTHING ELSE: no command of the shelf's: FOR A HAND-IN. Each laying: the table of numbers ('.._ren') and one theorem, a field a fact of the dump's own or the kernel's comparison; each contract: ONE APPLICATION.
-/
namespace Go.Proofs
open Go.Shelf
def Try.lays215_ren : Go.Shelf.Ren := ⟨fun | 215 => 111 | n => n, fun | 3 => 3 | 4 => 4 | n => n, fun | n => n⟩
theorem Try.lays215 : Go.Proofs.Lays.n215 Try.prog Try.lays215_ren := {
  mixed := by kernel_rfl
  f215 := Try.func111.trans (congrArg some (by kernel_rfl))
  t3 := Try.underlying3
  a3 := Try.isAgg3
  z3 := Try.sizeOf3
  v3 := Try.zeroValue3
  t4 := Try.underlying4
  a4 := Try.isAgg4
  z4 := Try.sizeOf4
  v4 := Try.zeroValue4 }
open Go.RowKit in
/-- cmp.isNaN at int: 'x != x': false. (LAID: no walk: one application.) -/
theorem Try.cmp_isNaN_int (x : Int) (w : World) :
    Calls Try.prog 111 #[.int .i64 x] w fun e w' => e = .returned (.bool false) ∧ w' = w := Any.cmp_isNaN_int Try.lays215 x w
def Try.lays189_ren : Go.Shelf.Ren := ⟨fun | 189 => 63 | 125 => 80 | 257 => 79 | 128 => 94 | 129 => 95 | 294 => 85 | 295 => 86 | 296 => 87 | 297 => 88 | 298 => 89 | 299 => 90 | 216 => 91 | 300 => 92 | 301 => 93 | 328 => 106 | 329 => 107 | 330 => 108 | 331 => 109 | 332 => 110 | 215 => 111 | 343 => 116 | n => n, fun | 28 => 25 | 3 => 3 | 46 => 104 | 0 => 0 | 51 => 118 | 53 => 120 | 4 => 4 | 183 => 110 | 182 => 109 | 131 => 115 | 5 => 5 | 9 => 9 | 218 => 128 | 222 => 132 | 228 => 137 | 229 => 138 | n => n, fun | n => n⟩
theorem Try.lays189 : Go.Proofs.Lays.n189 Try.prog Try.lays189_ren := {
  mixed := by kernel_rfl
  f125 := Try.func80.trans (congrArg some (by kernel_rfl))
  f128 := Try.func94.trans (congrArg some (by kernel_rfl))
  f129 := Try.func95.trans (congrArg some (by kernel_rfl))
  f189 := Try.func63.trans (congrArg some (by kernel_rfl))
  f215 := Try.func111.trans (congrArg some (by kernel_rfl))
  f216 := Try.func91.trans (congrArg some (by kernel_rfl))
  f257 := Try.func79.trans (congrArg some (by kernel_rfl))
  f294 := Try.func85.trans (congrArg some (by kernel_rfl))
  f295 := Try.func86.trans (congrArg some (by kernel_rfl))
  f296 := Try.func87.trans (congrArg some (by kernel_rfl))
  f297 := Try.func88.trans (congrArg some (by kernel_rfl))
  f298 := Try.func89.trans (congrArg some (by kernel_rfl))
  f299 := Try.func90.trans (congrArg some (by kernel_rfl))
  f300 := Try.func92.trans (congrArg some (by kernel_rfl))
  f301 := Try.func93.trans (congrArg some (by kernel_rfl))
  f328 := Try.func106.trans (congrArg some (by kernel_rfl))
  f329 := Try.func107.trans (congrArg some (by kernel_rfl))
  f330 := Try.func108.trans (congrArg some (by kernel_rfl))
  f331 := Try.func109.trans (congrArg some (by kernel_rfl))
  f332 := Try.func110.trans (congrArg some (by kernel_rfl))
  f343 := Try.func116.trans (congrArg some (by kernel_rfl))
  t0 := Try.underlying0
  a0 := Try.isAgg0
  z0 := Try.sizeOf0
  v0 := Try.zeroValue0
  t3 := Try.underlying3
  a3 := Try.isAgg3
  z3 := Try.sizeOf3
  v3 := Try.zeroValue3
  t4 := Try.underlying4
  a4 := Try.isAgg4
  z4 := Try.sizeOf4
  v4 := Try.zeroValue4
  t5 := Try.underlying5
  a5 := Try.isAgg5
  z5 := Try.sizeOf5
  v5 := Try.zeroValue5
  t9 := Try.underlying9
  a9 := Try.isAgg9
  z9 := Try.sizeOf9
  v9 := Try.zeroValue9
  t28 := Try.underlying25
  a28 := Try.isAgg25
  z28 := Try.sizeOf25
  v28 := Try.zeroValue25
  t46 := Try.underlying104
  a46 := Try.isAgg104
  z46 := Try.sizeOf104
  v46 := Try.zeroValue104
  t51 := Try.underlying118
  a51 := Try.isAgg118
  z51 := Try.sizeOf118
  v51 := Try.zeroValue118
  t53 := Try.underlying120
  a53 := Try.isAgg120
  z53 := Try.sizeOf120
  v53 := Try.zeroValue120
  t131 := Try.underlying115
  a131 := Try.isAgg115
  z131 := Try.sizeOf115
  v131 := Try.zeroValue115
  t182 := Try.underlying109
  a182 := Try.isAgg109
  z182 := Try.sizeOf109
  v182 := Try.zeroValue109
  t183 := Try.underlying110
  a183 := Try.isAgg110
  z183 := Try.sizeOf110
  v183 := Try.zeroValue110
  t218 := Try.underlying128
  a218 := Try.isAgg128
  z218 := Try.sizeOf128
  v218 := Try.zeroValue128
  t222 := Try.underlying132
  a222 := Try.isAgg132
  z222 := Try.sizeOf132
  v222 := Try.zeroValue132
  t228 := Try.underlying137
  a228 := Try.isAgg137
  z228 := Try.sizeOf137
  v228 := Try.zeroValue137
  t229 := Try.underlying138
  a229 := Try.isAgg138
  z229 := Try.sizeOf138
  v229 := Try.zeroValue138 }
open Go.Sort Go.RowKit in
theorem Try.slices_Sort_int (blk off cap : Nat) (zs : List Int) (w : World) (hH : Holds (Value.int .i64) w blk off zs.toArray) (hblk : blk < w.heap.size) (hsz : zs.length < 4611686018427387904) :
    Calls Try.prog 63 #[.slice (some ⟨blk, off, none⟩) zs.length cap] w fun e w' =>
      e = .returned (.tuple #[]) ∧ ∃ n os, w' = grow (putRow (Value.int .i64) (Sort.ahead w n) blk off (zs.mergeSort fun x y => decide (x ≤ y)).toArray) os := Any.slices_Sort_int Try.lays189 blk off cap zs w hH hblk hsz
def Try.lays190_ren : Go.Shelf.Ren := ⟨fun | 190 => 67 | 125 => 80 | 258 => 81 | 128 => 94 | 129 => 95 | 302 => 96 | 303 => 97 | 304 => 98 | 305 => 99 | 306 => 100 | 307 => 101 | 308 => 102 | 309 => 103 | 310 => 104 | 333 => 112 | 329 => 107 | 330 => 108 | 334 => 113 | 335 => 114 | 336 => 115 | 344 => 117 | n => n, fun | 31 => 32 | 9 => 9 | 3 => 3 | 46 => 104 | 0 => 0 | 51 => 118 | 53 => 120 | 4 => 4 | 183 => 110 | 182 => 109 | 131 => 115 | 5 => 5 | 218 => 128 | 222 => 132 | 228 => 137 | 229 => 138 | n => n, fun | n => n⟩
theorem Try.lays190 : Go.Proofs.Lays.n190 Try.prog Try.lays190_ren := {
  mixed := by kernel_rfl
  f125 := Try.func80.trans (congrArg some (by kernel_rfl))
  f128 := Try.func94.trans (congrArg some (by kernel_rfl))
  f129 := Try.func95.trans (congrArg some (by kernel_rfl))
  f190 := Try.func67.trans (congrArg some (by kernel_rfl))
  f258 := Try.func81.trans (congrArg some (by kernel_rfl))
  f302 := Try.func96.trans (congrArg some (by kernel_rfl))
  f303 := Try.func97.trans (congrArg some (by kernel_rfl))
  f304 := Try.func98.trans (congrArg some (by kernel_rfl))
  f305 := Try.func99.trans (congrArg some (by kernel_rfl))
  f306 := Try.func100.trans (congrArg some (by kernel_rfl))
  f307 := Try.func101.trans (congrArg some (by kernel_rfl))
  f308 := Try.func102.trans (congrArg some (by kernel_rfl))
  f309 := Try.func103.trans (congrArg some (by kernel_rfl))
  f310 := Try.func104.trans (congrArg some (by kernel_rfl))
  f329 := Try.func107.trans (congrArg some (by kernel_rfl))
  f330 := Try.func108.trans (congrArg some (by kernel_rfl))
  f333 := Try.func112.trans (congrArg some (by kernel_rfl))
  f334 := Try.func113.trans (congrArg some (by kernel_rfl))
  f335 := Try.func114.trans (congrArg some (by kernel_rfl))
  f336 := Try.func115.trans (congrArg some (by kernel_rfl))
  f344 := Try.func117.trans (congrArg some (by kernel_rfl))
  t0 := Try.underlying0
  a0 := Try.isAgg0
  z0 := Try.sizeOf0
  v0 := Try.zeroValue0
  t3 := Try.underlying3
  a3 := Try.isAgg3
  z3 := Try.sizeOf3
  v3 := Try.zeroValue3
  t4 := Try.underlying4
  a4 := Try.isAgg4
  z4 := Try.sizeOf4
  v4 := Try.zeroValue4
  t5 := Try.underlying5
  a5 := Try.isAgg5
  z5 := Try.sizeOf5
  v5 := Try.zeroValue5
  t9 := Try.underlying9
  a9 := Try.isAgg9
  z9 := Try.sizeOf9
  v9 := Try.zeroValue9
  t31 := Try.underlying32
  a31 := Try.isAgg32
  z31 := Try.sizeOf32
  v31 := Try.zeroValue32
  t46 := Try.underlying104
  a46 := Try.isAgg104
  z46 := Try.sizeOf104
  v46 := Try.zeroValue104
  t51 := Try.underlying118
  a51 := Try.isAgg118
  z51 := Try.sizeOf118
  v51 := Try.zeroValue118
  t53 := Try.underlying120
  a53 := Try.isAgg120
  z53 := Try.sizeOf120
  v53 := Try.zeroValue120
  t131 := Try.underlying115
  a131 := Try.isAgg115
  z131 := Try.sizeOf115
  v131 := Try.zeroValue115
  t182 := Try.underlying109
  a182 := Try.isAgg109
  z182 := Try.sizeOf109
  v182 := Try.zeroValue109
  t183 := Try.underlying110
  a183 := Try.isAgg110
  z183 := Try.sizeOf110
  v183 := Try.zeroValue110
  t218 := Try.underlying128
  a218 := Try.isAgg128
  z218 := Try.sizeOf128
  v218 := Try.zeroValue128
  t222 := Try.underlying132
  a222 := Try.isAgg132
  z222 := Try.sizeOf132
  v222 := Try.zeroValue132
  t228 := Try.underlying137
  a228 := Try.isAgg137
  z228 := Try.sizeOf137
  v228 := Try.zeroValue137
  t229 := Try.underlying138
  a229 := Try.isAgg138
  z229 := Try.sizeOf138
  v229 := Try.zeroValue138 }
open Go.Sort Go.RowKit in
theorem Try.slices_Sort_string (blk off cap : Nat) (ss : List (List UInt8)) (w : World) (hH : Holds encStr w blk off ss.toArray) (hblk : blk < w.heap.size) (hsz : ss.length < 4611686018427387904) :
    Calls Try.prog 67 #[.slice (some ⟨blk, off, none⟩) ss.length cap] w fun e w' =>
      e = .returned (.tuple #[]) ∧ ∃ n os, w' = grow (putRow encStr (Sort.ahead w n) blk off (ss.mergeSort fun x y => decide (x ≤ y)).toArray) os := Any.slices_Sort_string Try.lays190 blk off cap ss w hH hblk hsz
def Try.lays108_ren : Go.Shelf.Ren := ⟨fun | 108 => 69 | n => n, fun | 28 => 25 | 3 => 3 | 0 => 0 | 4 => 4 | n => n, fun | n => n⟩
theorem Try.lays108 : Go.Proofs.Lays.n108 Try.prog Try.lays108_ren := {
  mixed := by kernel_rfl
  f108 := Try.func69.trans (congrArg some (by kernel_rfl))
  t0 := Try.underlying0
  a0 := Try.isAgg0
  z0 := Try.sizeOf0
  v0 := Try.zeroValue0
  t3 := Try.underlying3
  a3 := Try.isAgg3
  z3 := Try.sizeOf3
  v3 := Try.zeroValue3
  t4 := Try.underlying4
  a4 := Try.isAgg4
  z4 := Try.sizeOf4
  v4 := Try.zeroValue4
  t28 := Try.underlying25
  a28 := Try.isAgg25
  z28 := Try.sizeOf25
  v28 := Try.zeroValue25 }
open Go.Lib in
/-- slices.Index at []int: "Index returns the index of the first occurrence of v in s, or -1 if not present.": IT RETURNS 'Lib.idxOf (the elements) v'; the world is as it was. 'zs': what the cells behind the slice's address hold (its spare capacity too, if you have it); 'zs.take n': its elements. (LAID: no walk: one application.) -/
theorem Try.slices_Index_int (b off n c : Nat) (zs : List Int) (x : Int) (w : World) (hz : n ≤ zs.length) (hbig : n ≤ 9223372036854775807) (hc : ∀ j, j < zs.length → w.cell? ⟨b, off + j, none⟩ = some (.int .i64 (zs.getD j 0))) :
    Calls Try.prog 69 #[.slice (some ⟨b, off, none⟩) n c, .int .i64 x] w fun e w' => e = .returned (.int .i64 (Lib.idxOf (zs.take n) x)) ∧ w' = w := Any.slices_Index_int Try.lays108 b off n c zs x w hz hbig hc
open Go.Lib in
/-- The same at a slice of length 0, a nil one too: no cell is known, none is asked for. (LAID: no walk: one application.) -/
theorem Try.slices_Index_int_empty (a : Option Addr) (c : Nat) (x : Int) (w : World) :
    Calls Try.prog 69 #[.slice a 0 c, .int .i64 x] w fun e w' => e = .returned (.int .i64 (Lib.idxOf [] x)) ∧ w' = w := Any.slices_Index_int_empty Try.lays108 a c x w
def Try.lays107_ren : Go.Shelf.Ren := ⟨fun | 107 => 52 | 108 => 69 | n => n, fun | 28 => 25 | 3 => 3 | 4 => 4 | 0 => 0 | n => n, fun | n => n⟩
theorem Try.lays107 : Go.Proofs.Lays.n107 Try.prog Try.lays107_ren := {
  mixed := by kernel_rfl
  f107 := Try.func52.trans (congrArg some (by kernel_rfl))
  f108 := Try.func69.trans (congrArg some (by kernel_rfl))
  t0 := Try.underlying0
  a0 := Try.isAgg0
  z0 := Try.sizeOf0
  v0 := Try.zeroValue0
  t3 := Try.underlying3
  a3 := Try.isAgg3
  z3 := Try.sizeOf3
  v3 := Try.zeroValue3
  t4 := Try.underlying4
  a4 := Try.isAgg4
  z4 := Try.sizeOf4
  v4 := Try.zeroValue4
  t28 := Try.underlying25
  a28 := Try.isAgg25
  z28 := Try.sizeOf25
  v28 := Try.zeroValue25 }
open Go.Lib in
/-- slices.Contains at []int: "Contains reports whether v is present in s.": IT RETURNS 'elements.contains v'; the world is as it was. ITS CALLEE slices.Index IS MET BY ITS OWN CONTRACT OFF THE SHELF (lay that first): no loop is walked here. (LAID: no walk: one application.) -/
theorem Try.slices_Contains_int (b off n c : Nat) (zs : List Int) (x : Int) (w : World) (hz : n ≤ zs.length) (hbig : n ≤ 9223372036854775807) (hc : ∀ j, j < zs.length → w.cell? ⟨b, off + j, none⟩ = some (.int .i64 (zs.getD j 0))) :
    Calls Try.prog 52 #[.slice (some ⟨b, off, none⟩) n c, .int .i64 x] w fun e w' => e = .returned (.bool ((zs.take n).contains x)) ∧ w' = w := Any.slices_Contains_int Try.lays107 b off n c zs x w hz hbig hc
open Go.Lib in
/-- The same at a slice of length 0, a nil one too. (LAID: no walk: one application.) -/
theorem Try.slices_Contains_int_empty (a : Option Addr) (c : Nat) (x : Int) (w : World) :
    Calls Try.prog 52 #[.slice a 0 c, .int .i64 x] w fun e w' => e = .returned (.bool false) ∧ w' = w := Any.slices_Contains_int_empty Try.lays107 a c x w
def Try.lays109_ren : Go.Shelf.Ren := ⟨fun | 109 => 59 | n => n, fun | 31 => 32 | 9 => 9 | 3 => 3 | 0 => 0 | 4 => 4 | n => n, fun | n => n⟩
theorem Try.lays109 : Go.Proofs.Lays.n109 Try.prog Try.lays109_ren := {
  mixed := by kernel_rfl
  f109 := Try.func59.trans (congrArg some (by kernel_rfl))
  t0 := Try.underlying0
  a0 := Try.isAgg0
  z0 := Try.sizeOf0
  v0 := Try.zeroValue0
  t3 := Try.underlying3
  a3 := Try.isAgg3
  z3 := Try.sizeOf3
  v3 := Try.zeroValue3
  t4 := Try.underlying4
  a4 := Try.isAgg4
  z4 := Try.sizeOf4
  v4 := Try.zeroValue4
  t9 := Try.underlying9
  a9 := Try.isAgg9
  z9 := Try.sizeOf9
  v9 := Try.zeroValue9
  t31 := Try.underlying32
  a31 := Try.isAgg32
  z31 := Try.sizeOf32
  v31 := Try.zeroValue32 }
open Go.Lib in
/-- slices.Index at []string: "Index returns the index of the first occurrence of v in s, or -1 if not present.": IT RETURNS 'Lib.idxOfS (the elements) v'; the world is as it was. 'zs': what the cells behind the slice's address hold (its spare capacity too, if you have it); 'zs.take n': its elements. (LAID: no walk: one application.) -/
theorem Try.slices_Index_string (b off n c : Nat) (zs : List ByteArray) (x : ByteArray) (w : World) (hz : n ≤ zs.length) (hbig : n ≤ 9223372036854775807) (hc : ∀ j, j < zs.length → w.cell? ⟨b, off + j, none⟩ = some (.string (zs.getD j ByteArray.empty))) :
    Calls Try.prog 59 #[.slice (some ⟨b, off, none⟩) n c, .string x] w fun e w' => e = .returned (.int .i64 (Lib.idxOfS (zs.take n) x)) ∧ w' = w := Any.slices_Index_string Try.lays109 b off n c zs x w hz hbig hc
open Go.Lib in
/-- The same at a slice of length 0, a nil one too: no cell is known, none is asked for. (LAID: no walk: one application.) -/
theorem Try.slices_Index_string_empty (a : Option Addr) (c : Nat) (x : ByteArray) (w : World) :
    Calls Try.prog 59 #[.slice a 0 c, .string x] w fun e w' => e = .returned (.int .i64 (Lib.idxOfS [] x)) ∧ w' = w := Any.slices_Index_string_empty Try.lays109 a c x w
def Try.lays110_ren : Go.Shelf.Ren := ⟨fun | 110 => 46 | 109 => 59 | n => n, fun | 31 => 32 | 9 => 9 | 4 => 4 | 3 => 3 | 0 => 0 | n => n, fun | n => n⟩
theorem Try.lays110 : Go.Proofs.Lays.n110 Try.prog Try.lays110_ren := {
  mixed := by kernel_rfl
  f109 := Try.func59.trans (congrArg some (by kernel_rfl))
  f110 := Try.func46.trans (congrArg some (by kernel_rfl))
  t0 := Try.underlying0
  a0 := Try.isAgg0
  z0 := Try.sizeOf0
  v0 := Try.zeroValue0
  t3 := Try.underlying3
  a3 := Try.isAgg3
  z3 := Try.sizeOf3
  v3 := Try.zeroValue3
  t4 := Try.underlying4
  a4 := Try.isAgg4
  z4 := Try.sizeOf4
  v4 := Try.zeroValue4
  t9 := Try.underlying9
  a9 := Try.isAgg9
  z9 := Try.sizeOf9
  v9 := Try.zeroValue9
  t31 := Try.underlying32
  a31 := Try.isAgg32
  z31 := Try.sizeOf32
  v31 := Try.zeroValue32 }
open Go.Lib in
/-- slices.Contains at []string: "Contains reports whether v is present in s.": IT RETURNS 'Lib.containsS (the elements) v', which is true just where v is among them ('Lib.containsS_iff'); the world is as it was. ITS CALLEE slices.Index IS MET BY ITS OWN CONTRACT OFF THE SHELF (lay that first): no loop is walked here. (LAID: no walk: one application.) -/
theorem Try.slices_Contains_string (b off n c : Nat) (zs : List ByteArray) (x : ByteArray) (w : World) (hz : n ≤ zs.length) (hbig : n ≤ 9223372036854775807) (hc : ∀ j, j < zs.length → w.cell? ⟨b, off + j, none⟩ = some (.string (zs.getD j ByteArray.empty))) :
    Calls Try.prog 46 #[.slice (some ⟨b, off, none⟩) n c, .string x] w fun e w' => e = .returned (.bool (Lib.containsS (zs.take n) x)) ∧ w' = w := Any.slices_Contains_string Try.lays110 b off n c zs x w hz hbig hc
open Go.Lib in
/-- The same at a slice of length 0, a nil one too. (LAID: no walk: one application.) -/
theorem Try.slices_Contains_string_empty (a : Option Addr) (c : Nat) (x : ByteArray) (w : World) :
    Calls Try.prog 46 #[.slice a 0 c, .string x] w fun e w' => e = .returned (.bool false) ∧ w' = w := Any.slices_Contains_string_empty Try.lays110 a c x w
def Try.laysNm215_ren : Go.Shelf.Ren := ⟨fun | 15 => 61 | n => n, fun | 22 => 25 | 3 => 3 | 4 => 4 | n => n, fun | n => n⟩
theorem Try.laysNm215 : Go.Proofs.Lays2.n15 Try.prog Try.laysNm215_ren := {
  mixed := by kernel_rfl
  f15 := Try.func61.trans (congrArg some (by kernel_rfl))
  t3 := Try.underlying3
  a3 := Try.isAgg3
  z3 := Try.sizeOf3
  v3 := Try.zeroValue3
  t4 := Try.underlying4
  a4 := Try.isAgg4
  z4 := Try.sizeOf4
  v4 := Try.zeroValue4
  t22 := Try.underlying25
  a22 := Try.isAgg25
  z22 := Try.sizeOf25
  v22 := Try.zeroValue25
  i3 := by kernel_rfl }
open Go.RowKit Go.Lib in
/-- slices.Clone at []int: "Clone returns a copy of the slice. The elements are copied using assignment, so this is a shallow clone. The result may have additional unused capacity. The result preserves the nilness of s.": OF A SLICE THAT IS NOT nil IT RETURNS A SLICE THAT IS NOT nil, OF THE SAME ELEMENTS, IN MEMORY OF THE CALL's OWN: in the how-to's words (6f): 'w'.ownsRow B e 1 v' n cells': v' begins at the head of a row among the blocks from B on (B: the heap's size at the call), not frozen, whose first cells are the elements · 'Below B w w'': below B all is as it was. The capacity is whatever the run-time gives. 'zs': what the cells behind the slice's address hold; 'zs.take n': its elements. (LAID: no walk: one application.) -/
theorem Try.slices_Clone_int (b off n c : Nat) (zs : List Int) (w : World) (hz : n ≤ zs.length) (hbig : n * 8 ≤ 140737488355328) (hc : ∀ j, j < zs.length → w.cell? ⟨b, off + j, none⟩ = some (.int .i64 (zs.getD j 0))) :
    Calls Try.prog 61 #[.slice (some ⟨b, off, none⟩) n c] w fun e w' => ∃ v', e = .returned v' ∧ w'.ownsRow w.heap.size 3 1 v' n ((zs.take n).map (Value.int .i64)) ∧ v' ≠ .slice none 0 0 ∧ Below w.heap.size w w' := Any.slices_Clone_int Try.laysNm215 b off n c zs w hz hbig hc
open Go.RowKit Go.Lib in
/-- The same at nil: nil comes back; the world is as it was. (LAID: no walk: one application.) -/
theorem Try.slices_Clone_int_nil (n c : Nat) (w : World) :
    Calls Try.prog 61 #[.slice none n c] w fun e w' => e = .returned (.slice none 0 0) ∧ w' = w := Any.slices_Clone_int_nil Try.laysNm215 n c w
def Try.laysNm216_ren : Go.Shelf.Ren := ⟨fun | 16 => 66 | n => n, fun | 24 => 32 | 9 => 9 | 4 => 4 | n => n, fun | n => n⟩
theorem Try.laysNm216 : Go.Proofs.Lays2.n16 Try.prog Try.laysNm216_ren := {
  mixed := by kernel_rfl
  f16 := Try.func66.trans (congrArg some (by kernel_rfl))
  t4 := Try.underlying4
  a4 := Try.isAgg4
  z4 := Try.sizeOf4
  v4 := Try.zeroValue4
  t9 := Try.underlying9
  a9 := Try.isAgg9
  z9 := Try.sizeOf9
  v9 := Try.zeroValue9
  t24 := Try.underlying32
  a24 := Try.isAgg32
  z24 := Try.sizeOf32
  v24 := Try.zeroValue32
  i9 := by kernel_rfl }
open Go.RowKit Go.Lib in
/-- slices.Clone at []string: "Clone returns a copy of the slice. The elements are copied using assignment, so this is a shallow clone. The result may have additional unused capacity. The result preserves the nilness of s.": OF A SLICE THAT IS NOT nil IT RETURNS A SLICE THAT IS NOT nil, OF THE SAME ELEMENTS, IN MEMORY OF THE CALL's OWN: in the how-to's words (6f): 'w'.ownsRow B e 1 v' n cells': v' begins at the head of a row among the blocks from B on (B: the heap's size at the call), not frozen, whose first cells are the elements · 'Below B w w'': below B all is as it was. The capacity is whatever the run-time gives. 'zs': what the cells behind the slice's address hold; 'zs.take n': its elements. (LAID: no walk: one application.) -/
theorem Try.slices_Clone_string (b off n c : Nat) (zs : List ByteArray) (w : World) (hz : n ≤ zs.length) (hbig : n * 16 ≤ 140737488355328) (hc : ∀ j, j < zs.length → w.cell? ⟨b, off + j, none⟩ = some (.string (zs.getD j ByteArray.empty))) :
    Calls Try.prog 66 #[.slice (some ⟨b, off, none⟩) n c] w fun e w' => ∃ v', e = .returned v' ∧ w'.ownsRow w.heap.size 9 1 v' n ((zs.take n).map (Value.string)) ∧ v' ≠ .slice none 0 0 ∧ Below w.heap.size w w' := Any.slices_Clone_string Try.laysNm216 b off n c zs w hz hbig hc
open Go.RowKit Go.Lib in
/-- The same at nil: nil comes back; the world is as it was. (LAID: no walk: one application.) -/
theorem Try.slices_Clone_string_nil (n c : Nat) (w : World) :
    Calls Try.prog 66 #[.slice none n c] w fun e w' => e = .returned (.slice none 0 0) ∧ w' = w := Any.slices_Clone_string_nil Try.laysNm216 n c w
open Go.RowKit Go.Lib in
/-- The same at a slice of length 0 that is not nil, WHATEVER ITS ADDRESS (no cell is asked for): a slice that is not nil and owns nothing comes back. (LAID: no walk: one application.) -/
theorem Try.slices_Clone_int_zero (a : Addr) (c : Nat) (w : World) :
    Calls Try.prog 61 #[.slice (some a) 0 c] w fun e w' => ∃ v', e = .returned v' ∧ w'.ownsRow w.heap.size 3 1 v' 0 [] ∧ v' ≠ .slice none 0 0 ∧ Below w.heap.size w w' := Any.slices_Clone_int_zero Try.laysNm215 a c w
open Go.RowKit Go.Lib in
/-- The same at a slice of length 0 that is not nil, WHATEVER ITS ADDRESS (no cell is asked for): a slice that is not nil and owns nothing comes back. (LAID: no walk: one application.) -/
theorem Try.slices_Clone_string_zero (a : Addr) (c : Nat) (w : World) :
    Calls Try.prog 66 #[.slice (some a) 0 c] w fun e w' => ∃ v', e = .returned v' ∧ w'.ownsRow w.heap.size 9 1 v' 0 [] ∧ v' ≠ .slice none 0 0 ∧ Below w.heap.size w w' := Any.slices_Clone_string_zero Try.laysNm216 a c w
def Try.laysNm220_ren : Go.Shelf.Ren := ⟨fun | 20 => 64 | n => n, fun | 22 => 25 | 3 => 3 | 4 => 4 | 0 => 0 | n => n, fun | n => n⟩
theorem Try.laysNm220 : Go.Proofs.Lays2.n20 Try.prog Try.laysNm220_ren := {
  mixed := by kernel_rfl
  f20 := Try.func64.trans (congrArg some (by kernel_rfl))
  t0 := Try.underlying0
  a0 := Try.isAgg0
  z0 := Try.sizeOf0
  v0 := Try.zeroValue0
  t3 := Try.underlying3
  a3 := Try.isAgg3
  z3 := Try.sizeOf3
  v3 := Try.zeroValue3
  t4 := Try.underlying4
  a4 := Try.isAgg4
  z4 := Try.sizeOf4
  v4 := Try.zeroValue4
  t22 := Try.underlying25
  a22 := Try.isAgg25
  z22 := Try.sizeOf25
  v22 := Try.zeroValue25
  i3 := by kernel_rfl }
open Go.RowKit Go.Lib Go.Sort in
/-- slices.Compact at []int, over an array: the library's two loops are walked. (LAID: no walk: one application.) -/
theorem Try.slices_Compact_int_arr (blk off cap : Nat) (d : Array Int) (w : World) (hH : Holds encI w blk off d) (hsz : d.size ≤ 9223372036854775807) (hcap : d.size ≤ cap) :
    Calls Try.prog 64 #[.slice (some ⟨blk, off, none⟩) d.size cap] w fun e w' => e = .returned (.slice (some ⟨blk, off, none⟩) (compactUpTo d d.size).length cap) ∧ ∃ q, w' = putRow encI (Sort.ahead w q) blk off (compactUpTo d d.size ++ List.replicate (d.size - (compactUpTo d d.size).length) 0).toArray := Any.slices_Compact_int_arr Try.laysNm220 blk off cap d w hH hsz hcap
open Go.RowKit Go.Lib Go.Sort in
/-- slices.Compact at []int: "Compact replaces consecutive runs of equal elements with a single copy. This is like the uniq command found on Unix. Compact modifies the contents of the slice s and returns the modified slice, which may have a smaller length. Compact zeroes the elements between the new length and the original length. The result preserves the nilness of s.": IT RETURNS THE SLICE CUT TO 'Lib.compact zs'; ITS CELLS HOLD 'Lib.compact zs', THEN ZERO VALUES up to the old length; all else is as it was, but for the count of draws. IN THE WORDS OF slices.Sort's CONTRACT ('Holds', 'putRow'): so the everyday 'slices.Sort(xs); xs = slices.Compact(xs)' goes from the one contract to the other. It asks 'zs.length ≤ cap' (every slice's: the reslicing 's[:k]' looks at it). Length 0, nil: '.._empty'. (LAID: no walk: one application.) -/
theorem Try.slices_Compact_int (blk off cap : Nat) (zs : List Int) (w : World) (hH : Holds (Value.int .i64) w blk off zs.toArray) (hsz : zs.length ≤ 9223372036854775807) (hcap : zs.length ≤ cap) :
    Calls Try.prog 64 #[.slice (some ⟨blk, off, none⟩) zs.length cap] w fun e w' => e = .returned (.slice (some ⟨blk, off, none⟩) (Lib.compact zs).length cap) ∧ ∃ q, w' = putRow (Value.int .i64) (Sort.ahead w q) blk off (Lib.compact zs ++ List.replicate (zs.length - (Lib.compact zs).length) 0).toArray := Any.slices_Compact_int Try.laysNm220 blk off cap zs w hH hsz hcap
open Go.RowKit Go.Lib Go.Sort in
/-- The same at a slice of length 0, a nil one too: it comes back as it is. (LAID: no walk: one application.) -/
theorem Try.slices_Compact_int_empty (a : Option Addr) (cap : Nat) (w : World) :
    Calls Try.prog 64 #[.slice a 0 cap] w fun e w' => e = .returned (.slice a 0 cap) ∧ w' = w := Any.slices_Compact_int_empty Try.laysNm220 a cap w
def Try.lays194_ren : Go.Shelf.Ren := ⟨fun | 194 => 68 | n => n, fun | 31 => 32 | 9 => 9 | 3 => 3 | 4 => 4 | 0 => 0 | n => n, fun | n => n⟩
theorem Try.lays194 : Go.Proofs.Lays.n194 Try.prog Try.lays194_ren := {
  mixed := by kernel_rfl
  f194 := Try.func68.trans (congrArg some (by kernel_rfl))
  t0 := Try.underlying0
  a0 := Try.isAgg0
  z0 := Try.sizeOf0
  v0 := Try.zeroValue0
  t3 := Try.underlying3
  a3 := Try.isAgg3
  z3 := Try.sizeOf3
  v3 := Try.zeroValue3
  t4 := Try.underlying4
  a4 := Try.isAgg4
  z4 := Try.sizeOf4
  v4 := Try.zeroValue4
  t9 := Try.underlying9
  a9 := Try.isAgg9
  z9 := Try.sizeOf9
  v9 := Try.zeroValue9
  t31 := Try.underlying32
  a31 := Try.isAgg32
  z31 := Try.sizeOf32
  v31 := Try.zeroValue32 }
open Go.RowKit Go.Lib Go.Sort in
/-- slices.Compact at []string, over an array: the library's two loops are walked. (LAID: no walk: one application.) -/
theorem Try.slices_Compact_string_arr (blk off cap : Nat) (d : Array (List UInt8)) (w : World) (hH : Holds encStr w blk off d) (hsz : d.size ≤ 9223372036854775807) (hcap : d.size ≤ cap) :
    Calls Try.prog 68 #[.slice (some ⟨blk, off, none⟩) d.size cap] w fun e w' => e = .returned (.slice (some ⟨blk, off, none⟩) (compactUpTo d d.size).length cap) ∧ ∃ q, w' = putRow encStr (Sort.ahead w q) blk off (compactUpTo d d.size ++ List.replicate (d.size - (compactUpTo d d.size).length) []).toArray := Any.slices_Compact_string_arr Try.lays194 blk off cap d w hH hsz hcap
open Go.RowKit Go.Lib Go.Sort in
/-- slices.Compact at []string: "Compact replaces consecutive runs of equal elements with a single copy. This is like the uniq command found on Unix. Compact modifies the contents of the slice s and returns the modified slice, which may have a smaller length. Compact zeroes the elements between the new length and the original length. The result preserves the nilness of s.": IT RETURNS THE SLICE CUT TO 'Lib.compact zs'; ITS CELLS HOLD 'Lib.compact zs', THEN ZERO VALUES up to the old length; all else is as it was, but for the count of draws. IN THE WORDS OF slices.Sort's CONTRACT ('Holds', 'putRow'): so the everyday 'slices.Sort(xs); xs = slices.Compact(xs)' goes from the one contract to the other. It asks 'zs.length ≤ cap' (every slice's: the reslicing 's[:k]' looks at it). Length 0, nil: '.._empty'. (LAID: no walk: one application.) -/
theorem Try.slices_Compact_string (blk off cap : Nat) (zs : List (List UInt8)) (w : World) (hH : Holds encStr w blk off zs.toArray) (hsz : zs.length ≤ 9223372036854775807) (hcap : zs.length ≤ cap) :
    Calls Try.prog 68 #[.slice (some ⟨blk, off, none⟩) zs.length cap] w fun e w' => e = .returned (.slice (some ⟨blk, off, none⟩) (Lib.compact zs).length cap) ∧ ∃ q, w' = putRow encStr (Sort.ahead w q) blk off (Lib.compact zs ++ List.replicate (zs.length - (Lib.compact zs).length) []).toArray := Any.slices_Compact_string Try.lays194 blk off cap zs w hH hsz hcap
open Go.RowKit Go.Lib Go.Sort in
/-- The same at a slice of length 0, a nil one too: it comes back as it is. (LAID: no walk: one application.) -/
theorem Try.slices_Compact_string_empty (a : Option Addr) (cap : Nat) (w : World) :
    Calls Try.prog 68 #[.slice a 0 cap] w fun e w' => e = .returned (.slice a 0 cap) ∧ w' = w := Any.slices_Compact_string_empty Try.lays194 a cap w
open Go.RowKit Go.Lib Go.Sort in
/-- slices.Compact at []int, of an argument: the slice cut to 'Lib.compact (elements)'; the n cells hold that, then zeros. (LAID: no walk: one application.) -/
theorem Try.slices_Compact_int_cells (b off n c : Nat) (zs : List Int) (w : World) (hz : n ≤ zs.length) (hbig : n ≤ 9223372036854775807) (hcap : n ≤ c) (hc : ∀ j, j < zs.length → w.cell? ⟨b, off + j, none⟩ = some (.int .i64 (zs.getD j 0))) (hf : ∀ j, j < n → w.frozen? ⟨b, off + j, none⟩ = false) :
    Calls Try.prog 64 #[.slice (some ⟨b, off, none⟩) n c] w fun e w' => e = .returned (.slice (some ⟨b, off, none⟩) (Lib.compact (zs.take n)).length c) ∧ ∃ q, w' = (w.drewN q).setCells b off ((Lib.compact (zs.take n) ++ List.replicate (n - (Lib.compact (zs.take n)).length) 0).map (Value.int .i64)) := Any.slices_Compact_int_cells Try.laysNm220 b off n c zs w hz hbig hcap hc hf
open Go.RowKit Go.Lib Go.Sort in
/-- slices.Compact at []string, of an argument. (LAID: no walk: one application.) -/
theorem Try.slices_Compact_string_cells (b off n c : Nat) (Sx : Nat → ByteArray) (w : World) (hbig : n ≤ 9223372036854775807) (hcap : n ≤ c) (hc : ∀ i, i < n → w.cell? ⟨b, off + i, none⟩ = some (.string (Sx i))) (hf : ∀ j, j < n → w.frozen? ⟨b, off + j, none⟩ = false) :
    Calls Try.prog 68 #[.slice (some ⟨b, off, none⟩) n c] w fun e w' => e = .returned (.slice (some ⟨b, off, none⟩) (Lib.compact (Lib.strsOf Sx n)).length c) ∧ ∃ q, w' = (w.drewN q).setCells b off ((Lib.compact (Lib.strsOf Sx n) ++ List.replicate (n - (Lib.compact (Lib.strsOf Sx n)).length) []).map encStr) := Any.slices_Compact_string_cells Try.lays194 b off n c Sx w hbig hcap hc hf
open Go.RowKit Go.Sort in
/-- .. and plain. (LAID: no walk: one application.) -/
theorem Try.slices_Sort_string_none (p : Option Addr) (cap : Nat) (w : World) :
    Calls Try.prog 67 #[.slice p 0 cap] w fun e w' => e = .returned (.tuple #[]) ∧ w' = w := Any.slices_Sort_string_none Try.lays190 p cap w
open Go.RowKit Go.Sort in
/-- .. and plain. (LAID: no walk: one application.) -/
theorem Try.slices_Sort_int_none (p : Option Addr) (cap : Nat) (w : World) :
    Calls Try.prog 63 #[.slice p 0 cap] w fun e w' => e = .returned (.tuple #[]) ∧ w' = w := Any.slices_Sort_int_none Try.lays189 p cap w
def Try.laysSlE43_f64_ren : Go.Shelf.Ren := ⟨fun | 43 => 64 | n => n, fun | 22 => 25 | 23 => 3 | 3 => 3 | 4 => 4 | 0 => 0 | n => n, fun | n => n⟩
theorem Try.laysSlE43_f64 : Go.Proofs.SlLaysE.n43 Try.prog Try.laysSlE43_f64_ren := {
  mixed := by kernel_rfl
  f43 := ⟨Try.f64.name, by decide, Try.func64.trans (congrArg some (by kernel_rfl))⟩
  t0 := Try.underlying0
  a0 := Try.isAgg0
  z0 := Try.sizeOf0
  v0 := Try.zeroValue0
  t3 := Try.underlying3
  a3 := Try.isAgg3
  z3 := Try.sizeOf3
  v3 := Try.zeroValue3
  t4 := Try.underlying4
  a4 := Try.isAgg4
  z4 := Try.sizeOf4
  v4 := Try.zeroValue4
  t22 := Try.underlying25
  a22 := Try.isAgg25
  z22 := Try.sizeOf25
  v22 := Try.zeroValue25
  a23 := Try.isAgg3
  z23 := Try.sizeOf3 }
open Go.RowKit Go.Lib Go.Sort in
/-- slices.Compact: "Compact replaces consecutive runs of equal elements with a single copy. .. Compact zeroes the elements between the new length and the original length.": IT RETURNS THE SLICE CUT TO 'compactUpTo d d.size'; ITS CELLS HOLD THAT, THEN ZERO VALUES up to the old length; the library's two loops are walked. (LAID AT THE INSTANCE 'slices.Compact[[]int,int]': no walk: one application.) -/
theorem Try.slices_Compact_f64 {α : Type} [Inhabited α] [DecidableEq α] (enc : α → Value) (hO : OneCell enc) (heq : EqlAt Try.prog 3 enc (fun x y => decide (x = y))) (hne : NeqAt Try.prog 3 enc (fun x y => decide (x = y))) (zr : α) (v23 : ∀ w, (zeroValue 3).run Try.prog w = .ok (enc zr) w) (blk off cap : Nat) (d : Array α) (w : World) (hH : Holds enc w blk off d) (hsz : d.size ≤ 9223372036854775807) (hcap : d.size ≤ cap) :
    Calls Try.prog 64 #[.slice (some ⟨blk, off, none⟩) d.size cap] w fun e w' => e = .returned (.slice (some ⟨blk, off, none⟩) (compactUpTo d d.size).length cap) ∧ ∃ q, w' = putRow enc (Sort.ahead w q) blk off (compactUpTo d d.size ++ List.replicate (d.size - (compactUpTo d d.size).length) zr).toArray := AnyE.slices_Compact Try.laysSlE43_f64 enc hO heq hne zr v23 blk off cap d w hH hsz hcap
def Try.laysSlE43_f68_ren : Go.Shelf.Ren := ⟨fun | 43 => 68 | n => n, fun | 22 => 32 | 23 => 9 | 3 => 3 | 4 => 4 | 0 => 0 | n => n, fun | n => n⟩
theorem Try.laysSlE43_f68 : Go.Proofs.SlLaysE.n43 Try.prog Try.laysSlE43_f68_ren := {
  mixed := by kernel_rfl
  f43 := ⟨Try.f68.name, by decide, Try.func68.trans (congrArg some (by kernel_rfl))⟩
  t0 := Try.underlying0
  a0 := Try.isAgg0
  z0 := Try.sizeOf0
  v0 := Try.zeroValue0
  t3 := Try.underlying3
  a3 := Try.isAgg3
  z3 := Try.sizeOf3
  v3 := Try.zeroValue3
  t4 := Try.underlying4
  a4 := Try.isAgg4
  z4 := Try.sizeOf4
  v4 := Try.zeroValue4
  t22 := Try.underlying32
  a22 := Try.isAgg32
  z22 := Try.sizeOf32
  v22 := Try.zeroValue32
  a23 := Try.isAgg9
  z23 := Try.sizeOf9 }
open Go.RowKit Go.Lib Go.Sort in
/-- slices.Compact: "Compact replaces consecutive runs of equal elements with a single copy. .. Compact zeroes the elements between the new length and the original length.": IT RETURNS THE SLICE CUT TO 'compactUpTo d d.size'; ITS CELLS HOLD THAT, THEN ZERO VALUES up to the old length; the library's two loops are walked. (LAID AT THE INSTANCE 'slices.Compact[[]string,string]': no walk: one application.) -/
theorem Try.slices_Compact_f68 {α : Type} [Inhabited α] [DecidableEq α] (enc : α → Value) (hO : OneCell enc) (heq : EqlAt Try.prog 9 enc (fun x y => decide (x = y))) (hne : NeqAt Try.prog 9 enc (fun x y => decide (x = y))) (zr : α) (v23 : ∀ w, (zeroValue 9).run Try.prog w = .ok (enc zr) w) (blk off cap : Nat) (d : Array α) (w : World) (hH : Holds enc w blk off d) (hsz : d.size ≤ 9223372036854775807) (hcap : d.size ≤ cap) :
    Calls Try.prog 68 #[.slice (some ⟨blk, off, none⟩) d.size cap] w fun e w' => e = .returned (.slice (some ⟨blk, off, none⟩) (compactUpTo d d.size).length cap) ∧ ∃ q, w' = putRow enc (Sort.ahead w q) blk off (compactUpTo d d.size ++ List.replicate (d.size - (compactUpTo d d.size).length) zr).toArray := AnyE.slices_Compact Try.laysSlE43_f68 enc hO heq hne zr v23 blk off cap d w hH hsz hcap
def Try.laysSlE041_f61_ren : Go.Shelf.Ren := ⟨fun | 41 => 61 | n => n, fun | 22 => 25 | 23 => 3 | 4 => 4 | n => n, fun | n => n⟩
theorem Try.laysSlE041_f61 : Go.Proofs.SlLaysE0.n41 Try.prog Try.laysSlE041_f61_ren := {
  mixed := by kernel_rfl
  f41 := ⟨Try.f61.name, by decide, Try.func61.trans (congrArg some (by kernel_rfl))⟩
  t4 := Try.underlying4
  a4 := Try.isAgg4
  z4 := Try.sizeOf4
  v4 := Try.zeroValue4
  t22 := Try.underlying25
  a22 := Try.isAgg25
  z22 := Try.sizeOf25
  v22 := Try.zeroValue25 }
open Go.RowKit Go.Lib in
/-- slices.Clone: "Clone returns a copy of the slice. The elements are copied using assignment, so this is a shallow clone. The result may have additional unused capacity. The result preserves the nilness of s.": OF A SLICE THAT IS NOT nil IT RETURNS A SLICE THAT IS NOT nil, OF THE SAME CELLS, IN MEMORY OF THE CALL's OWN ('ownsRow': the how-to's 6f); below the heap's size at the call all is as it was. (LAID AT THE INSTANCE 'slices.Clone[[]int,int]': no walk: one application.) -/
theorem Try.slices_Clone_f61 (i0 : TypeInfo) (z : Value) (size bytes : Nat) (hi : Try.prog.info? 3 = some i0) (hz0 : i0.zero = some z) (hz1 : i0.size = size) (hz2 : i0.bytes = bytes) (hzs : z.cells.size = size) (hsz : 0 < size) (z23 : ∀ w, (Go.sizeOf 3).run Try.prog w = .ok size w) (b off n c : Nat) (news : List Value) (w : World) (hl : news.length = n * size) (hn : n ≤ maxLen) (hbig : n * bytes ≤ 140737488355328) (hc : ∀ j u, news[j]? = some u → w.cell? ⟨b, off + j, none⟩ = some u) (h1 : ∀ u ∈ news, u.oneCell' = true) :
    Calls Try.prog 61 #[.slice (some ⟨b, off, none⟩) n c] w fun e w' => ∃ v', e = .returned v' ∧ w'.ownsRow w.heap.size 3 size v' n news ∧ v' ≠ .slice none 0 0 ∧ Below w.heap.size w w' := AnyE.slices_Clone Try.laysSlE041_f61 i0 z size bytes hi hz0 hz1 hz2 hzs hsz z23 b off n c news w hl hn hbig hc h1
def Try.laysSlE041_f66_ren : Go.Shelf.Ren := ⟨fun | 41 => 66 | n => n, fun | 22 => 32 | 23 => 9 | 4 => 4 | n => n, fun | n => n⟩
theorem Try.laysSlE041_f66 : Go.Proofs.SlLaysE0.n41 Try.prog Try.laysSlE041_f66_ren := {
  mixed := by kernel_rfl
  f41 := ⟨Try.f66.name, by decide, Try.func66.trans (congrArg some (by kernel_rfl))⟩
  t4 := Try.underlying4
  a4 := Try.isAgg4
  z4 := Try.sizeOf4
  v4 := Try.zeroValue4
  t22 := Try.underlying32
  a22 := Try.isAgg32
  z22 := Try.sizeOf32
  v22 := Try.zeroValue32 }
open Go.RowKit Go.Lib in
/-- slices.Clone: "Clone returns a copy of the slice. The elements are copied using assignment, so this is a shallow clone. The result may have additional unused capacity. The result preserves the nilness of s.": OF A SLICE THAT IS NOT nil IT RETURNS A SLICE THAT IS NOT nil, OF THE SAME CELLS, IN MEMORY OF THE CALL's OWN ('ownsRow': the how-to's 6f); below the heap's size at the call all is as it was. (LAID AT THE INSTANCE 'slices.Clone[[]string,string]': no walk: one application.) -/
theorem Try.slices_Clone_f66 (i0 : TypeInfo) (z : Value) (size bytes : Nat) (hi : Try.prog.info? 9 = some i0) (hz0 : i0.zero = some z) (hz1 : i0.size = size) (hz2 : i0.bytes = bytes) (hzs : z.cells.size = size) (hsz : 0 < size) (z23 : ∀ w, (Go.sizeOf 9).run Try.prog w = .ok size w) (b off n c : Nat) (news : List Value) (w : World) (hl : news.length = n * size) (hn : n ≤ maxLen) (hbig : n * bytes ≤ 140737488355328) (hc : ∀ j u, news[j]? = some u → w.cell? ⟨b, off + j, none⟩ = some u) (h1 : ∀ u ∈ news, u.oneCell' = true) :
    Calls Try.prog 66 #[.slice (some ⟨b, off, none⟩) n c] w fun e w' => ∃ v', e = .returned v' ∧ w'.ownsRow w.heap.size 9 size v' n news ∧ v' ≠ .slice none 0 0 ∧ Below w.heap.size w w' := AnyE.slices_Clone Try.laysSlE041_f66 i0 z size bytes hi hz0 hz1 hz2 hzs hsz z23 b off n c news w hl hn hbig hc h1
open Go.RowKit Go.Lib in
/-- The same at nil: nil comes back; the world is as it was; nothing is asked of the element's type. (LAID AT THE INSTANCE 'slices.Clone[[]int,int]': no walk: one application.) -/
theorem Try.slices_Clone_nil_f61 (n c : Nat) (w : World) :
    Calls Try.prog 61 #[.slice none n c] w fun e w' => e = .returned (.slice none 0 0) ∧ w' = w := AnyE.slices_Clone_nil Try.laysSlE041_f61 n c w
open Go.RowKit Go.Lib in
/-- The same at nil: nil comes back; the world is as it was; nothing is asked of the element's type. (LAID AT THE INSTANCE 'slices.Clone[[]string,string]': no walk: one application.) -/
theorem Try.slices_Clone_nil_f66 (n c : Nat) (w : World) :
    Calls Try.prog 66 #[.slice none n c] w fun e w' => e = .returned (.slice none 0 0) ∧ w' = w := AnyE.slices_Clone_nil Try.laysSlE041_f66 n c w
def Try.laysSlH6_f65_ren : Go.Shelf.Ren := ⟨fun | 6 => 65 | n => n, fun | 22 => 25 | 23 => 3 | 25 => 59 | 3 => 3 | 0 => 0 | 4 => 4 | n => n, fun | n => n⟩
theorem Try.laysSlH6_f65 : Go.Proofs.SlLaysH.n6 Try.prog Try.laysSlH6_f65_ren := {
  mixed := by kernel_rfl
  f6 := ⟨Try.f65.name, by decide, Try.func65.trans (congrArg some (by kernel_rfl))⟩
  t0 := Try.underlying0
  a0 := Try.isAgg0
  z0 := Try.sizeOf0
  v0 := Try.zeroValue0
  t3 := Try.underlying3
  a3 := Try.isAgg3
  z3 := Try.sizeOf3
  v3 := Try.zeroValue3
  t4 := Try.underlying4
  a4 := Try.isAgg4
  z4 := Try.sizeOf4
  v4 := Try.zeroValue4
  t22 := Try.underlying25
  a22 := Try.isAgg25
  z22 := Try.sizeOf25
  v22 := Try.zeroValue25
  a23 := Try.isAgg3
  z23 := Try.sizeOf3
  t25 := Try.underlying59
  a25 := Try.isAgg59
  z25 := Try.sizeOf59
  v25 := Try.zeroValue59 }
open Go.RowKit Go.Lib in
/-- slices.IndexFunc: "IndexFunc returns the first index i satisfying f(s[i]), or -1 if none do." (LAID AT THE INSTANCE 'slices.IndexFunc[[]int,int]': no walk: one application.) -/
theorem Try.slices_IndexFunc {α : Type} [Inhabited α] (enc : α → Value) (p : α → Bool) (g : Nat) (lb : Array Value) (eg : ∀ args w, (callFunc g args).run Try.prog w = .ok (.enter g args) w) (b off n c : Nat) (zs : List α) (w : World) (hp : PredAt Try.prog g lb enc p w) (hz : n ≤ zs.length) (hbig : n ≤ 9223372036854775807) (hc : ∀ j, j < zs.length → w.cell? ⟨b, off + j, none⟩ = some (enc zs[j]!)) :
    Calls Try.prog 65 #[.slice (some ⟨b, off, none⟩) n c, .func (.func g) #[] lb] w fun e w' => e = .returned (.int .i64 (Lib.idxBy (fun _ y => p y) (zs.take n) default)) ∧ ∃ q, w' = w.drewN q := AnyE.slices_IndexFunc Try.laysSlH6_f65 enc p g lb eg b off n c zs w hp hz hbig hc
open Go.RowKit Go.Lib in
/-- The same at a slice of length 0, a nil one too: the predicate is not called: nothing is asked of it. (LAID AT THE INSTANCE 'slices.IndexFunc[[]int,int]': no walk: one application.) -/
theorem Try.slices_IndexFunc_empty {α : Type} [Inhabited α] (a : Option Addr) (c : Nat) (fv : Value) (w : World) :
    Calls Try.prog 65 #[.slice a 0 c, fv] w fun e w' => e = .returned (.int .i64 (-1)) ∧ w' = w := AnyE.slices_IndexFunc_empty Try.laysSlH6_f65 a c fv w
def Try.laysSlH10_f48_ren : Go.Shelf.Ren := ⟨fun | 10 => 48 | 6 => 65 | n => n, fun | 22 => 25 | 23 => 3 | 25 => 59 | 3 => 3 | 4 => 4 | 0 => 0 | n => n, fun | n => n⟩
theorem Try.laysSlH10_f48 : Go.Proofs.SlLaysH.n10 Try.prog Try.laysSlH10_f48_ren := {
  mixed := by kernel_rfl
  f6 := ⟨Try.f65.name, by decide, Try.func65.trans (congrArg some (by kernel_rfl))⟩
  f10 := ⟨Try.f48.name, by decide, Try.func48.trans (congrArg some (by kernel_rfl))⟩
  t0 := Try.underlying0
  a0 := Try.isAgg0
  z0 := Try.sizeOf0
  v0 := Try.zeroValue0
  t3 := Try.underlying3
  a3 := Try.isAgg3
  z3 := Try.sizeOf3
  v3 := Try.zeroValue3
  t4 := Try.underlying4
  a4 := Try.isAgg4
  z4 := Try.sizeOf4
  v4 := Try.zeroValue4
  t22 := Try.underlying25
  a22 := Try.isAgg25
  z22 := Try.sizeOf25
  v22 := Try.zeroValue25
  a23 := Try.isAgg3
  z23 := Try.sizeOf3
  t25 := Try.underlying59
  a25 := Try.isAgg59
  z25 := Try.sizeOf59
  v25 := Try.zeroValue59 }
open Go.RowKit Go.Lib Go.Sort in
theorem Try.slices_DeleteFunc {α : Type} [Inhabited α] (enc : α → Value) (hO : OneCell enc) (p : α → Bool) (g : Nat) (lb : Array Value) (eg : ∀ args w, (callFunc g args).run Try.prog w = .ok (.enter g args) w) (zr : α) (v23 : ∀ w, (zeroValue 3).run Try.prog w = .ok (enc zr) w) (blk off cap : Nat) (d : Array α) (w : World) (hp : PredAt Try.prog g lb enc p w) (hpo : PredOver Try.prog g lb enc p blk off d.size w) (hH : Holds enc w blk off d) (hsz : d.size ≤ 9223372036854775807) (hcap : d.size ≤ cap) :
    Calls Try.prog 48 #[.slice (some ⟨blk, off, none⟩) d.size cap, .func (.func g) #[] lb] w fun e w' => e = .returned (.slice (some ⟨blk, off, none⟩) (d.toList.filter fun x => !p x).length cap) ∧ ∃ q, w' = putRow enc (Sort.ahead w q) blk off ((d.toList.filter fun x => !p x) ++ List.replicate (d.size - (d.toList.filter fun x => !p x).length) zr).toArray := AnyE.slices_DeleteFunc Try.laysSlH10_f48 enc hO p g lb eg zr v23 blk off cap d w hp hpo hH hsz hcap
end Go.Proofs
namespace Go.Proofs.Ytnepgcbgkhikkaa.H
open Go.RowKit Go.Sort Go.Proofs.YtnepgcbgkhikkaaW.PrintWords Go.Proofs.YtnepgcbgkhikkaaW.PrintLast Go.Proofs.YtnepgcbgkhikkaaW.PrintMore
set_option linter.unusedVariables false
def slices_Clone_string_string.f (l : List ByteArray) : Option (List ByteArray) := if l.length * 16 ≤ 140737488355328 then some l else none
theorem slices_Clone_string_string.calls (A0 : Option Addr) (c0 : Nat) (l0 r : List ByteArray) (w : World) (hr0 : Kd.C Kd.string w A0 l0.length l0) (_ : l0.length ≤ c0) (h : slices_Clone_string_string.f l0 = some r) :
    Calls Try.prog 66 #[.slice A0 l0.length c0] w fun e w' => ∃ v0_ : Value, e = .returned v0_ ∧ Kd.R Kd.string 9 w' w.heap.size (fun _ => True) v0_ r ∧ Below w.heap.size w w' := by
  unfold slices_Clone_string_string.f at h
  split at h
  case isFalse => cases h
  rename_i hz
  cases h
  cases A0 with
  | none =>
    have h0 : l0 = [] := by
      rcases Nat.eq_zero_or_pos l0.length with h0 | h0
      · exact List.length_eq_zero_iff.1 h0
      · obtain ⟨ad, e, _⟩ := hr0.2.2 h0
        cases e
    subst h0
    refine (Try.slices_Clone_string_nil _ c0 w).mono ?_
    rintro e w' ⟨rfl, rfl⟩
    exact ⟨_, rfl, Kd.R_nil _ _ _ _ _, Below.refl _ _⟩
  | some a =>
    rcases Nat.eq_zero_or_pos l0.length with h0 | h0
    · obtain rfl := List.length_eq_zero_iff.1 h0
      refine (Try.slices_Clone_string_zero a c0 w).mono ?_
      rintro e w' ⟨v, rfl, ho, _, hb⟩
      exact ⟨v, rfl, Kd.R_of_own ho (fun _ _ => trivial), hb⟩
    · obtain ⟨ad, e0, hc⟩ := hr0.2.2 h0
      cases e0
      have hcell : ∀ j, j < l0.length → w.cell? (a.add j) = some (Value.string (l0.getD j ByteArray.empty)) := fun j hj => by
        obtain ⟨ad, e1, hx⟩ := Kd.at_string hr0 (j : Int) (by omega) (by omega)
        cases e1
        rw [Int.toNat_natCast] at hx
        rw [hx]
        simp [rdOf]
      have hs : a.spot = none := by
        have h1 := hcell 0 h0
        unfold World.cell? at h1
        cases hsp : a.spot with
        | none => rfl
        | some k =>
          simp [Addr.add, hsp] at h1
          split at h1 <;> cases h1
      obtain ⟨b, off, sp⟩ := a
      cases hs
      have hbl : w.heap.size ≥ 0 := Nat.zero_le _
      refine (Try.slices_Clone_string b off l0.length c0 l0 w (Nat.le_refl _) hz (fun j hj => ?_)).mono ?_
      · have := hcell j hj
        rwa [show (⟨b, off, none⟩ : Addr).add j = ⟨b, off + j, none⟩ by unfold Addr.add; split <;> simp_all] at this
      · rintro e w' ⟨v, rfl, ho, _, hb⟩
        rw [List.take_of_length_le (Nat.le_refl _)] at ho
        exact ⟨v, rfl, Kd.R_of_own ho (fun _ _ => trivial), hb⟩
end Go.Proofs.Ytnepgcbgkhikkaa.H
namespace Go.Proofs.Ytnepgcbgkhikkaa.H
open Go.RowKit Go.Sort Go.Proofs.YtnepgcbgkhikkaaW.PrintWords Go.Proofs.YtnepgcbgkhikkaaW.PrintLast Go.Proofs.YtnepgcbgkhikkaaW.PrintMore
set_option linter.unusedVariables false
def slices_Compact_string_string.f (l : List ByteArray) : Option (List ByteArray) := some (compactS l)
theorem slices_Compact_string_string.calls (P0_ : Nat → Prop) (u9000_ : Value) (l0 r : List ByteArray) (w0 w : World) (hB : Below w0.heap.size w0 w) (ho0 : Kd.R Kd.string 9 w w0.heap.size P0_ u9000_ l0) (h : slices_Compact_string_string.f l0 = some r) :
    Calls Try.prog 68 #[u9000_] w fun e w' => ∃ v0_ : Value, e = .returned v0_ ∧ Kd.R Kd.string 9 w' w0.heap.size (fun k_ => (P0_ k_ ∨ w.heap.size ≤ k_)) v0_ r ∧ Below w0.heap.size w0 w' ∧ Kept w w' (fun k_ => P0_ k_) := by
  cases h
  have ho := Kd.own_of_R ho0
  obtain ⟨hlen, ho⟩ := ho
  rcases ho with ⟨rfl, h0⟩ | ⟨g, cap, cur, rfl, hbase, hb, h1, h2, h3, h4⟩
  · obtain rfl := List.length_eq_zero_iff.1 h0
    refine (Try.slices_Compact_string_empty none 0 w).mono ?_
    rintro e w' ⟨rfl, rfl⟩
    exact ⟨_, rfl, by simpa [compactS, Go.Lib.compact, Go.Lib.compactUpTo] using Kd.R_mono ho0 (fun k hk => .inl hk), hB, Kept.refl _ _⟩
  · have e4 : cur.toList.take (l0.map toL).length = (l0.map toL).map encStr := by
      rw [← encs_toL, List.length_map]
      rw [Nat.mul_one] at h4
      exact h4
    have hP : P0_ g := ho0.1 g rfl
    have hz : (l0.map toL).length ≤ 9223372036854775807 := by rw [List.length_map]; unfold maxLen at h2; omega
    have c := Try.slices_Compact_string g 0 cap (l0.map toL) w (so_holds hb e4) hz (by simpa using h1)
    rw [List.length_map] at c
    refine c.mono ?_
    rintro e w' ⟨rfl, q, rfl⟩
    generalize ht : Go.Lib.compact (l0.map toL) ++ List.replicate (l0.length - (Go.Lib.compact (l0.map toL)).length) ([] : List UInt8) = ts
    have hcl : (Go.Lib.compact (l0.map toL)).length ≤ l0.length := by simpa [compactS] using compactS_len l0
    have hl : ts.length = (l0.map toL).length := by rw [← ht]; simp; omega
    have e0 : putRow encStr (Sort.ahead w q) g 0 ts.toArray = grow (putRow encStr (Sort.ahead w q) g 0 ts.toArray) #[] := by simp
    rw [e0]
    have hgr := so_grown (w := w) (g := g) (n := q) (os := #[]) (enc := encStr) ts.toArray
    refine ⟨_, rfl, ?_, so_below hB hgr hbase, so_kept hgr hP⟩
    have hr := so_owns (w := w) (n := q) (os := #[]) (enc := encStr) (m := (Go.Lib.compact (l0.map toL)).length) (ts := ts) (ss := l0.map toL) hl (by rw [hl]; simpa using hcl) hbase hb (by simpa using h1) h2 h3
    refine Kd.R_of_own ?_ (fun k hk => .inl (ho0.1 k (by simpa [Value.ownBlock] using hk)))
    rw [← ht, List.take_left' rfl, encs_ofL] at hr
    rw [show (compactS l0).length = (Go.Lib.compact (l0.map toL)).length by simp [compactS]]
    rw [ht] at hr
    exact hr
end Go.Proofs.Ytnepgcbgkhikkaa.H
namespace Go.Proofs.Ytnepgcbgkhikkaa.H
open Go.RowKit Go.Sort Go.Proofs.YtnepgcbgkhikkaaW.PrintWords Go.Proofs.YtnepgcbgkhikkaaW.PrintLast Go.Proofs.YtnepgcbgkhikkaaW.PrintMore
set_option linter.unusedVariables false
def slices_Sort_string_string.f (l : List ByteArray) : Option (List ByteArray) := if l.length < 4611686018427387904 then some (sortS l) else none
theorem slices_Sort_string_string.calls (P0_ : Nat → Prop) (u9000_ : Value) (l0 r : List ByteArray) (w0 w : World) (hB : Below w0.heap.size w0 w) (ho0 : Kd.R Kd.string 9 w w0.heap.size P0_ u9000_ l0) (h : slices_Sort_string_string.f l0 = some r) :
    Calls Try.prog 67 #[u9000_] w fun e w' => e = .returned (.tuple #[]) ∧ Kd.R Kd.string 9 w' w0.heap.size (fun k_ => (P0_ k_ ∨ w.heap.size ≤ k_)) u9000_ r ∧ Below w0.heap.size w0 w' ∧ Kept w w' (fun k_ => P0_ k_) := by
  unfold slices_Sort_string_string.f at h
  split at h
  case isFalse => cases h
  rename_i hz0
  cases h
  have ho := Kd.own_of_R ho0
  obtain ⟨hlen, ho⟩ := ho
  rcases ho with ⟨rfl, h0⟩ | ⟨g, cap, cur, rfl, hbase, hb, h1, h2, h3, h4⟩
  · obtain rfl := List.length_eq_zero_iff.1 h0
    refine (Try.slices_Sort_string_none none 0 w).mono ?_
    rintro e w' ⟨rfl, rfl⟩
    exact ⟨rfl, by simpa [sortS] using Kd.R_mono ho0 (fun k hk => .inl hk), hB, Kept.refl _ _⟩
  · have e4 : cur.toList.take (l0.map toL).length = (l0.map toL).map encStr := by
      rw [← encs_toL, List.length_map]
      rw [Nat.mul_one] at h4
      exact h4
    have hP : P0_ g := ho0.1 g rfl
    have hg : g < w.heap.size := (Array.getElem?_eq_some_iff.1 hb).1
    have hz : (l0.map toL).length < 4611686018427387904 := by rw [List.length_map]; exact hz0
    have c := Try.slices_Sort_string g 0 cap (l0.map toL) w (so_holds hb e4) hg hz
    rw [List.length_map] at c
    refine c.mono ?_
    rintro e w' ⟨rfl, n, os, rfl⟩
    have hgr := so_grown (w := w) (g := g) (n := n) (os := os) (enc := encStr) ((l0.map toL).mergeSort fun x y => decide (x ≤ y)).toArray
    refine ⟨rfl, ?_, so_below hB hgr hbase, so_kept hgr hP⟩
    have hr := so_owns (w := w) (n := n) (os := os) (enc := encStr) (m := l0.length) (ts := (l0.map toL).mergeSort fun x y => decide (x ≤ y)) (ss := l0.map toL) (by simp) (by simp) hbase hb (by simpa using h1) h2 h3
    refine Kd.R_of_own ?_ (fun k hk => .inl (ho0.1 k hk))
    rw [List.take_of_length_le (by simp), encs_ofL] at hr
    rw [sortS_len]
    simpa [sortS, encs] using hr
end Go.Proofs.Ytnepgcbgkhikkaa.H
namespace Go.Proofs.Ytnepgcbgkhikkaa.H
open Go.RowKit Go.Proofs.YtnepgcbgkhikkaaW.PrintWords Go.Proofs.YtnepgcbgkhikkaaW.PrintLast Go.Proofs.YtnepgcbgkhikkaaW.PrintMore
attribute [local go_sem] max2_int min2_int max_two min_two max_three min_three max_four min_four
set_option linter.unusedVariables false
set_option linter.unusedSimpArgs false
def cfg_sorted_string.f (l0 : List ByteArray) : Option (List ByteArray) := (slices_Clone_string_string.f l0).bind fun t101 => ((slices_Sort_string_string.f t101).bind fun t104 => ((slices_Compact_string_string.f t104).bind fun t105 => (some t105)))
set_option maxHeartbeats 8000000 in
set_option maxRecDepth 100000 in
theorem cfg_sorted_string.calls (A0 : Option Addr) (c0 : Nat) (l0 : List ByteArray) (r : List ByteArray) (w : World) (hr0 : Kd.C Kd.string w A0 l0.length l0) (hc0 : l0.length ≤ c0) (h : cfg_sorted_string.f l0 = some r) :
  Calls Try.prog 50 #[.slice A0 l0.length c0] w fun e w' => ∃ v0_ : Value, e = .returned (v0_) ∧ Kd.R Kd.string 9 w' w.heap.size (fun _ => True) v0_ r ∧ Below w.heap.size w w' := by
 have HR0 := Aside0.mk hr0
 have HC0 := Aside0.mk hc0
 clear hr0 hc0
 have HB := Aside0.mk (Below.refl w.heap.size w)
 have H : ((slices_Clone_string_string.f l0).bind fun t101 => ((slices_Sort_string_string.f t101).bind fun t104 => ((slices_Compact_string_string.f t104).bind fun t105 => (some t105)))) = some r := h
 clear h
 replace H := Option.bind_eq_some_iff.mp H
 obtain ⟨t101, A20, H⟩ := H
 replace H : ((slices_Sort_string_string.f t101).bind fun t104 => ((slices_Compact_string_string.f t104).bind fun t105 => (some t105))) = some r := H
 have A2 := Aside0.mk A20
 clear A20
 replace H := Option.bind_eq_some_iff.mp H
 obtain ⟨t104, A30, H⟩ := H
 replace H : ((slices_Compact_string_string.f t104).bind fun t105 => (some t105)) = some r := H
 have A3 := Aside0.mk A30
 clear A30
 replace H := Option.bind_eq_some_iff.mp H
 obtain ⟨t105, A40, H⟩ := H
 replace H : (some t105) = some r := H
 have A4 := Aside0.mk A40
 clear A40
 obtain rfl := Option.some.inj H
 go_enter Try.func50, Try.ntmps50
 go_wp2_with (first | ((with_reducible refine gate_callee (f := 66) rfl ?_); refine goesL_ (some 5) rfl rfl Try.func66 (by kernel_rfl) rfl #[.slice A0 l0.length c0] rfl (by (try simp only [List.map_toArray, List.map_cons, List.map_nil]); first | done | rfl | (simp only [List.length_drop, List.length_take]; rfl)) ?_; (with_reducible refine (slices_Clone_string_string.calls _ _ l0 t101 _ ?side1 ?side2 A2.out).mono ?_); (case side1 => repeat (first | exact HR0.out | (with_reducible refine Kd.C_alloc ?_ _) | (with_reducible refine Kd.C_drewN ?_ _) | (with_reducible refine Kd.C_drew ?_))); (case side2 => exact HC0.out); rintro e w5 ⟨v102, rfl, ho0, hb⟩; refine ⟨_, rfl, ?_⟩; have n0_ := Aside0.mk (Kd.R_lower ho0 (below_size (by repeat (first | (with_reducible first | exact HB.out | apply below_alloc | apply pw_below_drewN | apply below_drew1) | exact HB.out)))); have n1_ := Aside0.mk (below_step (by repeat (first | (with_reducible first | exact HB.out | apply below_alloc | apply pw_below_drewN | apply below_drew1) | exact HB.out)) hb); clear HB; have HO103 := n0_; have HB := n1_; clear n0_ n1_; (try clear hb); (try clear hb2); (try clear hk); (try clear hi); (try clear ho0); obtain ⟨Ao6, co6, eo6⟩ := Kd.R_slice HO103.out; subst eo6) | ((with_reducible refine gate_callee (f := 67) rfl ?_); refine goesL_ (some 7) rfl rfl Try.func67 (by kernel_rfl) rfl #[.slice Ao6 t101.length co6] rfl (by (try simp only [List.map_toArray, List.map_cons, List.map_nil]); first | done | rfl | (simp only [List.length_drop, List.length_take]; rfl)) ?_; (with_reducible refine (slices_Sort_string_string.calls (fun k_ => some k_ = (.slice Ao6 t101.length co6 : Value).ownBlock) (.slice Ao6 t101.length co6) t101 t104 w _ ?side1 ?side2 A3.out).mono ?_); (case side1 => repeat (first | (with_reducible first | exact HB.out | apply below_alloc | apply pw_below_drewN | apply below_drew1) | exact HB.out)); (case side2 => exact Kd.R_tight rfl HO103.out); rintro e w7 ⟨rfl, hy0, hb, hkp⟩; refine ⟨_, rfl, ?_⟩; have n0_ := Aside0.mk (Kd.R_reok rfl hy0 (fun k_ e_ => HO103.out.1 k_ e_)); have n1_ := Aside0.mk (hb); clear HO103; clear HB; have HO103 := n0_; have HB := n1_; clear n0_ n1_; (try clear hb); (try clear hkp); (try clear hy0)) | ((with_reducible refine gate_callee (f := 68) rfl ?_); refine goesL_ (some 9) rfl rfl Try.func68 (by kernel_rfl) rfl #[.slice Ao6 t101.length co6] rfl (by (try simp only [List.map_toArray, List.map_cons, List.map_nil]); first | done | rfl | (simp only [List.length_drop, List.length_take]; rfl)) ?_; (with_reducible refine (slices_Compact_string_string.calls (fun k_ => some k_ = (.slice Ao6 t101.length co6 : Value).ownBlock) (.slice Ao6 t101.length co6) t104 t105 w _ ?side1 ?side2 A4.out).mono ?_); (case side1 => repeat (first | (with_reducible first | exact HB.out | apply below_alloc | apply pw_below_drewN | apply below_drew1) | exact HB.out)); (case side2 => exact Kd.R_tight rfl HO103.out); rintro e w8 ⟨v106, rfl, ho0, hb, hkp⟩; refine ⟨_, rfl, ?_⟩; have n0_ := Aside0.mk (Kd.R_mono (ok' := fun k_ => True) ho0 (fun k_ hk_ => trivial)); have n1_ := Aside0.mk (hb); clear HB; clear HO103; have HO107 := n0_; have HB := n1_; clear n0_ n1_; (try clear hb); (try clear hkp); (try clear ho0)))
 go_ret
 exact ⟨_, by first | rfl | (simp [errW_none, errW_some] <;> rfl) | (simp [*, errW_none, errW_some] <;> rfl), by (with_reducible repeat (first | apply Kd.R_alloc | apply Kd.R_drewN | apply Kd.R_drew)); exact HO107.out, by repeat (first | (with_reducible first | exact HB.out | apply below_alloc | apply pw_below_drewN | apply below_drew1) | exact HB.out)⟩
end Go.Proofs.Ytnepgcbgkhikkaa.H
